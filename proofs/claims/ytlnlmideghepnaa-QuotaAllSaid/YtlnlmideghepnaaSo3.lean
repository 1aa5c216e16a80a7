/- slices.Sort of whole numbers: partial insertion, the partitions. -/
import Derived.Test.YtlnlmideghepnaaSo2
namespace Go.Proofs.Ytlnlmideghepnaa.K
open Go Go.Sort
section
variable {h : H} {s : Sl} {d : Array Int}
theorem shiftDown_go {j : Nat} {d : Array Int} (h1 : 1 ≤ j) (h2 : ltInt d[j]! d[j - 1]! = true) : shiftDown ltInt j d = shiftDown ltInt (j - 1) (swp d j (j - 1)) := by
  cases j with
  | zero => omega
  | succ j =>
    rw [shiftDown, if_neg]
    · rfl
    · have h2 : ltInt d[j + 1]! d[j]! = true := h2
      rw [h2]; simp
theorem shiftDown_stop {j : Nat} {d : Array Int} (h2 : j = 0 ∨ ltInt d[j]! d[j - 1]! = false) : shiftDown ltInt j d = d := by
  cases j with
  | zero => rfl
  | succ j =>
    rw [shiftDown, if_pos]
    rcases h2 with q | q
    · omega
    · have q : ltInt d[j + 1]! d[j]! = false := q
      rw [q]; rfl
theorem shiftDown_size : ∀ (j : Nat) (d : Array Int), (shiftDown ltInt j d).size = d.size := by
  intro j
  induction j with
  | zero => intro d; rfl
  | succ j ih =>
    intro d
    rw [shiftDown]
    split
    · rfl
    · rw [ih, swp_size]
theorem t_partialIns {a b : Nat} (x : BufI h s d) (hab : a < b) (hb : b ≤ d.size) (hn : d.size ≤ 2 ^ 40) {K : Bool → H → Prop} (y : ∀ h', BufI h' s (partialInsertionSort ltInt d a b).1 → Wrote s h h' → K (partialInsertionSort ltInt d a b).2 h') : m_slices_partialInsertionSortOrdered_int s (a : Int) (b : Int) K h := by
  unfold m_slices_partialInsertionSortOrdered_int
  rw [ia1 a (by omega), is_ b a (by omega) (by omega)]
  unfold partialInsertionSort at y
  refine w_loop (fun z => 5 - z.2.toNat) (fun z h' => ∃ (i t : Nat) (e : Array Int), z = ((i : Int), ((5 - t : Nat) : Int)) ∧ t ≤ 5 ∧ a < i ∧ i ≤ b ∧ e.size = d.size ∧ BufI h' s e ∧ partialIns ltInt a b t i e = partialIns ltInt a b 5 (a + 1) d ∧ Wrote s h h') ?_ ⟨a + 1, 5, d, rfl, Nat.le_refl _, by omega, hab, rfl, x, rfl, .refl _ _⟩
  rintro rec _ h1 ⟨i, t, e, rfl, ht, hai, hib, he, x1, eq1, w1⟩ more
  refine w_if' (fun c => ?_) fun c => ?_
  · have c : ((5 - t : Nat) : Int) < 5 := c
    obtain ⟨t, rfl⟩ : ∃ q, t = q + 1 := ⟨t - 1, by omega⟩
    rw [partialIns_succ] at eq1
    refine w_loop (fun z => b - z.toNat) (fun z h' => h1 = h' ∧ ∃ i' : Nat, z = (i' : Int) ∧ a < i' ∧ i' ≤ b ∧ scanSorted ltInt e b i' = scanSorted ltInt e b i) ?_ ⟨rfl, i, rfl, hai, hib, rfl⟩
    rintro rec2 _ _ ⟨rfl, k, rfl, hak, hkb, eqs⟩ more2
    refine w_joinV (decide (k < b) && !ltInt e[k]! e[k - 1]!) (fun j hj => w_if' (fun c2 => ?_) fun c2 => ?_) ?_
    · have c2 : k < b := by omega
      refine rdB x1 (i := k) (i' := k - 1) (by omega) (by omega) rfl (is1 k (by omega) (by omega)) (w_less ?_)
      rw [decide_eq_true c2, Bool.true_and] at hj
      exact hj
    · have c2 : ¬ k < b := by omega
      rw [decide_eq_false c2, Bool.false_and] at hj
      exact hj
    · rw [scanSorted] at eqs
      refine w_if (fun c2 => ?_) fun c2 => ?_
      · rw [if_pos c2] at eqs
        rw [Bool.and_eq_true, decide_eq_true_eq] at c2
        rw [ia1 k (by omega)]
        exact more2 _ _ ⟨rfl, k + 1, rfl, by omega, by omega, eqs⟩ (by simp only [Int.toNat_natCast]; omega)
      · rw [if_neg (by rw [c2]; simp)] at eqs
        rw [← eqs] at eq1
        clear more2 rec2 c2 eqs
        refine w_if' (fun c3 => ?_) fun c3 => ?_
        · have c3 : k = b := by omega
          rw [if_pos c3] at eq1
          rw [← eq1] at y
          exact y h1 x1 w1
        have c3 : ¬ k = b := by omega
        rw [if_neg c3] at eq1
        refine w_if' (fun c4 => ?_) fun c4 => ?_
        · have c4 : b - a < 50 := by omega
          rw [if_pos c4] at eq1
          rw [← eq1] at y
          exact y h1 x1 w1
        have c4 : ¬ b - a < 50 := by omega
        rw [if_neg c4] at eq1
        rw [is1 k (by omega) (by omega)]
        refine w_swp x1 (i := k) (j := k - 1) (by omega) (by omega) rfl rfl fun h2 x2 w2 => ?_
        have he2 : (swp e k (k - 1)).size = d.size := by rw [swp_size]; exact he
        have w12 := w1.trans w2
        generalize swp e k (k - 1) = e2 at eq1 x2 he2
        clear x1 w1 w2
        rw [is_ b k (by omega) hkb, is_ k a (by omega) (by omega), ia1 k (by omega)]
        have fin : ∀ (e3 : Array Int) (h3 : H), e3.size = d.size → BufI h3 s e3 → Wrote s h h3 → partialIns ltInt a b t k e3 = partialIns ltInt a b 5 (a + 1) d → rec ((k : Int), iAdd .i64 ((5 - (t + 1) : Nat) : Int) 1) h3 := fun e3 h3 z1 z2 z3 z4 => by
          have e5 : iAdd .i64 ((5 - (t + 1) : Nat) : Int) 1 = ((5 - t : Nat) : Int) := by rw [iAdd_eq (by omega) (by omega)]; omega
          rw [e5]
          exact more _ _ ⟨k, t, e3, rfl, by omega, hak, hkb, z1, z2, z4, z3⟩ (by show 5 - ((5 - t : Nat) : Int).toNat < 5 - ((5 - (t + 1) : Nat) : Int).toNat; omega)
        refine w_joinP (fun _ h' => ∃ e3 : Array Int, e3.size = d.size ∧ BufI h' s e3 ∧ fixDown ltInt a k e2 = e3 ∧ Wrote s h h') (fun j hj => ?_) ?_
        · unfold fixDown at hj
          refine w_if' (fun c5 => ?_) fun c5 => ?_
          · have c5 : k - a ≥ 2 := by omega
            simp only [if_pos c5] at hj
            refine w_loop (fun z => z.toNat) (fun z h' => ∃ (q : Nat) (e3 : Array Int), z = (q : Int) ∧ q < d.size ∧ e3.size = d.size ∧ BufI h' s e3 ∧ shiftDown ltInt q e3 = shiftDown ltInt (k - 1) e2 ∧ Wrote s h h') ?_ ⟨k - 1, e2, rfl, by omega, he2, x2, rfl, w12⟩
            rintro rec3 _ h3 ⟨q, e3, rfl, hq, he3, x3, eq3, w3⟩ more3
            refine w_if' (fun c6 => ?_) fun c6 => ?_
            · have c6 : 1 ≤ q := by omega
              rw [is1 q (by omega) (by omega)]
              refine rdB x3 (i := q) (i' := q - 1) (by omega) (by omega) rfl rfl (w_less (w_if (fun c7 => ?_) fun c7 => ?_))
              · rw [Bool.not_eq_true'] at c7
                rw [shiftDown_stop (.inr c7)] at eq3
                exact hj () h3 ⟨e3, he3, x3, eq3.symm, w3⟩
              · rw [Bool.not_eq_false'] at c7
                rw [shiftDown_go c6 c7] at eq3
                refine w_swp x3 (i := q) (j := q - 1) (by omega) (by omega) rfl rfl fun h4 x4 w4 => ?_
                exact more3 _ _ ⟨q - 1, _, rfl, by omega, by rw [swp_size]; exact he3, x4, eq3, w3.trans w4⟩ (by omega)
            · have c6 : q = 0 := by omega
              rw [shiftDown_stop (.inl c6)] at eq3
              exact hj () h3 ⟨e3, he3, x3, eq3.symm, w3⟩
          · have c5 : ¬ k - a ≥ 2 := by omega
            simp only [if_neg c5] at hj
            exact hj () h2 ⟨e2, he2, x2, rfl, w12⟩
        · rintro _ h3 ⟨e3, he3, x3, eq3, w3⟩
          rw [eq3] at eq1
          unfold fixUp at eq1
          refine w_if' (fun c5 => ?_) fun c5 => ?_
          · have c5 : b - k ≥ 2 := by omega
            rw [if_pos c5] at eq1
            refine w_loop (fun z => b - z.toNat) (fun z h' => ∃ (q : Nat) (e4 : Array Int), z = (q : Int) ∧ k < q ∧ q ≤ b ∧ e4.size = d.size ∧ BufI h' s e4 ∧ shiftUp ltInt b q e4 = shiftUp ltInt b (k + 1) e3 ∧ Wrote s h h') ?_ ⟨k + 1, e3, rfl, by omega, by omega, he3, x3, rfl, w3⟩
            rintro rec3 _ h4 ⟨q, e4, rfl, hkq, hq, he4, x4, eq4, w4⟩ more3
            rw [shiftUp] at eq4
            refine w_if' (fun c6 => ?_) fun c6 => ?_
            · have c6 : q < b := by omega
              rw [if_pos c6] at eq4
              rw [is1 q (by omega) (by omega)]
              refine rdB x4 (i := q) (i' := q - 1) (by omega) (by omega) rfl rfl (w_less (w_if (fun c7 => ?_) fun c7 => ?_))
              · rw [if_pos c7] at eq4
                exact fin e4 h4 he4 x4 w4 (by rw [eq4]; exact eq1)
              · rw [if_neg (by rw [c7]; simp)] at eq4
                refine w_swp x4 (i := q) (j := q - 1) (by omega) (by omega) rfl rfl fun h5 x5 w5 => ?_
                rw [ia1 q (by omega)]
                exact more3 _ _ ⟨q + 1, _, rfl, by omega, by omega, by rw [swp_size]; exact he4, x5, eq4, w4.trans w5⟩ (by simp only [Int.toNat_natCast]; omega)
            · have c6 : ¬ q < b := by omega
              rw [if_neg c6] at eq4
              exact fin e4 h4 he4 x4 w4 (by rw [eq4]; exact eq1)
          · have c5 : ¬ b - k ≥ 2 := by omega
            rw [if_neg c5] at eq1
            exact fin e3 h3 he3 x3 w3 eq1
  · have c : ¬ ((5 - t : Nat) : Int) < 5 := c
    have ht0 : t = 0 := by omega
    subst ht0
    rw [show partialIns ltInt a b 0 i e = (e, false) from rfl] at eq1
    rw [← eq1] at y
    exact y h1 x1 w1
/-! the scans -/
theorem scanUp_ge (p : Int → Bool) (d : Array Int) (j : Nat) : ∀ (m i : Nat), j + 1 - i ≤ m → i ≤ scanUp p d j i ∧ scanUp p d j i ≤ max i (j + 1) := by
  intro m
  induction m with
  | zero =>
    intro i hm
    rw [scanUp, if_neg (fun q => by rw [Bool.and_eq_true, decide_eq_true_eq] at q; omega)]
    omega
  | succ m ih =>
    intro i hm
    rw [scanUp]
    split
    · rename_i q
      rw [Bool.and_eq_true, decide_eq_true_eq] at q
      have := ih (i + 1) (by omega)
      omega
    · omega
theorem scanDown_le (p : Int → Bool) (d : Array Int) (i : Nat) : ∀ j, scanDown p d i j ≤ j ∧ min j (i - 1) ≤ scanDown p d i j := by
  intro j
  induction j with
  | zero => simp [scanDown]
  | succ j ih =>
    rw [scanDown]
    split
    · rename_i q
      rw [Bool.and_eq_true, decide_eq_true_eq] at q
      omega
    · omega
theorem scanDown_go {p : Int → Bool} {d : Array Int} {i j : Nat} (h0 : 1 ≤ i) (h : i ≤ j) (hp : p d[j]! = true) : scanDown p d i j = scanDown p d i (j - 1) := by
  cases j with
  | zero => omega
  | succ j =>
    rw [scanDown, if_pos]
    · rfl
    · rw [Bool.and_eq_true, decide_eq_true_eq]; exact ⟨h, hp⟩
theorem scanDown_stop {p : Int → Bool} {d : Array Int} {i j : Nat} (h : ¬ (i ≤ j ∧ p d[j]! = true)) : scanDown p d i j = j := by
  cases j with
  | zero => rfl
  | succ j =>
    rw [scanDown, if_neg]
    intro q
    rw [Bool.and_eq_true, decide_eq_true_eq] at q
    exact h q
theorem t_partEq {a b p : Nat} (x : BufI h s d) (hap : a ≤ p) (hpb : p < b) (hb : b ≤ d.size) (hn : d.size ≤ 2 ^ 40) {K : Int → H → Prop} (y : ∀ h', BufI h' s (partitionEqual ltInt d a b p).2 → Wrote s h h' → K (((partitionEqual ltInt d a b p).1 : Nat) : Int) h') : m_slices_partitionEqualOrdered_int s (a : Int) (b : Int) (p : Int) K h := by
  unfold m_slices_partitionEqualOrdered_int
  unfold partitionEqual at y
  refine w_swp x (i := a) (j := p) (by omega) (by omega) rfl rfl fun h0 x0 w0 => ?_
  have hs0 : (swp d a p).size = d.size := swp_size _ _ _
  generalize swp d a p = d0 at x0 y hs0
  rw [ia1 a (by omega), is1 b (by omega) (by omega)]
  refine w_loop (fun z => (z.2 + 1 - z.1).toNat) (fun z h' => ∃ (i j : Nat) (e : Array Int), z = ((i : Int), (j : Int)) ∧ a < i ∧ i ≤ j + 2 ∧ j < b ∧ e.size = d.size ∧ BufI h' s e ∧ partEqLoop ltInt a i j e = partEqLoop ltInt a (a + 1) (b - 1) d0 ∧ Wrote s h h') ?_ ⟨a + 1, b - 1, d0, rfl, by omega, by omega, by omega, hs0, x0, rfl, w0⟩
  rintro rec _ h1 ⟨i, j, e, rfl, hi, hij, hj, he, x1, eq1, w1⟩ more
  refine w_loop (fun z => j + 1 - z.toNat) (fun z h' => h1 = h' ∧ ∃ i' : Nat, z = (i' : Int) ∧ i ≤ i' ∧ i' ≤ max i (j + 1) ∧ scanUp (fun x => !ltInt e[a]! x) e j i' = scanUp (fun x => !ltInt e[a]! x) e j i) ?_ ⟨rfl, i, rfl, Nat.le_refl _, Nat.le_max_left _ _, rfl⟩
  rintro rec2 _ _ ⟨rfl, k, rfl, hik, hkj, eqs⟩ more2
  refine w_joinV (decide (k ≤ j) && !ltInt e[a]! e[k]!) (fun c hc => w_if' (fun c2 => ?_) fun c2 => ?_) ?_
  · have c2 : (k : Int) ≤ (j : Int) := c2
    have c2 : k ≤ j := by omega
    refine rdB x1 (i := a) (i' := k) (by omega) (by omega) rfl rfl (w_less ?_)
    rw [decide_eq_true c2, Bool.true_and] at hc
    exact hc
  · have c2 : ¬ (k : Int) ≤ (j : Int) := c2
    have c2 : ¬ k ≤ j := by omega
    rw [decide_eq_false c2, Bool.false_and] at hc
    exact hc
  rw [scanUp] at eqs
  refine w_if (fun c2 => ?_) fun c2 => ?_
  · rw [if_pos c2] at eqs
    rw [Bool.and_eq_true, decide_eq_true_eq] at c2
    rw [ia1 k (by omega)]
    exact more2 _ _ ⟨rfl, k + 1, rfl, by omega, by omega, eqs⟩ (by simp only [Int.toNat_natCast]; omega)
  rw [if_neg (by rw [c2]; simp)] at eqs
  clear more2 rec2 c2
  rw [partEqLoop, ← eqs] at eq1
  refine w_loop (fun z => z.toNat) (fun z h' => h1 = h' ∧ ∃ j' : Nat, z = (j' : Int) ∧ j' ≤ j ∧ min j (k - 1) ≤ j' ∧ scanDown (fun x => ltInt e[a]! x) e k j' = scanDown (fun x => ltInt e[a]! x) e k j) ?_ ⟨rfl, j, rfl, Nat.le_refl _, Nat.min_le_left _ _, rfl⟩
  rintro rec3 _ _ ⟨rfl, l, rfl, hlj, hlk, eqd⟩ more3
  refine w_joinV (decide (k ≤ l) && ltInt e[a]! e[l]!) (fun c hc => w_if' (fun c2 => ?_) fun c2 => ?_) ?_
  · have c2 : k ≤ l := by omega
    refine rdB x1 (i := a) (i' := l) (by omega) (by omega) rfl rfl (w_less ?_)
    rw [decide_eq_true c2, Bool.true_and] at hc
    exact hc
  · have c2 : ¬ k ≤ l := by omega
    rw [decide_eq_false c2, Bool.false_and] at hc
    exact hc
  refine w_if (fun c2 => ?_) fun c2 => ?_
  · rw [Bool.and_eq_true, decide_eq_true_eq] at c2
    rw [scanDown_go (by omega) c2.1 c2.2] at eqd
    rw [is1 l (by omega) (by omega)]
    exact more3 _ _ ⟨rfl, l - 1, rfl, by omega, by omega, eqd⟩ (by omega)
  have c2 : ¬ (k ≤ l ∧ ltInt e[a]! e[l]! = true) := fun q => by rw [q.2, decide_eq_true q.1] at c2; cases c2
  rw [scanDown_stop c2] at eqd
  rw [← eqd] at eq1
  clear more3 rec3
  refine w_if' (fun c3 => ?_) fun c3 => ?_
  · have c3 : k > l := by omega
    rw [if_pos c3] at eq1
    rw [← eq1] at y
    exact y h1 x1 w1
  have c3 : ¬ k > l := by omega
  rw [if_neg c3, dif_pos (by omega)] at eq1
  refine w_swp x1 (i := k) (j := l) (by omega) (by omega) rfl rfl fun h2 x2 w2 => ?_
  rw [ia1 k (by omega), is1 l (by omega) (by omega)]
  exact more _ _ ⟨k + 1, l - 1, _, rfl, by omega, by omega, by omega, by rw [swp_size]; exact he, x2, eq1, w1.trans w2⟩ (by show (((l - 1 : Nat) : Int) + 1 - ((k + 1 : Nat) : Int)).toNat < ((j : Int) + 1 - (i : Int)).toNat; omega)
end
end Go.Proofs.Ytlnlmideghepnaa.K
