/- slices.Sort of whole numbers: partitionOrdered. -/
import Derived.Test.YtlnlmideghepnaaSo3
namespace Go.Proofs.Ytlnlmideghepnaa.K
open Go Go.Sort
section
variable {h : H} {s : Sl} {d : Array Int}
theorem t_partition {a b p : Nat} (x : BufI h s d) (hap : a ≤ p) (hpb : p < b) (hb : b ≤ d.size) (hn : d.size ≤ 2 ^ 40) {K : Int × Bool → H → Prop}
    (y : ∀ h', BufI h' s (partition ltInt d a b p).2.2 → Wrote s h h' → K ((((partition ltInt d a b p).1 : Nat) : Int), (partition ltInt d a b p).2.1) h') : m_slices_partitionOrdered_int s (a : Int) (b : Int) (p : Int) K h := by
  unfold m_slices_partitionOrdered_int
  refine w_swp x (i := a) (j := p) (by omega) (by omega) rfl rfl fun h0 x0 w0 => ?_
  have hs0 : (swp d a p).size = d.size := swp_size _ _ _
  have hP : partition ltInt d a b p = (if scanUp (fun x => ltInt x (swp d a p)[a]!) (swp d a p) (b - 1) (a + 1) > scanDown (fun x => !ltInt x (swp d a p)[a]!) (swp d a p) (scanUp (fun x => ltInt x (swp d a p)[a]!) (swp d a p) (b - 1) (a + 1)) (b - 1) then
      (scanDown (fun x => !ltInt x (swp d a p)[a]!) (swp d a p) (scanUp (fun x => ltInt x (swp d a p)[a]!) (swp d a p) (b - 1) (a + 1)) (b - 1), true, swp (swp d a p) (scanDown (fun x => !ltInt x (swp d a p)[a]!) (swp d a p) (scanUp (fun x => ltInt x (swp d a p)[a]!) (swp d a p) (b - 1) (a + 1)) (b - 1)) a) else
      ((partLoop ltInt a (scanUp (fun x => ltInt x (swp d a p)[a]!) (swp d a p) (b - 1) (a + 1) + 1) (scanDown (fun x => !ltInt x (swp d a p)[a]!) (swp d a p) (scanUp (fun x => ltInt x (swp d a p)[a]!) (swp d a p) (b - 1) (a + 1)) (b - 1) - 1) (swp (swp d a p) (scanUp (fun x => ltInt x (swp d a p)[a]!) (swp d a p) (b - 1) (a + 1)) (scanDown (fun x => !ltInt x (swp d a p)[a]!) (swp d a p) (scanUp (fun x => ltInt x (swp d a p)[a]!) (swp d a p) (b - 1) (a + 1)) (b - 1)))).1, false,
        swp (partLoop ltInt a (scanUp (fun x => ltInt x (swp d a p)[a]!) (swp d a p) (b - 1) (a + 1) + 1) (scanDown (fun x => !ltInt x (swp d a p)[a]!) (swp d a p) (scanUp (fun x => ltInt x (swp d a p)[a]!) (swp d a p) (b - 1) (a + 1)) (b - 1) - 1) (swp (swp d a p) (scanUp (fun x => ltInt x (swp d a p)[a]!) (swp d a p) (b - 1) (a + 1)) (scanDown (fun x => !ltInt x (swp d a p)[a]!) (swp d a p) (scanUp (fun x => ltInt x (swp d a p)[a]!) (swp d a p) (b - 1) (a + 1)) (b - 1)))).2
          (partLoop ltInt a (scanUp (fun x => ltInt x (swp d a p)[a]!) (swp d a p) (b - 1) (a + 1) + 1) (scanDown (fun x => !ltInt x (swp d a p)[a]!) (swp d a p) (scanUp (fun x => ltInt x (swp d a p)[a]!) (swp d a p) (b - 1) (a + 1)) (b - 1) - 1) (swp (swp d a p) (scanUp (fun x => ltInt x (swp d a p)[a]!) (swp d a p) (b - 1) (a + 1)) (scanDown (fun x => !ltInt x (swp d a p)[a]!) (swp d a p) (scanUp (fun x => ltInt x (swp d a p)[a]!) (swp d a p) (b - 1) (a + 1)) (b - 1)))).1 a)) := rfl
  rw [hP] at y
  clear hP
  generalize swp d a p = d0 at x0 y hs0
  rw [ia1 a (by omega), is1 b (by omega) (by omega)]
  refine w_loop (fun z => b - z.toNat) (fun z h' => h0 = h' ∧ ∃ i : Nat, z = (i : Int) ∧ a + 1 ≤ i ∧ i ≤ b ∧ scanUp (fun x => ltInt x d0[a]!) d0 (b - 1) i = scanUp (fun x => ltInt x d0[a]!) d0 (b - 1) (a + 1)) ?_ ⟨rfl, a + 1, rfl, Nat.le_refl _, by omega, rfl⟩
  rintro rec _ _ ⟨rfl, k, rfl, hak, hkb, eqs⟩ more
  refine w_joinV (decide (k ≤ b - 1) && ltInt d0[k]! d0[a]!) (fun c hc => w_if' (fun c2 => ?_) fun c2 => ?_) ?_
  · have c2 : k ≤ b - 1 := by omega
    refine rdB x0 (i := k) (i' := a) (by omega) (by omega) rfl rfl (w_less ?_)
    rw [decide_eq_true c2, Bool.true_and] at hc
    exact hc
  · have c2 : ¬ k ≤ b - 1 := by omega
    rw [decide_eq_false c2, Bool.false_and] at hc
    exact hc
  rw [scanUp] at eqs
  refine w_if (fun c2 => ?_) fun c2 => ?_
  · rw [if_pos c2] at eqs
    rw [Bool.and_eq_true, decide_eq_true_eq] at c2
    rw [ia1 k (by omega)]
    exact more _ _ ⟨rfl, k + 1, rfl, by omega, by omega, eqs⟩ (by simp only [Int.toNat_natCast]; omega)
  rw [if_neg (by rw [c2]; simp)] at eqs
  rw [← eqs] at y
  clear more rec c2 eqs
  refine w_loop (fun z => z.toNat) (fun z h' => h0 = h' ∧ ∃ j : Nat, z = (j : Int) ∧ j ≤ b - 1 ∧ min (b - 1) (k - 1) ≤ j ∧ scanDown (fun x => !ltInt x d0[a]!) d0 k j = scanDown (fun x => !ltInt x d0[a]!) d0 k (b - 1)) ?_ ⟨rfl, b - 1, rfl, Nat.le_refl _, Nat.min_le_left _ _, rfl⟩
  rintro rec _ _ ⟨rfl, l, rfl, hlb, hlk, eqd⟩ more
  refine w_joinV (decide (k ≤ l) && !ltInt d0[l]! d0[a]!) (fun c hc => w_if' (fun c2 => ?_) fun c2 => ?_) ?_
  · have c2 : k ≤ l := by omega
    refine rdB x0 (i := l) (i' := a) (by omega) (by omega) rfl rfl (w_less ?_)
    rw [decide_eq_true c2, Bool.true_and] at hc
    exact hc
  · have c2 : ¬ k ≤ l := by omega
    rw [decide_eq_false c2, Bool.false_and] at hc
    exact hc
  refine w_if (fun c2 => ?_) fun c2 => ?_
  · rw [Bool.and_eq_true, decide_eq_true_eq] at c2
    rw [scanDown_go (by omega) c2.1 c2.2] at eqd
    rw [is1 l (by omega) (by omega)]
    exact more _ _ ⟨rfl, l - 1, rfl, by omega, by omega, eqd⟩ (by omega)
  have c2 : ¬ (k ≤ l ∧ (!ltInt d0[l]! d0[a]!) = true) := fun q => by rw [q.2, decide_eq_true q.1] at c2; cases c2
  rw [scanDown_stop c2] at eqd
  rw [← eqd] at y
  clear more rec eqd c2
  refine w_if' (fun c3 => ?_) fun c3 => ?_
  · have c3 : k > l := by omega
    rw [if_pos c3] at y
    refine w_swp x0 (i := l) (j := a) (by omega) (by omega) rfl rfl fun h2 x2 w2 => ?_
    exact y h2 x2 (w0.trans w2)
  have c3 : ¬ k > l := by omega
  rw [if_neg c3] at y
  refine w_swp x0 (i := k) (j := l) (by omega) (by omega) rfl rfl fun h2 x2 w2 => ?_
  have hs2 : (swp d0 k l).size = d.size := by rw [swp_size]; exact hs0
  have w02 := w0.trans w2
  generalize swp d0 k l = d2 at x2 y hs2
  clear x0 w0 w2 hs0
  rw [ia1 k (by omega), is1 l (by omega) (by omega)]
  refine w_loop (fun z => (z.2 + 1 - z.1).toNat) (fun z h' => ∃ (i j : Nat) (e : Array Int), z = ((i : Int), (j : Int)) ∧ a < i ∧ i ≤ j + 2 ∧ j < b ∧ a ≤ j ∧ e.size = d.size ∧ BufI h' s e ∧ partLoop ltInt a i j e = partLoop ltInt a (k + 1) (l - 1) d2 ∧ Wrote s h h') ?_ ⟨k + 1, l - 1, d2, rfl, by omega, by omega, by omega, by omega, hs2, x2, rfl, w02⟩
  rintro rec _ h1 ⟨i, j, e, rfl, hi, hij, hj, haj, he, x1, eq1, w1⟩ more
  refine w_loop (fun z => j + 1 - z.toNat) (fun z h' => h1 = h' ∧ ∃ i' : Nat, z = (i' : Int) ∧ i ≤ i' ∧ i' ≤ max i (j + 1) ∧ scanUp (fun x => ltInt x e[a]!) e j i' = scanUp (fun x => ltInt x e[a]!) e j i) ?_ ⟨rfl, i, rfl, Nat.le_refl _, Nat.le_max_left _ _, rfl⟩
  rintro rec2 _ _ ⟨rfl, k2, rfl, hik, hkj, eqs⟩ more2
  refine w_joinV (decide (k2 ≤ j) && ltInt e[k2]! e[a]!) (fun c hc => w_if' (fun c2 => ?_) fun c2 => ?_) ?_
  · have c2 : (k2 : Int) ≤ (j : Int) := c2
    have c2 : k2 ≤ j := by omega
    refine rdB x1 (i := k2) (i' := a) (by omega) (by omega) rfl rfl (w_less ?_)
    rw [decide_eq_true c2, Bool.true_and] at hc
    exact hc
  · have c2 : ¬ (k2 : Int) ≤ (j : Int) := c2
    have c2 : ¬ k2 ≤ j := by omega
    rw [decide_eq_false c2, Bool.false_and] at hc
    exact hc
  rw [scanUp] at eqs
  refine w_if (fun c2 => ?_) fun c2 => ?_
  · rw [if_pos c2] at eqs
    rw [Bool.and_eq_true, decide_eq_true_eq] at c2
    rw [ia1 k2 (by omega)]
    exact more2 _ _ ⟨rfl, k2 + 1, rfl, by omega, by omega, eqs⟩ (by simp only [Int.toNat_natCast]; omega)
  rw [if_neg (by rw [c2]; simp)] at eqs
  clear more2 rec2 c2
  rw [partLoop, ← eqs] at eq1
  refine w_loop (fun z => z.toNat) (fun z h' => h1 = h' ∧ ∃ j' : Nat, z = (j' : Int) ∧ j' ≤ j ∧ min j (k2 - 1) ≤ j' ∧ scanDown (fun x => !ltInt x e[a]!) e k2 j' = scanDown (fun x => !ltInt x e[a]!) e k2 j) ?_ ⟨rfl, j, rfl, Nat.le_refl _, Nat.min_le_left _ _, rfl⟩
  rintro rec3 _ _ ⟨rfl, l2, rfl, hlj, hlk2, eqd⟩ more3
  refine w_joinV (decide (k2 ≤ l2) && !ltInt e[l2]! e[a]!) (fun c hc => w_if' (fun c2 => ?_) fun c2 => ?_) ?_
  · have c2 : k2 ≤ l2 := by omega
    refine rdB x1 (i := l2) (i' := a) (by omega) (by omega) rfl rfl (w_less ?_)
    rw [decide_eq_true c2, Bool.true_and] at hc
    exact hc
  · have c2 : ¬ k2 ≤ l2 := by omega
    rw [decide_eq_false c2, Bool.false_and] at hc
    exact hc
  refine w_if (fun c2 => ?_) fun c2 => ?_
  · rw [Bool.and_eq_true, decide_eq_true_eq] at c2
    rw [scanDown_go (by omega) c2.1 c2.2] at eqd
    rw [is1 l2 (by omega) (by omega)]
    exact more3 _ _ ⟨rfl, l2 - 1, rfl, by omega, by omega, eqd⟩ (by omega)
  have c2 : ¬ (k2 ≤ l2 ∧ (!ltInt e[l2]! e[a]!) = true) := fun q => by rw [q.2, decide_eq_true q.1] at c2; cases c2
  rw [scanDown_stop c2] at eqd
  rw [← eqd] at eq1
  clear more3 rec3
  refine w_if' (fun c3 => ?_) fun c3 => ?_
  · have c3 : k2 > l2 := by omega
    rw [if_pos c3] at eq1
    rw [← eq1] at y
    refine w_swp x1 (i := l2) (j := a) (by omega) (by omega) rfl rfl fun h2 x2 w2 => ?_
    exact y h2 x2 (w1.trans w2)
  have c3 : ¬ k2 > l2 := by omega
  rw [if_neg c3, dif_pos (by omega)] at eq1
  refine w_swp x1 (i := k2) (j := l2) (by omega) (by omega) rfl rfl fun h2 x2 w2 => ?_
  rw [ia1 k2 (by omega), is1 l2 (by omega) (by omega)]
  exact more _ _ ⟨k2 + 1, l2 - 1, _, rfl, by omega, by omega, by omega, by omega, by rw [swp_size]; exact he, x2, eq1, w1.trans w2⟩ (by show (((l2 - 1 : Nat) : Int) + 1 - ((k2 + 1 : Nat) : Int)).toNat < ((j : Int) + 1 - (i : Int)).toNat; omega)
end
end Go.Proofs.Ytlnlmideghepnaa.K
