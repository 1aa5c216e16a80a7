/- plainRuns: true at every input, the arguments as they were: no condition. Part 5 of 5. -/
import Derived.Test.YtbjkfllncegpcaaZR4
namespace Go.Proofs.Ytbjkfllncegpcaa.K
open Go Go.Sort
abbrev BufI (h : H) (s : Sl) (d : Array Int) : Prop := Buf (cInt .i64) 1 N_int h s d.toList
structure Wrote (s : Sl) (h h' : H) : Prop where
  but : But s.foot h h'
  dom : ∀ c, h' c = none → h c = none
theorem Wrote.refl (s : Sl) (h : H) : Wrote s h h := ⟨.refl _ _, fun _ e => e⟩
theorem Wrote.trans {s : Sl} {a b c : H} (x : Wrote s a b) (y : Wrote s b c) : Wrote s a c := ⟨x.but.trans y.but fun _ f => .inl f, fun n e => x.dom n (y.dom n e)⟩
section
variable {h : H} {s : Sl} {d : Array Int}
theorem get_bang {i : Nat} (hi : i < d.size) : d.toList[i]? = some d[i]! := by
  rw [Array.getElem?_toList, getElem!_pos d i hi, Array.getElem?_eq_getElem hi]
theorem rdB (x : BufI h s d) {i i' : Nat} (hi : i < d.size) (hi' : i' < d.size) {j j' : Int} (hj : j = i) (hj' : j' = i') {k : Int → Int → H → Prop} (y : k d[i]! d[i']! h) :
    mIdx s j 1 (fun a => mIdx s j' 1 fun a' => mLoad (cInt .i64) a fun x => mLoad (cInt .i64) a' fun x' => k x x') h :=
  w_idx ci_len x.arr (get_bang hi) hj fun _ _ h1 => w_idx ci_len x.arr (get_bang hi') hj' fun _ _ h2 => w_load h1 (w_load h2 y)
theorem w_swp (x : BufI h s d) {i j : Nat} (hi : i < d.size) (hj : j < d.size) {I J : Int} (eI : I = i) (eJ : J = j) {k : H → Prop} (y : ∀ h', BufI h' s (swp d i j) → Wrote s h h' → k h') :
    mIdx s J 1 (fun a => mIdx s I 1 fun a' => mLoad (cInt .i64) a fun x => mLoad (cInt .i64) a' fun x' => mIdx s I 1 fun b => mStore b [Value.int .i64 x] <| mIdx s J 1 fun b' => mStore b' [Value.int .i64 x'] k) h := by
  refine rdB x hj hi eJ eI ?_
  refine w_put ci_len x (i := i) (by simpa using hi) eI d[j]! rfl fun h1 x1 b1 d1 => ?_
  refine w_put ci_len x1 (i := j) (by simpa using hj) eJ d[i]! rfl fun h2 x2 b2 d2 => y h2 ?_ ⟨b1.trans b2 fun _ f => .inl f, fun c e => d1 c (d2 c e)⟩
  show Buf (cInt .i64) 1 N_int h2 s (swp d i j).toList
  unfold swp
  rw [Array.toList_setIfInBounds, Array.toList_setIfInBounds]
  exact x2
theorem w_less {x y : Int} {k : Bool → H → Prop} (z : k (ltInt x y) h) : mPure (m_cmp_Less_int x y) k h := by
  refine w_pure (ltInt x y) (fun h' k' q => ?_) z
  unfold m_cmp_Less_int
  refine w_pure false (fun h'' k'' q' => ?_) (w_ifF rfl q)
  unfold m_cmp_isNaN_int
  rw [decide_eq_true rfl]; exact q'
theorem insInner_stop {a j : Nat} {d : Array Int} (h : ¬ (a < j ∧ ltInt d[j]! d[j - 1]! = true)) : insInner ltInt a j d = d := by
  cases j with
  | zero => rfl
  | succ j =>
    unfold insInner
    rw [if_neg]
    intro q
    rw [Bool.and_eq_true, decide_eq_true_eq] at q
    exact h q
theorem insInner_go {a j : Nat} {d : Array Int} (h1 : a < j) (h2 : ltInt d[j]! d[j - 1]! = true) : insInner ltInt a j d = insInner ltInt a (j - 1) (swp d j (j - 1)) := by
  cases j with
  | zero => omega
  | succ j =>
    rw [insInner, if_pos]
    · rfl
    · rw [Bool.and_eq_true, decide_eq_true_eq]; exact ⟨h1, h2⟩
theorem t_insertion {a b : Nat} (x : BufI h s d) (hb : b ≤ d.size) (hn : d.size ≤ 2 ^ 40) {K : Unit → H → Prop} (y : ∀ h', BufI h' s (insertionSort ltInt d a b) → Wrote s h h' → K () h') (ha : a ≤ b) : m_slices_insertionSortOrdered_int s (a : Int) (b : Int) K h := by
  unfold m_slices_insertionSortOrdered_int
  rw [ia1 a (by omega)]
  refine w_loop (fun z => b - z.toNat) (fun z h' => ∃ (i : Nat) (e : Array Int), z = (i : Int) ∧ a + 1 ≤ i ∧ e.size = d.size ∧ BufI h' s e ∧ insOuter ltInt a b i e = insOuter ltInt a b (a + 1) d ∧ Wrote s h h') ?_ ⟨a + 1, d, rfl, Nat.le_refl _, rfl, x, rfl, .refl _ _⟩
  rintro rec _ h1 ⟨i, e, rfl, hi, he, x1, eq1, w1⟩ more
  refine w_if' (fun c => ?_) fun c => ?_
  · have c : i < b := by omega
    refine w_loop (fun z => z.toNat) (fun z h' => ∃ (j : Nat) (e' : Array Int), z = (j : Int) ∧ j ≤ i ∧ e'.size = d.size ∧ BufI h' s e' ∧ insInner ltInt a j e' = insInner ltInt a i e ∧ Wrote s h h') ?_ ⟨i, e, rfl, Nat.le_refl _, he, x1, rfl, w1⟩
    rintro rec2 _ h2 ⟨j, e', rfl, hj, he', x2, eq2, w2⟩ more2
    refine w_joinV (decide (a < j) && ltInt e'[j]! e'[j - 1]!) (fun k hk => w_if' (fun c2 => ?_) fun c2 => ?_) ?_
    · have c2 : a < j := by omega
      refine rdB x2 (i := j) (i' := j - 1) (by omega) (by omega) rfl (is1 j (by omega) (by omega)) (w_less ?_)
      rw [decide_eq_true c2, Bool.true_and] at hk
      exact hk
    · have c2 : ¬ a < j := by omega
      rw [decide_eq_false c2, Bool.false_and] at hk
      exact hk
    · refine w_if (fun c2 => ?_) fun c2 => ?_
      · rw [Bool.and_eq_true, decide_eq_true_eq] at c2
        rw [is1 j (by omega) (by omega)]
        refine w_swp x2 (i := j) (j := j - 1) (by omega) (by omega) rfl rfl fun h3 x3 w3 => ?_
        exact more2 _ _ ⟨j - 1, _, rfl, by omega, by rw [swp_size]; exact he', x3, by rw [← insInner_go c2.1 c2.2]; exact eq2, w2.trans w3⟩ (by omega)
      · have c2 : ¬ (a < j ∧ ltInt e'[j]! e'[j - 1]! = true) := by
          intro q
          rw [q.2, decide_eq_true q.1] at c2; cases c2
        rw [ia1 i (by omega)]
        rw [insInner_stop c2] at eq2
        refine more _ _ ⟨i + 1, e', rfl, by omega, he', x2, ?_, w2⟩ (by simp only [Int.toNat_natCast]; omega)
        rw [← eq1, eq2]
        conv => rhs; rw [insOuter, if_pos c]
  · have c : ¬ i < b := by omega
    refine y h1 ?_ w1
    have : insOuter ltInt a b i e = e := by rw [insOuter, if_neg c]
    unfold insertionSort
    rw [← eq1, this]; exact x1
theorem t_sift {lo hi first : Nat} (x : BufI h s d) (hb : first + hi ≤ d.size) (hlo : lo ≤ d.size) (hn : d.size ≤ 2 ^ 40) {K : Unit → H → Prop} (y : ∀ h', BufI h' s (siftDown ltInt hi first lo d) → Wrote s h h' → K () h') : m_slices_siftDownOrdered_int s (lo : Int) (hi : Int) (first : Int) K h := by
  unfold m_slices_siftDownOrdered_int
  refine w_loop (fun z => hi - z.toNat) (fun z h' => ∃ (r : Nat) (e : Array Int), z = (r : Int) ∧ r ≤ d.size ∧ e.size = d.size ∧ BufI h' s e ∧ siftDown ltInt hi first r e = siftDown ltInt hi first lo d ∧ Wrote s h h') ?_ ⟨lo, d, rfl, hlo, rfl, x, rfl, .refl _ _⟩
  rintro rec _ h1 ⟨r, e, rfl, hr, he, x1, eq1, w1⟩ more
  rw [im2 r (by omega), ia1 (2 * r) (by omega), ia1 (2 * r + 1) (by omega)]
  rw [siftDown] at eq1
  refine w_if' (fun c => ?_) fun c => ?_
  · have c : 2 * r + 1 ≥ hi := by omega
    rw [dif_pos c] at eq1
    exact y h1 (by rw [← eq1]; exact x1) w1
  have c : ¬ 2 * r + 1 ≥ hi := by omega
  rw [dif_neg c] at eq1
  rw [ia first (2 * r + 1) (by omega), ia1 (first + (2 * r + 1)) (by omega)]
  have rest : ∀ ch : Nat, 2 * r + 1 ≤ ch → ch < hi → (if (!ltInt e[first + r]! e[first + ch]!) = true then e else siftDown ltInt hi first ch (swp e (first + r) (first + ch))) = siftDown ltInt hi first lo d →
      (mIdx s (iAdd .i64 (first : Int) (r : Int)) 1 fun ad5 => mIdx s (iAdd .i64 (first : Int) (ch : Int)) 1 fun ad6 => mLoad (cInt .i64) ad5 fun x7 => mLoad (cInt .i64) ad6 fun x8 => mPure (m_cmp_Less_int x7 x8) fun r9 =>
        mIf (!r9) (K ()) (mIdx s (iAdd .i64 (first : Int) (ch : Int)) 1 fun ad10 => mIdx s (iAdd .i64 (first : Int) (r : Int)) 1 fun ad11 => mLoad (cInt .i64) ad10 fun x12 => mLoad (cInt .i64) ad11 fun x13 =>
          mIdx s (iAdd .i64 (first : Int) (r : Int)) 1 fun ad14 => mStore ad14 [Value.int .i64 x12] <| mIdx s (iAdd .i64 (first : Int) (ch : Int)) 1 fun ad15 => mStore ad15 [Value.int .i64 x13] <| rec (ch : Int))) h1 := fun ch h1c h2c q => by
    have e1 := ia first r (by omega)
    have e2 := ia first ch (by omega)
    rw [e1, e2]
    refine rdB x1 (i := first + r) (i' := first + ch) (by omega) (by omega) rfl rfl (w_less ?_)
    refine w_if (fun c2 => ?_) fun c2 => ?_
    · rw [if_pos c2] at q
      exact y h1 (by rw [← q]; exact x1) w1
    · rw [if_neg (by rw [c2]; simp)] at q
      refine w_swp x1 (i := first + r) (j := first + ch) (by omega) (by omega) rfl rfl fun h3 x3 w3 => ?_
      exact more _ _ ⟨ch, _, rfl, by omega, by rw [swp_size]; exact he, x3, q, w1.trans w3⟩ (by simp only [Int.toNat_natCast]; omega)
  refine w_joinP (fun z h' => h1 = h' ∧ ∃ ch : Nat, z = (ch : Int) ∧ 2 * r + 1 ≤ ch ∧ ch < hi ∧ (if (!ltInt e[first + r]! e[first + ch]!) = true then e else siftDown ltInt hi first ch (swp e (first + r) (first + ch))) = siftDown ltInt hi first lo d) (fun j hj => ?_) ?_
  · refine w_joinV (decide (2 * r + 1 + 1 < hi) && ltInt e[first + (2 * r + 1)]! e[first + (2 * r + 1) + 1]!) (fun k hk => w_if' (fun c2 => ?_) fun c2 => ?_) ?_
    · have c2 : 2 * r + 1 + 1 < hi := by omega
      refine rdB x1 (i := first + (2 * r + 1)) (i' := first + (2 * r + 1) + 1) (by omega) (by omega) rfl rfl (w_less ?_)
      rw [decide_eq_true c2, Bool.true_and] at hk
      exact hk
    · have c2 : ¬ 2 * r + 1 + 1 < hi := by omega
      rw [decide_eq_false c2, Bool.false_and] at hk
      exact hk
    · refine w_if (fun c2 => ?_) fun c2 => ?_
      · rw [if_pos c2] at eq1
        rw [Bool.and_eq_true, decide_eq_true_eq] at c2
        rw [dif_pos (show 2 * r + 2 < hi from c2.1)] at eq1
        exact hj _ _ ⟨rfl, 2 * r + 2, rfl, by omega, c2.1, eq1⟩
      · rw [if_neg (by rw [c2]; simp)] at eq1
        exact hj _ _ ⟨rfl, 2 * r + 1, rfl, by omega, by omega, eq1⟩
  · rintro _ _ ⟨rfl, ch, rfl, h1c, h2c, q⟩
    exact rest ch h1c h2c q
end
section
variable {h : H} {s : Sl} {d : Array Int}
theorem sift_size (hi first : Nat) : ∀ (m r : Nat) (e : Array Int), hi - r ≤ m → (siftDown ltInt hi first r e).size = e.size := by
  intro m
  induction m with
  | zero => intro r e hm; rw [siftDown, dif_pos (by omega)]
  | succ m ih =>
    intro r e hm
    rw [siftDown]
    by_cases c : 2 * r + 1 ≥ hi
    · rw [dif_pos c]
    rw [dif_neg c]
    split
    · split
      · rfl
      · split
        · rw [ih _ _ (by omega), swp_size]
        · rfl
    · split
      · rfl
      · rw [ih _ _ (by omega), swp_size]
theorem t_heapSort {a b : Nat} (x : BufI h s d) (hab : a ≤ b) (hb : b ≤ d.size) (hn : d.size ≤ 2 ^ 40) {K : Unit → H → Prop} (y : ∀ h', BufI h' s (heapSort ltInt d a b) → Wrote s h h' → K () h') : m_slices_heapSortOrdered_int s (a : Int) (b : Int) K h := by
  unfold m_slices_heapSortOrdered_int
  rw [is_ b a (by omega) hab]
  have e0 : iQuo .i64 (iSub .i64 ((b - a : Nat) : Int) 1) 2 = (((b - a - 1) / 2 + 1 : Nat) : Int) - 1 := by
    rw [iSub_eq (by omega) (by omega)]
    rcases Nat.eq_zero_or_pos (b - a) with q | q
    · rw [q]; rfl
    · rw [show ((b - a : Nat) : Int) - 1 = ((b - a - 1 : Nat) : Int) from by omega]
      refine (iq (b - a - 1) 2 (by omega)).trans ?_
      omega
  rw [e0]
  refine w_loop (fun z => (z + 1).toNat) (fun z h' => ∃ (k : Nat) (e : Array Int), z = (k : Int) - 1 ∧ k ≤ b - a + 1 ∧ e.size = d.size ∧ BufI h' s e ∧ heapBuild ltInt (b - a) a k e = heapBuild ltInt (b - a) a ((b - a - 1) / 2 + 1) d ∧ Wrote s h h') ?_ ⟨_, d, rfl, by omega, rfl, x, rfl, .refl _ _⟩
  rintro rec _ h1 ⟨k, e, rfl, hk, he, x1, eq1, w1⟩ more
  refine w_if' (fun c => ?_) fun c => ?_
  · obtain ⟨k, rfl⟩ : ∃ q, k = q + 1 := ⟨k - 1, by omega⟩
    rw [show ((k + 1 : Nat) : Int) - 1 = (k : Int) from by omega]
    refine t_sift x1 (by omega) (by omega) (by omega) fun h2 x2 w2 => ?_
    refine more _ _ ⟨k, _, by rw [iSub_eq (by omega) (by omega)], by omega, ?_, x2, ?_, w1.trans w2⟩ ?_
    · rw [sift_size _ _ _ _ _ (Nat.le_refl _)]; exact he
    · rw [← eq1]; rfl
    · rw [iSub_eq (by omega) (by omega)]; omega
  have hk0 : k = 0 := by omega
  subst hk0
  rw [show heapBuild ltInt (b - a) a 0 e = e from rfl] at eq1
  clear more rec c hk
  rw [iSub_eq (by omega) (by omega)]
  refine w_loop (fun z => (z + 1).toNat) (fun z h' => ∃ (k : Nat) (e' : Array Int), z = (k : Int) - 1 ∧ k ≤ b - a ∧ e'.size = d.size ∧ BufI h' s e' ∧ heapPop ltInt a k e' = heapPop ltInt a (b - a) e ∧ Wrote s h h') ?_ ⟨_, e, rfl, Nat.le_refl _, he, x1, rfl, w1⟩
  rintro rec _ h2 ⟨k, e', rfl, hk, he', x2, eq2, w2⟩ more
  refine w_if' (fun c => ?_) fun c => ?_
  · obtain ⟨k, rfl⟩ : ∃ q, k = q + 1 := ⟨k - 1, by omega⟩
    rw [show ((k + 1 : Nat) : Int) - 1 = (k : Int) from by omega]
    have ek := ia a k (by omega)
    rw [ek]
    refine w_swp x2 (i := a) (j := a + k) (by omega) (by omega) rfl rfl fun h3 x3 w3 => ?_
    refine t_sift (lo := 0) x3 (by rw [swp_size]; omega) (Nat.zero_le _) (by rw [swp_size]; omega) fun h4 x4 w4 => ?_
    refine more _ _ ⟨k, _, by rw [iSub_eq (by omega) (by omega)], by omega, ?_, x4, ?_, (w2.trans w3).trans w4⟩ ?_
    · rw [sift_size _ _ _ _ _ (Nat.le_refl _), swp_size]; exact he'
    · rw [← eq2]; rfl
    · rw [iSub_eq (by omega) (by omega)]; omega
  · have hk0 : k = 0 := by omega
    subst hk0
    refine y h2 ?_ w2
    unfold heapSort
    rw [← eq1, ← eq2]; exact x2
theorem t_reverse {a b : Nat} (x : BufI h s d) (hab : a < b) (hb : b ≤ d.size) (hn : d.size ≤ 2 ^ 40) {K : Unit → H → Prop} (y : ∀ h', BufI h' s (reverseRange d a b) → Wrote s h h' → K () h') : m_slices_reverseRangeOrdered_int s (a : Int) (b : Int) K h := by
  unfold m_slices_reverseRangeOrdered_int
  rw [is1 b (by omega) (by omega)]
  refine w_loop (fun z => (z.2 - z.1).toNat) (fun z h' => ∃ (i j : Nat) (e : Array Int), z = ((i : Int), (j : Int)) ∧ i < d.size ∧ j < d.size ∧ e.size = d.size ∧ BufI h' s e ∧ reverseLoop i j e = reverseLoop a (b - 1) d ∧ Wrote s h h') ?_ ⟨a, b - 1, d, rfl, by omega, by omega, rfl, x, rfl, .refl _ _⟩
  rintro rec _ h1 ⟨i, j, e, rfl, hi, hj, he, x1, eq1, w1⟩ more
  rw [reverseLoop] at eq1
  refine w_if' (fun c => ?_) fun c => ?_
  · have c : i < j := by have c : (i : Int) < (j : Int) := c; omega
    rw [if_pos c] at eq1
    refine w_swp x1 (i := i) (j := j) (by omega) (by omega) rfl rfl fun h2 x2 w2 => ?_
    show rec (iAdd .i64 (i : Int) 1, iSub .i64 (j : Int) 1) h2
    rw [ia1 i (by omega), is1 j (by omega) (by omega)]
    exact more _ _ ⟨i + 1, j - 1, _, rfl, by omega, by omega, by rw [swp_size]; exact he, x2, eq1, w1.trans w2⟩ (by show ((j - 1 : Nat) - (i + 1 : Nat) : Int).toNat < ((j : Int) - (i : Int)).toNat; omega)
  · have c : ¬ i < j := by have c : ¬ (i : Int) < (j : Int) := c; omega
    rw [if_neg c] at eq1
    refine y h1 ?_ w1
    unfold reverseRange
    rw [← eq1]; exact x1
def Cell1 (c0 : Nat) (h : H) : Prop := ∃ v : Int, h c0 = some (.cells #[Value.int .i64 v] N_int (0, 0))
theorem t_order2 {i j c0 : Nat} (x : BufI h s d) (hi : i < d.size) (hj : j < d.size) (hc : Cell1 c0 h) (nf : ¬ s.foot c0) {K : Int × Int → H → Prop}
    (y : ∀ p q h', (p = i ∧ q = j ∨ p = j ∧ q = i) → BufI h' s d → Cell1 c0 h' → But (· = c0) h h' → (∀ c, h' c = none → h c = none) → K ((p : Nat), (q : Nat)) h') : m_slices_order2Ordered_int s (i : Int) (j : Int) (some ⟨c0, 0, none⟩) K h := by
  unfold m_slices_order2Ordered_int
  obtain ⟨v, hv⟩ := hc
  refine rdB x hj hi rfl rfl (w_less (w_if (fun _ => ?_) fun _ => y i j h (.inl ⟨rfl, rfl⟩) x ⟨v, hv⟩ (.refl _ _) fun _ e => e))
  refine w_deref (w_load (At.own (l1 := []) (l2 := cInt .i64 v) (l3 := []) hv rfl) (w_deref (w_store (l1 := []) (l2 := cInt .i64 v) (l3 := []) rfl hv rfl rfl ?_)))
  exact y j i _ (.inr ⟨rfl, rfl⟩) (x.but (But.upd (F := (· = c0)) rfl) fun a ha e => nf ⟨a, ha, e⟩) ⟨_, upd_same _ _ _⟩ (But.upd rfl) fun c e => (upd_none.1 e).2
theorem t_median {i j k c0 : Nat} (x : BufI h s d) (hi : i < d.size) (hj : j < d.size) (hk : k < d.size) (hc : Cell1 c0 h) (nf : ¬ s.foot c0) {K : Int → H → Prop}
    (y : ∀ p h', (p = i ∨ p = j ∨ p = k) → BufI h' s d → Cell1 c0 h' → But (· = c0) h h' → (∀ c, h' c = none → h c = none) → K (p : Nat) h') : m_slices_medianOrdered_int s (i : Int) (j : Int) (k : Int) (some ⟨c0, 0, none⟩) K h := by
  unfold m_slices_medianOrdered_int
  refine t_order2 x hi hj hc nf fun p1 q1 h1 e1 x1 c1 b1 d1 => ?_
  refine t_order2 (i := q1) (j := k) x1 (by rcases e1 with ⟨rfl, rfl⟩ | ⟨rfl, rfl⟩ <;> assumption) hk c1 nf fun p2 q2 h2 e2 x2 c2 b2 d2 => ?_
  have hp2 : p2 < d.size := by rcases e1 with ⟨rfl, rfl⟩ | ⟨rfl, rfl⟩ <;> rcases e2 with ⟨rfl, rfl⟩ | ⟨rfl, rfl⟩ <;> assumption
  refine t_order2 (i := p1) (j := p2) x2 (by rcases e1 with ⟨rfl, rfl⟩ | ⟨rfl, rfl⟩ <;> assumption) hp2 c2 nf fun p3 q3 h3 e3 x3 c3 b3 d3 => ?_
  refine y q3 h3 ?_ x3 c3 ((b1.trans b2 fun _ f => .inl f).trans b3 fun _ f => .inl f) fun c e => d1 c (d2 c (d3 c e))
  rcases e1 with ⟨rfl, rfl⟩ | ⟨rfl, rfl⟩ <;> rcases e2 with ⟨rfl, rfl⟩ | ⟨rfl, rfl⟩ <;> rcases e3 with ⟨rfl, rfl⟩ | ⟨rfl, rfl⟩ <;> simp
theorem t_medianA {i c0 : Nat} (x : BufI h s d) (h1 : 1 ≤ i) (hi : i + 1 < d.size) (hn : d.size ≤ 2 ^ 40) (hc : Cell1 c0 h) (nf : ¬ s.foot c0) {K : Int → H → Prop}
    (y : ∀ p h', (i ≤ p + 1 ∧ p ≤ i + 1) → BufI h' s d → Cell1 c0 h' → But (· = c0) h h' → (∀ c, h' c = none → h c = none) → K (p : Nat) h') : m_slices_medianAdjacentOrdered_int s (i : Int) (some ⟨c0, 0, none⟩) K h := by
  unfold m_slices_medianAdjacentOrdered_int
  rw [is1 i (by omega) h1, ia1 i (by omega)]
  exact t_median x (by omega) (by omega) hi hc nf fun p h' e => y p h' (by omega)
theorem w_newQ {t : TypeId} {c : Array Value} {k : Addr → H → Prop} (Q : Nat → H → Prop) (hq : ∀ b, h b = none → Q b (upd h b (.cells c t (0, 0)))) (x : ∀ b h0, h b = none → Q b h0 → k ⟨b, 0, none⟩ h0) : mNew t c k h := fun b hb => x b _ hb (hq b hb)
theorem t_choosePivot {a b : Nat} (x : BufI h s d) (hab : a < b) (hb : b ≤ d.size) (hn : d.size ≤ 2 ^ 40) {K : Int × Int → H → Prop}
    (y : ∀ (p : Nat) (t : Int) h', a ≤ p → p < b → BufI h' s d → Keeps h h' → K ((p : Int), t) h') : m_slices_choosePivotOrdered_int s (a : Int) (b : Int) K h := by
  unfold m_slices_choosePivotOrdered_int
  refine w_newQ (fun c0 h0 => Cell1 c0 h0 ∧ Keeps h h0) (fun c0 hc0 => ⟨⟨0, upd_same _ _ _⟩, .new hc0⟩) fun c0 h0 hc0 ⟨cl0, k0⟩ => ?_
  have nf : ¬ s.foot c0 := fun f => by
    obtain ⟨A, hA, e⟩ := f
    rcases x.at_ with ⟨q, _⟩ | ⟨B, z, fz, q, hB, _⟩
    · rw [q] at hA; cases hA
    · rw [q] at hA; cases hA; subst e; rw [hc0] at hB; cases hB
  have x0 : BufI h0 s d := x.keep k0
  have kk : ∀ h', But (· = c0) h0 h' → Keeps h h' := fun h' q => k0.but q fun n e => by subst e; exact hc0
  have e8 : iSub .i64 (b : Int) (a : Int) = ((b - a : Nat) : Int) := is_ b a (by omega) (by omega)
  have q4 : (b - a) / 4 ≤ b - a := Nat.div_le_self _ _
  have e4 : iQuo .i64 ((b - a : Nat) : Int) 4 = (((b - a) / 4 : Nat) : Int) := iq (b - a) 4 (by omega)
  generalize hq : (b - a) / 4 = q at q4 e4
  have m1 : iMul .i64 (q : Int) 1 = ((q : Nat) : Int) := (i64_eq (x := (q : Int) * 1) (by omega) (by omega)).trans (by omega)
  have m2 : iMul .i64 (q : Int) 2 = ((q * 2 : Nat) : Int) := (i64_eq (x := (q : Int) * 2) (by omega) (by omega)).trans (by omega)
  have m3 : iMul .i64 (q : Int) 3 = ((q * 3 : Nat) : Int) := (i64_eq (x := (q : Int) * 3) (by omega) (by omega)).trans (by omega)
  rw [e8, e4, m1, m2, m3, ia a q (by omega), ia a (q * 2) (by omega), ia a (q * 3) (by omega)]
  refine w_joinP (fun z h' => ∃ p : Nat, z = (p : Int) ∧ a ≤ p ∧ p < b ∧ BufI h' s d ∧ Cell1 c0 h' ∧ But (· = c0) h0 h') (fun j hj => ?_) ?_
  · refine w_if' (fun c => ?_) fun c => ?_
    · have c : 8 ≤ b - a := by omega
      refine w_joinP (fun z h' => ∃ p1 p2 p3 : Nat, z = ((p1 : Int), (p2 : Int), (p3 : Int)) ∧ (a ≤ p1 ∧ p1 < b) ∧ (a ≤ p2 ∧ p2 < b) ∧ (a ≤ p3 ∧ p3 < b) ∧ BufI h' s d ∧ Cell1 c0 h' ∧ But (· = c0) h0 h') (fun j2 hj2 => ?_) ?_
      · refine w_if' (fun c2 => ?_) fun c2 => ?_
        · have c2 : 50 ≤ b - a := by omega
          refine t_medianA x0 (i := a + q) (by omega) (by omega) hn cl0 nf fun p1 h1 r1 x1 cl1 b1 _ => ?_
          refine t_medianA x1 (i := a + q * 2) (by omega) (by omega) hn cl1 nf fun p2 h2 r2 x2 cl2 b2 _ => ?_
          refine t_medianA x2 (i := a + q * 3) (by omega) (by omega) hn cl2 nf fun p3 h3 r3 x3 cl3 b3 _ => ?_
          exact hj2 _ _ ⟨p1, p2, p3, rfl, by omega, by omega, by omega, x3, cl3, (b1.trans b2 fun _ f => .inl f).trans b3 fun _ f => .inl f⟩
        · exact hj2 _ _ ⟨a + q, a + q * 2, a + q * 3, rfl, by omega, by omega, by omega, x0, cl0, .refl _ _⟩
      · rintro _ h1 ⟨p1, p2, p3, rfl, r1, r2, r3, x1, cl1, b1⟩
        refine t_median x1 (i := p1) (j := p2) (k := p3) (by omega) (by omega) (by omega) cl1 nf fun p h2 e2 x2 cl2 b2 _ => ?_
        exact hj _ _ ⟨p, rfl, by omega, by omega, x2, cl2, b1.trans b2 fun _ f => .inl f⟩
    · have c : ¬ 8 ≤ b - a := by omega
      exact hj _ _ ⟨a + q * 2, rfl, by omega, by omega, x0, cl0, .refl _ _⟩
  · rintro _ h1 ⟨p, rfl, r1, r2, x1, ⟨v, hv⟩, b1⟩
    refine w_load (At.own (l1 := []) (l2 := cInt .i64 v) (l3 := []) hv rfl) ?_
    have fin : ∀ t : Int, K ((p : Int), t) h1 := fun t => y p t h1 r1 r2 x1 (kk h1 b1)
    exact w_if (fun _ => fin 1) fun _ => w_if (fun _ => fin 2) fun _ => fin 0
end
section
variable {h : H} {s : Sl} {d : Array Int}
theorem shiftDown_go {j : Nat} {d : Array Int} (h1 : 1 ≤ j) (h2 : ltInt d[j]! d[j - 1]! = true) : shiftDown ltInt j d = shiftDown ltInt (j - 1) (swp d j (j - 1)) := by
  cases j with
  | zero => omega
  | succ j =>
    rw [shiftDown, if_neg]
    · rfl
    · have h2 : ltInt d[j + 1]! d[j]! = true := h2
      rw [h2]; simp
theorem shiftDown_stop {j : Nat} {d : Array Int} (h2 : j = 0 ∨ ltInt d[j]! d[j - 1]! = false) : shiftDown ltInt j d = d := by
  cases j with
  | zero => rfl
  | succ j =>
    rw [shiftDown, if_pos]
    rcases h2 with q | q
    · omega
    · have q : ltInt d[j + 1]! d[j]! = false := q
      rw [q]; rfl
theorem t_partialIns {a b : Nat} (x : BufI h s d) (hab : a < b) (hb : b ≤ d.size) (hn : d.size ≤ 2 ^ 40) {K : Bool → H → Prop} (y : ∀ h', BufI h' s (partialInsertionSort ltInt d a b).1 → Wrote s h h' → K (partialInsertionSort ltInt d a b).2 h') : m_slices_partialInsertionSortOrdered_int s (a : Int) (b : Int) K h := by
  unfold m_slices_partialInsertionSortOrdered_int
  rw [ia1 a (by omega), is_ b a (by omega) (by omega)]
  unfold partialInsertionSort at y
  refine w_loop (fun z => 5 - z.2.toNat) (fun z h' => ∃ (i t : Nat) (e : Array Int), z = ((i : Int), ((5 - t : Nat) : Int)) ∧ t ≤ 5 ∧ a < i ∧ i ≤ b ∧ e.size = d.size ∧ BufI h' s e ∧ partialIns ltInt a b t i e = partialIns ltInt a b 5 (a + 1) d ∧ Wrote s h h') ?_ ⟨a + 1, 5, d, rfl, Nat.le_refl _, by omega, hab, rfl, x, rfl, .refl _ _⟩
  rintro rec _ h1 ⟨i, t, e, rfl, ht, hai, hib, he, x1, eq1, w1⟩ more
  refine w_if' (fun c => ?_) fun c => ?_
  · have c : ((5 - t : Nat) : Int) < 5 := c
    obtain ⟨t, rfl⟩ : ∃ q, t = q + 1 := ⟨t - 1, by omega⟩
    rw [partialIns_succ] at eq1
    refine w_loop (fun z => b - z.toNat) (fun z h' => h1 = h' ∧ ∃ i' : Nat, z = (i' : Int) ∧ a < i' ∧ i' ≤ b ∧ scanSorted ltInt e b i' = scanSorted ltInt e b i) ?_ ⟨rfl, i, rfl, hai, hib, rfl⟩
    rintro rec2 _ _ ⟨rfl, k, rfl, hak, hkb, eqs⟩ more2
    refine w_joinV (decide (k < b) && !ltInt e[k]! e[k - 1]!) (fun j hj => w_if' (fun c2 => ?_) fun c2 => ?_) ?_
    · have c2 : k < b := by omega
      refine rdB x1 (i := k) (i' := k - 1) (by omega) (by omega) rfl (is1 k (by omega) (by omega)) (w_less ?_)
      rw [decide_eq_true c2, Bool.true_and] at hj
      exact hj
    · have c2 : ¬ k < b := by omega
      rw [decide_eq_false c2, Bool.false_and] at hj
      exact hj
    · rw [scanSorted] at eqs
      refine w_if (fun c2 => ?_) fun c2 => ?_
      · rw [if_pos c2] at eqs
        rw [Bool.and_eq_true, decide_eq_true_eq] at c2
        rw [ia1 k (by omega)]
        exact more2 _ _ ⟨rfl, k + 1, rfl, by omega, by omega, eqs⟩ (by simp only [Int.toNat_natCast]; omega)
      · rw [if_neg (by rw [c2]; simp)] at eqs
        rw [← eqs] at eq1
        clear more2 rec2 c2 eqs
        refine w_if' (fun c3 => ?_) fun c3 => ?_
        · have c3 : k = b := by omega
          rw [if_pos c3] at eq1
          rw [← eq1] at y
          exact y h1 x1 w1
        have c3 : ¬ k = b := by omega
        rw [if_neg c3] at eq1
        refine w_if' (fun c4 => ?_) fun c4 => ?_
        · have c4 : b - a < 50 := by omega
          rw [if_pos c4] at eq1
          rw [← eq1] at y
          exact y h1 x1 w1
        have c4 : ¬ b - a < 50 := by omega
        rw [if_neg c4] at eq1
        rw [is1 k (by omega) (by omega)]
        refine w_swp x1 (i := k) (j := k - 1) (by omega) (by omega) rfl rfl fun h2 x2 w2 => ?_
        have he2 : (swp e k (k - 1)).size = d.size := by rw [swp_size]; exact he
        have w12 := w1.trans w2
        generalize swp e k (k - 1) = e2 at eq1 x2 he2
        clear x1 w1 w2
        rw [is_ b k (by omega) hkb, is_ k a (by omega) (by omega), ia1 k (by omega)]
        have fin : ∀ (e3 : Array Int) (h3 : H), e3.size = d.size → BufI h3 s e3 → Wrote s h h3 → partialIns ltInt a b t k e3 = partialIns ltInt a b 5 (a + 1) d → rec ((k : Int), iAdd .i64 ((5 - (t + 1) : Nat) : Int) 1) h3 := fun e3 h3 z1 z2 z3 z4 => by
          have e5 : iAdd .i64 ((5 - (t + 1) : Nat) : Int) 1 = ((5 - t : Nat) : Int) := by rw [iAdd_eq (by omega) (by omega)]; omega
          rw [e5]
          exact more _ _ ⟨k, t, e3, rfl, by omega, hak, hkb, z1, z2, z4, z3⟩ (by show 5 - ((5 - t : Nat) : Int).toNat < 5 - ((5 - (t + 1) : Nat) : Int).toNat; omega)
        refine w_joinP (fun _ h' => ∃ e3 : Array Int, e3.size = d.size ∧ BufI h' s e3 ∧ fixDown ltInt a k e2 = e3 ∧ Wrote s h h') (fun j hj => ?_) ?_
        · unfold fixDown at hj
          refine w_if' (fun c5 => ?_) fun c5 => ?_
          · have c5 : k - a ≥ 2 := by omega
            simp only [if_pos c5] at hj
            refine w_loop (fun z => z.toNat) (fun z h' => ∃ (q : Nat) (e3 : Array Int), z = (q : Int) ∧ q < d.size ∧ e3.size = d.size ∧ BufI h' s e3 ∧ shiftDown ltInt q e3 = shiftDown ltInt (k - 1) e2 ∧ Wrote s h h') ?_ ⟨k - 1, e2, rfl, by omega, he2, x2, rfl, w12⟩
            rintro rec3 _ h3 ⟨q, e3, rfl, hq, he3, x3, eq3, w3⟩ more3
            refine w_if' (fun c6 => ?_) fun c6 => ?_
            · have c6 : 1 ≤ q := by omega
              rw [is1 q (by omega) (by omega)]
              refine rdB x3 (i := q) (i' := q - 1) (by omega) (by omega) rfl rfl (w_less (w_if (fun c7 => ?_) fun c7 => ?_))
              · rw [Bool.not_eq_true'] at c7
                rw [shiftDown_stop (.inr c7)] at eq3
                exact hj () h3 ⟨e3, he3, x3, eq3.symm, w3⟩
              · rw [Bool.not_eq_false'] at c7
                rw [shiftDown_go c6 c7] at eq3
                refine w_swp x3 (i := q) (j := q - 1) (by omega) (by omega) rfl rfl fun h4 x4 w4 => ?_
                exact more3 _ _ ⟨q - 1, _, rfl, by omega, by rw [swp_size]; exact he3, x4, eq3, w3.trans w4⟩ (by omega)
            · have c6 : q = 0 := by omega
              rw [shiftDown_stop (.inl c6)] at eq3
              exact hj () h3 ⟨e3, he3, x3, eq3.symm, w3⟩
          · have c5 : ¬ k - a ≥ 2 := by omega
            simp only [if_neg c5] at hj
            exact hj () h2 ⟨e2, he2, x2, rfl, w12⟩
        · rintro _ h3 ⟨e3, he3, x3, eq3, w3⟩
          rw [eq3] at eq1
          unfold fixUp at eq1
          refine w_if' (fun c5 => ?_) fun c5 => ?_
          · have c5 : b - k ≥ 2 := by omega
            rw [if_pos c5] at eq1
            refine w_loop (fun z => b - z.toNat) (fun z h' => ∃ (q : Nat) (e4 : Array Int), z = (q : Int) ∧ k < q ∧ q ≤ b ∧ e4.size = d.size ∧ BufI h' s e4 ∧ shiftUp ltInt b q e4 = shiftUp ltInt b (k + 1) e3 ∧ Wrote s h h') ?_ ⟨k + 1, e3, rfl, by omega, by omega, he3, x3, rfl, w3⟩
            rintro rec3 _ h4 ⟨q, e4, rfl, hkq, hq, he4, x4, eq4, w4⟩ more3
            rw [shiftUp] at eq4
            refine w_if' (fun c6 => ?_) fun c6 => ?_
            · have c6 : q < b := by omega
              rw [if_pos c6] at eq4
              rw [is1 q (by omega) (by omega)]
              refine rdB x4 (i := q) (i' := q - 1) (by omega) (by omega) rfl rfl (w_less (w_if (fun c7 => ?_) fun c7 => ?_))
              · rw [if_pos c7] at eq4
                exact fin e4 h4 he4 x4 w4 (by rw [eq4]; exact eq1)
              · rw [if_neg (by rw [c7]; simp)] at eq4
                refine w_swp x4 (i := q) (j := q - 1) (by omega) (by omega) rfl rfl fun h5 x5 w5 => ?_
                rw [ia1 q (by omega)]
                exact more3 _ _ ⟨q + 1, _, rfl, by omega, by omega, by rw [swp_size]; exact he4, x5, eq4, w4.trans w5⟩ (by simp only [Int.toNat_natCast]; omega)
            · have c6 : ¬ q < b := by omega
              rw [if_neg c6] at eq4
              exact fin e4 h4 he4 x4 w4 (by rw [eq4]; exact eq1)
          · have c5 : ¬ b - k ≥ 2 := by omega
            rw [if_neg c5] at eq1
            exact fin e3 h3 he3 x3 w3 eq1
  · have c : ¬ ((5 - t : Nat) : Int) < 5 := c
    have ht0 : t = 0 := by omega
    subst ht0
    rw [show partialIns ltInt a b 0 i e = (e, false) from rfl] at eq1
    rw [← eq1] at y
    exact y h1 x1 w1
theorem scanDown_go {p : Int → Bool} {d : Array Int} {i j : Nat} (h0 : 1 ≤ i) (h : i ≤ j) (hp : p d[j]! = true) : scanDown p d i j = scanDown p d i (j - 1) := by
  cases j with
  | zero => omega
  | succ j =>
    rw [scanDown, if_pos]
    · rfl
    · rw [Bool.and_eq_true, decide_eq_true_eq]; exact ⟨h, hp⟩
theorem scanDown_stop {p : Int → Bool} {d : Array Int} {i j : Nat} (h : ¬ (i ≤ j ∧ p d[j]! = true)) : scanDown p d i j = j := by
  cases j with
  | zero => rfl
  | succ j =>
    rw [scanDown, if_neg]
    intro q
    rw [Bool.and_eq_true, decide_eq_true_eq] at q
    exact h q
theorem t_partEq {a b p : Nat} (x : BufI h s d) (hap : a ≤ p) (hpb : p < b) (hb : b ≤ d.size) (hn : d.size ≤ 2 ^ 40) {K : Int → H → Prop} (y : ∀ h', BufI h' s (partitionEqual ltInt d a b p).2 → Wrote s h h' → K (((partitionEqual ltInt d a b p).1 : Nat) : Int) h') : m_slices_partitionEqualOrdered_int s (a : Int) (b : Int) (p : Int) K h := by
  unfold m_slices_partitionEqualOrdered_int
  unfold partitionEqual at y
  refine w_swp x (i := a) (j := p) (by omega) (by omega) rfl rfl fun h0 x0 w0 => ?_
  have hs0 : (swp d a p).size = d.size := swp_size _ _ _
  generalize swp d a p = d0 at x0 y hs0
  rw [ia1 a (by omega), is1 b (by omega) (by omega)]
  refine w_loop (fun z => (z.2 + 1 - z.1).toNat) (fun z h' => ∃ (i j : Nat) (e : Array Int), z = ((i : Int), (j : Int)) ∧ a < i ∧ i ≤ j + 2 ∧ j < b ∧ e.size = d.size ∧ BufI h' s e ∧ partEqLoop ltInt a i j e = partEqLoop ltInt a (a + 1) (b - 1) d0 ∧ Wrote s h h') ?_ ⟨a + 1, b - 1, d0, rfl, by omega, by omega, by omega, hs0, x0, rfl, w0⟩
  rintro rec _ h1 ⟨i, j, e, rfl, hi, hij, hj, he, x1, eq1, w1⟩ more
  refine w_loop (fun z => j + 1 - z.toNat) (fun z h' => h1 = h' ∧ ∃ i' : Nat, z = (i' : Int) ∧ i ≤ i' ∧ i' ≤ max i (j + 1) ∧ scanUp (fun x => !ltInt e[a]! x) e j i' = scanUp (fun x => !ltInt e[a]! x) e j i) ?_ ⟨rfl, i, rfl, Nat.le_refl _, Nat.le_max_left _ _, rfl⟩
  rintro rec2 _ _ ⟨rfl, k, rfl, hik, hkj, eqs⟩ more2
  refine w_joinV (decide (k ≤ j) && !ltInt e[a]! e[k]!) (fun c hc => w_if' (fun c2 => ?_) fun c2 => ?_) ?_
  · have c2 : (k : Int) ≤ (j : Int) := c2
    have c2 : k ≤ j := by omega
    refine rdB x1 (i := a) (i' := k) (by omega) (by omega) rfl rfl (w_less ?_)
    rw [decide_eq_true c2, Bool.true_and] at hc
    exact hc
  · have c2 : ¬ (k : Int) ≤ (j : Int) := c2
    have c2 : ¬ k ≤ j := by omega
    rw [decide_eq_false c2, Bool.false_and] at hc
    exact hc
  rw [scanUp] at eqs
  refine w_if (fun c2 => ?_) fun c2 => ?_
  · rw [if_pos c2] at eqs
    rw [Bool.and_eq_true, decide_eq_true_eq] at c2
    rw [ia1 k (by omega)]
    exact more2 _ _ ⟨rfl, k + 1, rfl, by omega, by omega, eqs⟩ (by simp only [Int.toNat_natCast]; omega)
  rw [if_neg (by rw [c2]; simp)] at eqs
  clear more2 rec2 c2
  rw [partEqLoop, ← eqs] at eq1
  refine w_loop (fun z => z.toNat) (fun z h' => h1 = h' ∧ ∃ j' : Nat, z = (j' : Int) ∧ j' ≤ j ∧ min j (k - 1) ≤ j' ∧ scanDown (fun x => ltInt e[a]! x) e k j' = scanDown (fun x => ltInt e[a]! x) e k j) ?_ ⟨rfl, j, rfl, Nat.le_refl _, Nat.min_le_left _ _, rfl⟩
  rintro rec3 _ _ ⟨rfl, l, rfl, hlj, hlk, eqd⟩ more3
  refine w_joinV (decide (k ≤ l) && ltInt e[a]! e[l]!) (fun c hc => w_if' (fun c2 => ?_) fun c2 => ?_) ?_
  · have c2 : k ≤ l := by omega
    refine rdB x1 (i := a) (i' := l) (by omega) (by omega) rfl rfl (w_less ?_)
    rw [decide_eq_true c2, Bool.true_and] at hc
    exact hc
  · have c2 : ¬ k ≤ l := by omega
    rw [decide_eq_false c2, Bool.false_and] at hc
    exact hc
  refine w_if (fun c2 => ?_) fun c2 => ?_
  · rw [Bool.and_eq_true, decide_eq_true_eq] at c2
    rw [scanDown_go (by omega) c2.1 c2.2] at eqd
    rw [is1 l (by omega) (by omega)]
    exact more3 _ _ ⟨rfl, l - 1, rfl, by omega, by omega, eqd⟩ (by omega)
  have c2 : ¬ (k ≤ l ∧ ltInt e[a]! e[l]! = true) := fun q => by rw [q.2, decide_eq_true q.1] at c2; cases c2
  rw [scanDown_stop c2] at eqd
  rw [← eqd] at eq1
  clear more3 rec3
  refine w_if' (fun c3 => ?_) fun c3 => ?_
  · have c3 : k > l := by omega
    rw [if_pos c3] at eq1
    rw [← eq1] at y
    exact y h1 x1 w1
  have c3 : ¬ k > l := by omega
  rw [if_neg c3, dif_pos (by omega)] at eq1
  refine w_swp x1 (i := k) (j := l) (by omega) (by omega) rfl rfl fun h2 x2 w2 => ?_
  rw [ia1 k (by omega), is1 l (by omega) (by omega)]
  exact more _ _ ⟨k + 1, l - 1, _, rfl, by omega, by omega, by omega, by rw [swp_size]; exact he, x2, eq1, w1.trans w2⟩ (by show (((l - 1 : Nat) : Int) + 1 - ((k + 1 : Nat) : Int)).toNat < ((j : Int) + 1 - (i : Int)).toNat; omega)
end
section
variable {h : H} {s : Sl} {d : Array Int}
theorem t_partition {a b p : Nat} (x : BufI h s d) (hap : a ≤ p) (hpb : p < b) (hb : b ≤ d.size) (hn : d.size ≤ 2 ^ 40) {K : Int × Bool → H → Prop}
    (y : ∀ h', BufI h' s (partition ltInt d a b p).2.2 → Wrote s h h' → K ((((partition ltInt d a b p).1 : Nat) : Int), (partition ltInt d a b p).2.1) h') : m_slices_partitionOrdered_int s (a : Int) (b : Int) (p : Int) K h := by
  unfold m_slices_partitionOrdered_int
  refine w_swp x (i := a) (j := p) (by omega) (by omega) rfl rfl fun h0 x0 w0 => ?_
  have hs0 : (swp d a p).size = d.size := swp_size _ _ _
  have hP : partition ltInt d a b p = (if scanUp (fun x => ltInt x (swp d a p)[a]!) (swp d a p) (b - 1) (a + 1) > scanDown (fun x => !ltInt x (swp d a p)[a]!) (swp d a p) (scanUp (fun x => ltInt x (swp d a p)[a]!) (swp d a p) (b - 1) (a + 1)) (b - 1) then
      (scanDown (fun x => !ltInt x (swp d a p)[a]!) (swp d a p) (scanUp (fun x => ltInt x (swp d a p)[a]!) (swp d a p) (b - 1) (a + 1)) (b - 1), true, swp (swp d a p) (scanDown (fun x => !ltInt x (swp d a p)[a]!) (swp d a p) (scanUp (fun x => ltInt x (swp d a p)[a]!) (swp d a p) (b - 1) (a + 1)) (b - 1)) a) else
      ((partLoop ltInt a (scanUp (fun x => ltInt x (swp d a p)[a]!) (swp d a p) (b - 1) (a + 1) + 1) (scanDown (fun x => !ltInt x (swp d a p)[a]!) (swp d a p) (scanUp (fun x => ltInt x (swp d a p)[a]!) (swp d a p) (b - 1) (a + 1)) (b - 1) - 1) (swp (swp d a p) (scanUp (fun x => ltInt x (swp d a p)[a]!) (swp d a p) (b - 1) (a + 1)) (scanDown (fun x => !ltInt x (swp d a p)[a]!) (swp d a p) (scanUp (fun x => ltInt x (swp d a p)[a]!) (swp d a p) (b - 1) (a + 1)) (b - 1)))).1, false,
        swp (partLoop ltInt a (scanUp (fun x => ltInt x (swp d a p)[a]!) (swp d a p) (b - 1) (a + 1) + 1) (scanDown (fun x => !ltInt x (swp d a p)[a]!) (swp d a p) (scanUp (fun x => ltInt x (swp d a p)[a]!) (swp d a p) (b - 1) (a + 1)) (b - 1) - 1) (swp (swp d a p) (scanUp (fun x => ltInt x (swp d a p)[a]!) (swp d a p) (b - 1) (a + 1)) (scanDown (fun x => !ltInt x (swp d a p)[a]!) (swp d a p) (scanUp (fun x => ltInt x (swp d a p)[a]!) (swp d a p) (b - 1) (a + 1)) (b - 1)))).2
          (partLoop ltInt a (scanUp (fun x => ltInt x (swp d a p)[a]!) (swp d a p) (b - 1) (a + 1) + 1) (scanDown (fun x => !ltInt x (swp d a p)[a]!) (swp d a p) (scanUp (fun x => ltInt x (swp d a p)[a]!) (swp d a p) (b - 1) (a + 1)) (b - 1) - 1) (swp (swp d a p) (scanUp (fun x => ltInt x (swp d a p)[a]!) (swp d a p) (b - 1) (a + 1)) (scanDown (fun x => !ltInt x (swp d a p)[a]!) (swp d a p) (scanUp (fun x => ltInt x (swp d a p)[a]!) (swp d a p) (b - 1) (a + 1)) (b - 1)))).1 a)) := rfl
  rw [hP] at y
  clear hP
  generalize swp d a p = d0 at x0 y hs0
  rw [ia1 a (by omega), is1 b (by omega) (by omega)]
  refine w_loop (fun z => b - z.toNat) (fun z h' => h0 = h' ∧ ∃ i : Nat, z = (i : Int) ∧ a + 1 ≤ i ∧ i ≤ b ∧ scanUp (fun x => ltInt x d0[a]!) d0 (b - 1) i = scanUp (fun x => ltInt x d0[a]!) d0 (b - 1) (a + 1)) ?_ ⟨rfl, a + 1, rfl, Nat.le_refl _, by omega, rfl⟩
  rintro rec _ _ ⟨rfl, k, rfl, hak, hkb, eqs⟩ more
  refine w_joinV (decide (k ≤ b - 1) && ltInt d0[k]! d0[a]!) (fun c hc => w_if' (fun c2 => ?_) fun c2 => ?_) ?_
  · have c2 : k ≤ b - 1 := by omega
    refine rdB x0 (i := k) (i' := a) (by omega) (by omega) rfl rfl (w_less ?_)
    rw [decide_eq_true c2, Bool.true_and] at hc
    exact hc
  · have c2 : ¬ k ≤ b - 1 := by omega
    rw [decide_eq_false c2, Bool.false_and] at hc
    exact hc
  rw [scanUp] at eqs
  refine w_if (fun c2 => ?_) fun c2 => ?_
  · rw [if_pos c2] at eqs
    rw [Bool.and_eq_true, decide_eq_true_eq] at c2
    rw [ia1 k (by omega)]
    exact more _ _ ⟨rfl, k + 1, rfl, by omega, by omega, eqs⟩ (by simp only [Int.toNat_natCast]; omega)
  rw [if_neg (by rw [c2]; simp)] at eqs
  rw [← eqs] at y
  clear more rec c2 eqs
  refine w_loop (fun z => z.toNat) (fun z h' => h0 = h' ∧ ∃ j : Nat, z = (j : Int) ∧ j ≤ b - 1 ∧ min (b - 1) (k - 1) ≤ j ∧ scanDown (fun x => !ltInt x d0[a]!) d0 k j = scanDown (fun x => !ltInt x d0[a]!) d0 k (b - 1)) ?_ ⟨rfl, b - 1, rfl, Nat.le_refl _, Nat.min_le_left _ _, rfl⟩
  rintro rec _ _ ⟨rfl, l, rfl, hlb, hlk, eqd⟩ more
  refine w_joinV (decide (k ≤ l) && !ltInt d0[l]! d0[a]!) (fun c hc => w_if' (fun c2 => ?_) fun c2 => ?_) ?_
  · have c2 : k ≤ l := by omega
    refine rdB x0 (i := l) (i' := a) (by omega) (by omega) rfl rfl (w_less ?_)
    rw [decide_eq_true c2, Bool.true_and] at hc
    exact hc
  · have c2 : ¬ k ≤ l := by omega
    rw [decide_eq_false c2, Bool.false_and] at hc
    exact hc
  refine w_if (fun c2 => ?_) fun c2 => ?_
  · rw [Bool.and_eq_true, decide_eq_true_eq] at c2
    rw [scanDown_go (by omega) c2.1 c2.2] at eqd
    rw [is1 l (by omega) (by omega)]
    exact more _ _ ⟨rfl, l - 1, rfl, by omega, by omega, eqd⟩ (by omega)
  have c2 : ¬ (k ≤ l ∧ (!ltInt d0[l]! d0[a]!) = true) := fun q => by rw [q.2, decide_eq_true q.1] at c2; cases c2
  rw [scanDown_stop c2] at eqd
  rw [← eqd] at y
  clear more rec eqd c2
  refine w_if' (fun c3 => ?_) fun c3 => ?_
  · have c3 : k > l := by omega
    rw [if_pos c3] at y
    refine w_swp x0 (i := l) (j := a) (by omega) (by omega) rfl rfl fun h2 x2 w2 => ?_
    exact y h2 x2 (w0.trans w2)
  have c3 : ¬ k > l := by omega
  rw [if_neg c3] at y
  refine w_swp x0 (i := k) (j := l) (by omega) (by omega) rfl rfl fun h2 x2 w2 => ?_
  have hs2 : (swp d0 k l).size = d.size := by rw [swp_size]; exact hs0
  have w02 := w0.trans w2
  generalize swp d0 k l = d2 at x2 y hs2
  clear x0 w0 w2 hs0
  rw [ia1 k (by omega), is1 l (by omega) (by omega)]
  refine w_loop (fun z => (z.2 + 1 - z.1).toNat) (fun z h' => ∃ (i j : Nat) (e : Array Int), z = ((i : Int), (j : Int)) ∧ a < i ∧ i ≤ j + 2 ∧ j < b ∧ a ≤ j ∧ e.size = d.size ∧ BufI h' s e ∧ partLoop ltInt a i j e = partLoop ltInt a (k + 1) (l - 1) d2 ∧ Wrote s h h') ?_ ⟨k + 1, l - 1, d2, rfl, by omega, by omega, by omega, by omega, hs2, x2, rfl, w02⟩
  rintro rec _ h1 ⟨i, j, e, rfl, hi, hij, hj, haj, he, x1, eq1, w1⟩ more
  refine w_loop (fun z => j + 1 - z.toNat) (fun z h' => h1 = h' ∧ ∃ i' : Nat, z = (i' : Int) ∧ i ≤ i' ∧ i' ≤ max i (j + 1) ∧ scanUp (fun x => ltInt x e[a]!) e j i' = scanUp (fun x => ltInt x e[a]!) e j i) ?_ ⟨rfl, i, rfl, Nat.le_refl _, Nat.le_max_left _ _, rfl⟩
  rintro rec2 _ _ ⟨rfl, k2, rfl, hik, hkj, eqs⟩ more2
  refine w_joinV (decide (k2 ≤ j) && ltInt e[k2]! e[a]!) (fun c hc => w_if' (fun c2 => ?_) fun c2 => ?_) ?_
  · have c2 : (k2 : Int) ≤ (j : Int) := c2
    have c2 : k2 ≤ j := by omega
    refine rdB x1 (i := k2) (i' := a) (by omega) (by omega) rfl rfl (w_less ?_)
    rw [decide_eq_true c2, Bool.true_and] at hc
    exact hc
  · have c2 : ¬ (k2 : Int) ≤ (j : Int) := c2
    have c2 : ¬ k2 ≤ j := by omega
    rw [decide_eq_false c2, Bool.false_and] at hc
    exact hc
  rw [scanUp] at eqs
  refine w_if (fun c2 => ?_) fun c2 => ?_
  · rw [if_pos c2] at eqs
    rw [Bool.and_eq_true, decide_eq_true_eq] at c2
    rw [ia1 k2 (by omega)]
    exact more2 _ _ ⟨rfl, k2 + 1, rfl, by omega, by omega, eqs⟩ (by simp only [Int.toNat_natCast]; omega)
  rw [if_neg (by rw [c2]; simp)] at eqs
  clear more2 rec2 c2
  rw [partLoop, ← eqs] at eq1
  refine w_loop (fun z => z.toNat) (fun z h' => h1 = h' ∧ ∃ j' : Nat, z = (j' : Int) ∧ j' ≤ j ∧ min j (k2 - 1) ≤ j' ∧ scanDown (fun x => !ltInt x e[a]!) e k2 j' = scanDown (fun x => !ltInt x e[a]!) e k2 j) ?_ ⟨rfl, j, rfl, Nat.le_refl _, Nat.min_le_left _ _, rfl⟩
  rintro rec3 _ _ ⟨rfl, l2, rfl, hlj, hlk2, eqd⟩ more3
  refine w_joinV (decide (k2 ≤ l2) && !ltInt e[l2]! e[a]!) (fun c hc => w_if' (fun c2 => ?_) fun c2 => ?_) ?_
  · have c2 : k2 ≤ l2 := by omega
    refine rdB x1 (i := l2) (i' := a) (by omega) (by omega) rfl rfl (w_less ?_)
    rw [decide_eq_true c2, Bool.true_and] at hc
    exact hc
  · have c2 : ¬ k2 ≤ l2 := by omega
    rw [decide_eq_false c2, Bool.false_and] at hc
    exact hc
  refine w_if (fun c2 => ?_) fun c2 => ?_
  · rw [Bool.and_eq_true, decide_eq_true_eq] at c2
    rw [scanDown_go (by omega) c2.1 c2.2] at eqd
    rw [is1 l2 (by omega) (by omega)]
    exact more3 _ _ ⟨rfl, l2 - 1, rfl, by omega, by omega, eqd⟩ (by omega)
  have c2 : ¬ (k2 ≤ l2 ∧ (!ltInt e[l2]! e[a]!) = true) := fun q => by rw [q.2, decide_eq_true q.1] at c2; cases c2
  rw [scanDown_stop c2] at eqd
  rw [← eqd] at eq1
  clear more3 rec3
  refine w_if' (fun c3 => ?_) fun c3 => ?_
  · have c3 : k2 > l2 := by omega
    rw [if_pos c3] at eq1
    rw [← eq1] at y
    refine w_swp x1 (i := l2) (j := a) (by omega) (by omega) rfl rfl fun h2 x2 w2 => ?_
    exact y h2 x2 (w1.trans w2)
  have c3 : ¬ k2 > l2 := by omega
  rw [if_neg c3, dif_pos (by omega)] at eq1
  refine w_swp x1 (i := k2) (j := l2) (by omega) (by omega) rfl rfl fun h2 x2 w2 => ?_
  rw [ia1 k2 (by omega), is1 l2 (by omega) (by omega)]
  exact more _ _ ⟨k2 + 1, l2 - 1, _, rfl, by omega, by omega, by omega, by omega, by rw [swp_size]; exact he, x2, eq1, w1.trans w2⟩ (by show (((l2 - 1 : Nat) : Int) + 1 - ((k2 + 1 : Nat) : Int)).toNat < ((j : Int) + 1 - (i : Int)).toNat; omega)
end
theorem bitsLen_shift {x k : Nat} (h : 2 ^ k ≤ x) : bitsLen x = bitsLen (x / 2 ^ k) + k := by
  have key : ∀ m, k ≤ m → (x < 2 ^ m ↔ x / 2 ^ k < 2 ^ (m - k)) := fun m hm => by
    rw [Nat.div_lt_iff_lt_mul (Nat.two_pow_pos k), ← Nat.pow_add, Nat.sub_add_cancel hm]
  apply Nat.le_antisymm
  · rw [bitsLen_le_iff, key _ (by omega), Nat.add_sub_cancel]
    exact lt_two_pow_bitsLen _
  · have hk : k ≤ bitsLen x := by
      rcases Nat.lt_or_ge (bitsLen x) k with q | q
      · have h1 := lt_two_pow_bitsLen x
        have h2 : 2 ^ bitsLen x ≤ 2 ^ k := Nat.pow_le_pow_right (by decide) (by omega)
        omega
      · exact q
    have : bitsLen (x / 2 ^ k) ≤ bitsLen x - k := by
      rw [bitsLen_le_iff, ← key _ hk]
      exact lt_two_pow_bitsLen _
    omega
theorem wrap_u8 (x : Int) : IntKind.u8.wrap x = x % 256 := by
  unfold IntKind.wrap
  simp [IntKind.bits, IntKind.signed]
def tabOK (s : ByteArray) : Bool := (List.range 256).all fun x => s.data.toList[x]? == some (UInt8.ofNat (bitsLen x))
theorem bitsLen8 {x : Nat} (h : x < 256) : bitsLen x ≤ 8 := (bitsLen_le_iff x 8).2 h
section
variable {h : H}
theorem w_tab {s : ByteArray} (ht : tabOK s = true) {x : Nat} (hx : x < 256) {k : Int → H → Prop} (y : k ((bitsLen x : Nat) : Int) h) : mByte s (x : Int) k h := by
  unfold tabOK at ht
  rw [List.all_eq_true] at ht
  have := ht x (List.mem_range.2 hx)
  rw [beq_iff_eq] at this
  have hlt := lt_of_get this
  rw [List.getElem?_eq_getElem hlt] at this
  have e := Option.some.inj this
  have hs : x < s.size := by simpa using hlt
  have hb : (UInt8.ofNat (bitsLen x)).toNat = bitsLen x := by
    have := bitsLen8 hx
    rw [UInt8.toNat_ofNat']; exact Nat.mod_eq_of_lt (by omega)
  refine ⟨((UInt8.ofNat (bitsLen x)).toNat : Nat), ⟨UInt8.ofNat (bitsLen x), by omega, ?_, rfl⟩, by rw [hb]; exact y⟩
  rw [Int.toNat_natCast, ← e]
  show s.data[x]? = _
  rw [← Array.getElem?_toList, List.getElem?_eq_getElem hlt]
set_option maxRecDepth 100000 in
theorem t_Len64 {x : Nat} (hx : x < 2 ^ 64) {K : Int → H → Prop} (y : K ((bitsLen x : Nat) : Int) h) : m_math_bits_Len64 (x : Int) K h := by
  unfold m_math_bits_Len64
  refine w_joinP (fun z h' => h = h' ∧ ∃ (u n : Nat), z = ((u : Int), (n : Int)) ∧ u < 2 ^ 32 ∧ n ≤ 32 ∧ bitsLen x = bitsLen u + n) (fun j hj => w_if' (fun c => ?_) fun c => ?_) ?_
  · have e : iShr .u64 (x : Int) 32 = ((x / 2 ^ 32 : Nat) : Int) := u_shr (n := 32) (by omega)
    rw [e]
    exact hj _ _ ⟨rfl, x / 2 ^ 32, 32, rfl, by omega, by omega, bitsLen_shift (by omega)⟩
  · exact hj _ _ ⟨rfl, x, 0, rfl, by omega, by omega, rfl⟩
  rintro _ _ ⟨rfl, u, n, rfl, hu, hn, e1⟩
  refine w_joinP (fun z h' => h = h' ∧ ∃ (v m : Nat), z = ((v : Int), (m : Int)) ∧ v < 2 ^ 16 ∧ m ≤ 48 ∧ bitsLen x = bitsLen v + m) (fun j hj => w_if' (fun c => ?_) fun c => ?_) ?_
  · have c : (65536 : Int) ≤ (u : Int) := c
    have e : iShr .u64 (u : Int) 16 = ((u / 2 ^ 16 : Nat) : Int) := u_shr (n := 16) (by omega)
    have a : iAdd .i64 (n : Int) 16 = ((n + 16 : Nat) : Int) := ia n 16 (by omega)
    show j (iShr .u64 (u : Int) 16, iAdd .i64 (n : Int) 16) h
    rw [e, a]
    exact hj _ _ ⟨rfl, u / 2 ^ 16, n + 16, rfl, by omega, by omega, by rw [e1, bitsLen_shift (x := u) (k := 16) (by omega)]; omega⟩
  · have c : ¬ (65536 : Int) ≤ (u : Int) := c
    exact hj _ _ ⟨rfl, u, n, rfl, by omega, by omega, e1⟩
  rintro _ _ ⟨rfl, v, m, rfl, hv, hm, e2⟩
  refine w_joinP (fun z h' => h = h' ∧ ∃ (w q : Nat), z = ((w : Int), (q : Int)) ∧ w < 2 ^ 8 ∧ q ≤ 56 ∧ bitsLen x = bitsLen w + q) (fun j hj => w_if' (fun c => ?_) fun c => ?_) ?_
  · have c : (256 : Int) ≤ (v : Int) := c
    have e : iShr .u64 (v : Int) 8 = ((v / 2 ^ 8 : Nat) : Int) := u_shr (n := 8) (by omega)
    have a : iAdd .i64 (m : Int) 8 = ((m + 8 : Nat) : Int) := ia m 8 (by omega)
    show j (iShr .u64 (v : Int) 8, iAdd .i64 (m : Int) 8) h
    rw [e, a]
    exact hj _ _ ⟨rfl, v / 2 ^ 8, m + 8, rfl, by omega, by omega, by rw [e2, bitsLen_shift (x := v) (k := 8) (by omega)]; omega⟩
  · have c : ¬ (256 : Int) ≤ (v : Int) := c
    exact hj _ _ ⟨rfl, v, m, rfl, by omega, by omega, e2⟩
  rintro _ _ ⟨rfl, w, q, rfl, hw, hq, e3⟩
  have hl := bitsLen8 (x := w) hw
  have e4 : IntKind.wrap .i64 ((bitsLen w : Nat) : Int) = ((bitsLen w : Nat) : Int) := i64_eq (by omega) (by omega)
  have fin : ∀ tb : ByteArray, tabOK tb = true → mByte tb (w : Int) (fun x7 => K (iAdd .i64 (q : Int) (IntKind.wrap .i64 x7))) h := fun tb ht => w_tab ht hw (by
    rw [e4, ia q (bitsLen w) (by omega)]
    rw [e3, Nat.add_comm] at y
    exact y)
  have e5 : IntKind.wrap .u8 (w : Int) = (w : Int) := by
    rw [wrap_u8]; omega
  show mByte _ (IntKind.wrap .u8 (w : Int)) (fun x7 => K (iAdd .i64 (q : Int) (IntKind.wrap .i64 x7))) h
  rw [e5]
  exact fin _ (by kernel_rfl)
theorem w_Len {x : Nat} (hx : x < 2 ^ 62) {K : Int → H → Prop} (y : K ((bitsLen x : Nat) : Int) h) : mPure (m_math_bits_Len (IntKind.wrap .u64 (x : Int))) K h := by
  refine w_pure ((bitsLen x : Nat) : Int) (fun h' k' q => ?_) y
  unfold m_math_bits_Len
  rw [u_wrap (by omega)]
  exact w_pure ((bitsLen x : Nat) : Int) (fun h'' k'' q' => t_Len64 (by omega) q') q
def CellU (c0 : Nat) (h : H) : Prop := ∃ (v : Int) (t : TypeId), h c0 = some (.cells #[Value.int .u64 v] t (0, 0))
theorem t_xor {c0 : Nat} (hc : CellU c0 h) {K : Int → H → Prop} (y : ∀ (r : Nat) h', r < 2 ^ 64 → CellU c0 h' → But (· = c0) h h' → (∀ c, h' c = none → h c = none) → K (r : Int) h') : m_slices_xorshift_Next (some ⟨c0, 0, none⟩) K h := by
  unfold m_slices_xorshift_Next
  obtain ⟨v, t, hv⟩ := hc
  have rd : ∀ {g : H} {u : Int}, g c0 = some (.cells #[Value.int .u64 u] t (0, 0)) → At g ⟨c0, 0, none⟩ (cInt .u64 u) := fun e => At.own (l1 := []) (l3 := []) e rfl
  refine w_deref (w_deref (w_load (rd hv) (w_load (rd hv) (w_deref (w_store (l1 := []) (l2 := cInt .u64 v) (l3 := []) rfl hv rfl rfl ?_)))))
  refine w_deref (w_deref (w_load (rd (upd_same _ _ _)) (w_load (rd (upd_same _ _ _)) (w_deref (w_store (l1 := []) (l2 := cInt .u64 _) (l3 := []) rfl (upd_same _ _ _) rfl rfl ?_)))))
  refine w_deref (w_deref (w_load (rd (upd_same _ _ _)) (w_load (rd (upd_same _ _ _)) (w_deref (w_store (l1 := []) (l2 := cInt .u64 _) (l3 := []) rfl (upd_same _ _ _) rfl rfl ?_)))))
  refine w_deref (w_load (rd (upd_same _ _ _)) ?_)
  rw [upd_upd, upd_upd]
  have rng : ∀ z w : Int, ∃ r : Nat, iXor .u64 z w = (r : Int) ∧ r < 2 ^ 64 := fun z w => by
    unfold iXor
    rw [wrap_u64]
    exact ⟨(((BitVec.ofInt IntKind.u64.bits z ^^^ BitVec.ofInt IntKind.u64.bits w).toNat : Int) % 18446744073709551616).toNat, by omega, by omega⟩
  suffices z : ∀ A B : Int, K (iXor .u64 A B) (upd h c0 (.cells ([] ++ [Value.int .u64 (iXor .u64 A B)] ++ []).toArray t (0, 0))) from z _ _
  intro A B
  obtain ⟨r, hr, hlt⟩ := rng A B
  rw [hr]
  exact y r _ hlt ⟨r, t, upd_same _ _ _⟩ (But.upd rfl) fun c e => (upd_none.1 e).2
variable {s : Sl} {d : Array Int}
theorem t_breakPatterns {a b : Nat} (x : BufI h s d) (hab : a ≤ b) (hb : b ≤ d.size) (hn : d.size ≤ 2 ^ 40) {K : Unit → H → Prop} (y : ∀ e h', PermIn a b d e → BufI h' s e → Wrote s h h' → K () h') : m_slices_breakPatternsOrdered_int s (a : Int) (b : Int) K h := by
  unfold m_slices_breakPatternsOrdered_int
  rw [is_ b a (by omega) hab]
  refine w_if' (fun c => ?_) fun c => y d h (permIn_refl d a b) x (.refl _ _)
  have c : 8 ≤ b - a := by omega
  refine w_newQ (fun c0 h0 => (∃ t, h0 c0 = some (.cells ([] ++ cInt .u64 0 ++ []).toArray t (0, 0))) ∧ Keeps h h0) (fun c0 hc0 => ⟨⟨_, upd_same _ _ _⟩, .new hc0⟩) fun c0 h0 hc0 ⟨⟨t, hv⟩, k0⟩ => ?_
  have nf : ¬ s.foot c0 := fun f => by
    obtain ⟨A, hA, e⟩ := f
    rcases x.at_ with ⟨q, _⟩ | ⟨B, z, fz, q, hB, _⟩
    · rw [q] at hA; cases hA
    · rw [q] at hA; cases hA; subst e; rw [hc0] at hB; cases hB
  refine w_store (l1 := []) (l2 := cInt .u64 0) (l3 := []) rfl hv rfl rfl ?_
  have x1 : BufI (upd h0 c0 (.cells ([] ++ [Value.int .u64 (IntKind.wrap .u64 ((b - a : Nat) : Int))] ++ []).toArray t (0, 0))) s d := (x.keep k0).but (But.upd (F := (· = c0)) rfl) fun A hA e => nf ⟨A, hA, e⟩
  have w1 : Wrote s h (upd h0 c0 (.cells ([] ++ [Value.int .u64 (IntKind.wrap .u64 ((b - a : Nat) : Int))] ++ []).toArray t (0, 0))) := ⟨.of (k0.but (But.upd (F := (· = c0)) rfl) fun n e => by subst e; exact hc0), fun c e => k0.fresh (upd_none.1 e).2⟩
  have cl1 : CellU c0 (upd h0 c0 (.cells ([] ++ [Value.int .u64 (IntKind.wrap .u64 ((b - a : Nat) : Int))] ++ []).toArray t (0, 0))) := ⟨_, t, upd_same _ _ _⟩
  generalize upd h0 c0 (.cells ([] ++ [Value.int .u64 (IntKind.wrap .u64 ((b - a : Nat) : Int))] ++ []).toArray t (0, 0)) = h1 at x1 w1 cl1 ⊢
  have hl8 : bitsLen (b - a) < 62 := Nat.lt_succ_of_le ((bitsLen_le_iff _ 61).2 (by omega))
  have hp := two_pow_bitsLen_le (n := b - a) (by omega)
  generalize hL : bitsLen (b - a) = L at hl8 hp
  refine w_pure (iShl .u64 1 (L : Int)) (fun h' k' q => ?_) ?_
  · unfold m_slices_nextPowerOfTwo
    refine w_Len (by omega) ?_
    rw [hL]
    exact w_nn (by omega) q
  have q4 : (b - a) / 4 ≤ b - a := Nat.div_le_self _ _
  have q4' : 4 * ((b - a) / 4) ≤ b - a := Nat.mul_div_le _ _
  have q48 : 2 ≤ (b - a) / 4 := by omega
  have e4 : iQuo .i64 ((b - a : Nat) : Int) 4 = (((b - a) / 4 : Nat) : Int) := iq (b - a) 4 (by omega)
  generalize (b - a) / 4 = q at q4 q4' q48 e4
  have m2 : iMul .i64 (q : Int) 2 = ((q * 2 : Nat) : Int) := (i64_eq (x := (q : Int) * 2) (by omega) (by omega)).trans (by omega)
  rw [e4, m2, ia a (q * 2) (by omega), is1 (a + q * 2) (by omega) (by omega), ia1 (a + q * 2) (by omega)]
  refine w_loop (fun z => a + q * 2 + 2 - z.toNat) (fun z h' => ∃ (i : Nat) (e : Array Int), z = (i : Int) ∧ a + q * 2 ≤ i + 1 ∧ i ≤ a + q * 2 + 2 ∧ PermIn a b d e ∧ BufI h' s e ∧ CellU c0 h' ∧ Wrote s h h') ?_ ⟨a + q * 2 - 1, d, rfl, by omega, by omega, permIn_refl d a b, x1, cl1, w1⟩
  rintro rec _ h2 ⟨i, e, rfl, hi1, hi2, pe, x2, cl2, w2⟩ more
  refine w_if' (fun c2 => ?_) fun c2 => y e h2 pe x2 w2
  have c2 : i ≤ a + q * 2 + 1 := by omega
  refine t_xor cl2 fun r h3 hr cl3 b3 d3 => ?_
  have x3 : BufI h3 s e := x2.but b3 fun A hA z => nf ⟨A, hA, z⟩
  have w3 : Wrote s h h3 := ⟨w2.but.trans b3 fun n z => .inr (by subst z; exact hc0), fun c z => w2.dom c (d3 c z)⟩
  rw [u_low hr (by omega)]
  have hm : r % 2 ^ L < 2 ^ L := Nat.mod_lt _ (Nat.two_pow_pos _)
  generalize r % 2 ^ L = m at hm
  have wm : IntKind.wrap .i64 (m : Int) = (m : Int) := i64_eq (by omega) (by omega)
  rw [wm]
  refine w_joinP (fun z h' => h3 = h' ∧ ∃ m' : Nat, z = (m' : Int) ∧ m' < b - a) (fun j hj => w_if' (fun c3 => ?_) fun c3 => ?_) ?_
  · rw [is_ m (b - a) (by omega) (by omega)]
    exact hj _ _ ⟨rfl, m - (b - a), rfl, by omega⟩
  · exact hj _ _ ⟨rfl, m, rfl, by omega⟩
  rintro _ _ ⟨rfl, m', rfl, hm'⟩
  have es : e.size = d.size := pe.1
  have em := ia a m' (by omega)
  rw [em]
  refine w_swp x3 (i := i) (j := a + m') (by omega) (by omega) rfl rfl fun h4 x4 w4 => ?_
  rw [ia1 i (by omega)]
  have cl4 : CellU c0 h4 := by
    obtain ⟨v, t, e⟩ := cl3
    exact ⟨v, t, w4.but _ _ e nf⟩
  exact more _ _ ⟨i + 1, _, rfl, by omega, by omega, permIn_trans _ _ _ a b pe (swp_permIn e a b i (a + m') (by omega) (by omega) (by omega) (by omega) (by omega)), x4, cl4, w3.trans w4⟩ (by simp only [Int.toNat_natCast]; omega)
theorem t_pdq_n : ∀ (n : Nat) {h : H} {d : Array Int} {a b : Nat}, b - a < n → BufI h s d → a ≤ b → b ≤ d.size → d.size ≤ 2 ^ 40 → Go.Sort.Below ltInt a b d → ∀ {limit : Int} {K : Unit → H → Prop},
    (∀ e h', PermIn a b d e → SortedIn ltInt a b e → BufI h' s e → Wrote s h h' → K () h') → m_slices_pdqsortOrdered_int_n n s (a : Int) (b : Int) limit K h := by
  intro n
  induction n with
  | zero => intro h d a b hn; omega
  | succ n ih =>
    intro h d a0 b0 hn x hab0 hb0 hsz hB0 limit K y
    show m_slices_pdqsortOrdered_int_s (m_slices_pdqsortOrdered_int_n n) s (a0 : Int) (b0 : Int) limit K h
    unfold m_slices_pdqsortOrdered_int_s
    refine w_loop (fun z => (z.2.1 - z.1).toNat) (fun z h' => ∃ (a b : Nat) (lim : Int) (wb wp : Bool) (e : Array Int), z = ((a : Int), (b : Int), lim, wb, wp) ∧ a ≤ b ∧ b - a ≤ b0 - a0 ∧ b ≤ e.size ∧ e.size = d.size ∧ Go.Sort.Below ltInt a b e ∧ BufI h' s e ∧ Wrote s h h' ∧ ∀ R, PermIn a b e R → SortedIn ltInt a b R → PermIn a0 b0 d R ∧ SortedIn ltInt a0 b0 R) ?_
      ⟨a0, b0, limit, true, true, d, rfl, hab0, Nat.le_refl _, hb0, rfl, hB0, x, .refl _ _, fun R h1 h2 => ⟨h1, h2⟩⟩
    clear x hab0 hb0 hB0
    rintro rec _ h1 ⟨a, b, lim, wb, wp, e, rfl, hab, hlen, hb, he, hB, x1, w1, fin⟩ more
    have fin' : ∀ (R : Array Int) (h' : H), PermIn a b e R → SortedIn ltInt a b R → BufI h' s R → Wrote s h h' → K () h' := fun R h' p q r w => y R h' (fin R p q).1 (fin R p q).2 r w
    show mIf (decide ((iSub .i64 (b : Int) (a : Int)) ≤ 12)) _ _ h1
    rw [is_ b a (by omega) hab]
    refine w_if' (fun c => ?_) fun c => ?_
    · refine t_insertion x1 hb (by omega) (fun h2 x2 w2 => ?_) hab
      have := insertionSort_holds swo_ltInt e a b hab hb
      exact fin' _ h2 this.1 this.2 x2 (w1.trans w2)
    have c : 12 < b - a := by omega
    refine w_if' (fun c2 => ?_) fun c2 => ?_
    · refine t_heapSort x1 hab hb (by omega) fun h2 x2 w2 => ?_
      have := heapSort_holds swo_ltInt e a b hab hb
      exact fin' _ h2 this.1 this.2 x2 (w1.trans w2)
    refine w_joinP (fun _ h' => ∃ e1, PermIn a b e e1 ∧ BufI h' s e1 ∧ Wrote s h h') (fun j hj => w_if (fun c3 => ?_) fun c3 => ?_) ?_
    · refine t_breakPatterns x1 hab hb (by omega) fun e1 h2 p1 x2 w2 => ?_
      exact hj _ _ ⟨e1, p1, x2, w1.trans w2⟩
    · exact hj _ _ ⟨e, permIn_refl e a b, x1, w1⟩
    rintro lim2 h2 ⟨e1, p1, x2, w2⟩
    refine t_choosePivot x2 (by omega) (by rw [p1.1]; exact hb) (by rw [p1.1]; omega) fun p hint h3 hp1 hp2 x3 k3 => ?_
    have w3 : Wrote s h h3 := ⟨w2.but.trans (.of k3) fun _ f => .inl f, fun c z => w2.dom c (k3.fresh z)⟩
    refine w_joinP (fun z h' => ∃ (p' : Nat) (t : Int) (e2 : Array Int), z = ((p' : Int), t) ∧ a ≤ p' ∧ p' < b ∧ PermIn a b e e2 ∧ BufI h' s e2 ∧ Wrote s h h') (fun j hj => w_if' (fun c3 => ?_) fun c3 => ?_) ?_
    · refine t_reverse x3 (by omega) (by rw [p1.1]; exact hb) (by rw [p1.1]; omega) fun h4 x4 w4 => ?_
      have hp1' : (a : Int) ≤ (p : Int) := by omega
      show j (iSub .i64 (iSub .i64 (b : Int) 1) (iSub .i64 (p : Int) (a : Int)), 1) h4
      rw [is1 b (by omega) (by omega), is_ p a (by omega) hp1, is_ (b - 1) (p - a) (by omega) (by omega)]
      exact hj _ _ ⟨b - 1 - (p - a), 1, _, rfl, by omega, by omega, permIn_trans _ _ _ a b p1 (reverseRange_holds e1 a b hab (by rw [p1.1]; exact hb)), x4, w3.trans w4⟩
    · exact hj _ _ ⟨p, hint, e1, rfl, hp1, hp2, p1, x3, w3⟩
    clear x3 x2 w2 w3 p1 k3 hp1 hp2 x1 w1
    rintro _ h4 ⟨p', t, e2, rfl, hp1, hp2, p2, x4, w4⟩
    refine w_joinP (fun _ h' => ∃ e3, PermIn a b e e3 ∧ BufI h' s e3 ∧ Wrote s h h') (fun j hj => w_if (fun c3 => ?_) fun c3 => ?_) ?_
    · refine t_partialIns x4 (by omega) (by rw [p2.1]; exact hb) (by rw [p2.1]; omega) fun h5 x5 w5 => ?_
      have q := partialInsertionSort_holds swo_ltInt e2 a b (by omega) (by rw [p2.1]; exact hb) (hB.perm hb p2)
      refine w_if (fun c4 => ?_) fun c4 => ?_
      · exact fin' _ h5 (permIn_trans _ _ _ a b p2 q.1) (q.2 c4) x5 (w4.trans w5)
      · exact hj () h5 ⟨_, permIn_trans _ _ _ a b p2 q.1, x5, w4.trans w5⟩
    · exact hj () h4 ⟨e2, p2, x4, w4⟩
    clear x4 w4 p2
    rintro _ h5 ⟨e3, p3, x5, w5⟩
    have hb3 : b ≤ e3.size := by rw [p3.1]; exact hb
    have hB3 := hB.perm hb p3
    have hs3 : e3.size = d.size := by rw [p3.1]; exact he
    refine w_joinP (fun z h' => h5 = h' ∧ (z = true → 0 < a ∧ ltInt e3[a - 1]! e3[p']! = false)) (fun j hj => w_if' (fun c3 => ?_) fun c3 => ?_) ?_
    · have c3 : 0 < a := by have c3 : (0 : Int) < (a : Int) := c3; omega
      show mIdx s (iSub .i64 (a : Int) 1) 1 _ h5
      rw [is1 a (by omega) c3]
      refine rdB x5 (i := a - 1) (i' := p') (by omega) (by omega) rfl rfl (w_less ?_)
      exact hj _ _ ⟨rfl, fun q => ⟨c3, by rwa [Bool.not_eq_true'] at q⟩⟩
    · exact hj _ _ ⟨rfl, fun q => by cases q⟩
    rintro z _ ⟨rfl, hz⟩
    refine w_if (fun c3 => ?_) fun c3 => ?_
    · obtain ⟨ha0, hnl⟩ := hz c3
      refine t_partEq x5 hp1 hp2 hb3 (by omega) fun h6 x6 w6 => ?_
      obtain ⟨r1, r2, r3, r4, r5⟩ := round_eq swo_ltInt (partitionEqual_holds ltInt) (mid := (partitionEqual ltInt e3 a b p').1) (d4 := (partitionEqual ltInt e3 a b p').2) ha0 hp1 hp2 hb3 hB3 hnl rfl
      refine more _ _ ⟨(partitionEqual ltInt e3 a b p').1, b, lim2, wb, wp, _, rfl, r2, by omega, by rw [r3]; exact hb3, by rw [r3]; exact hs3, r4, x6, w5.trans w6, fun R q1 q2 => ?_⟩ (by show ((b : Int) - (((partitionEqual ltInt e3 a b p').1 : Nat) : Int)).toNat < ((b : Int) - (a : Int)).toNat; omega)
      exact fin R (permIn_trans _ _ _ a b p3 (r5 R q1 q2).1) (r5 R q1 q2).2
    refine t_partition x5 hp1 hp2 hb3 (by omega) fun h6 x6 w6 => ?_
    obtain ⟨r1, r2, r3, r4, r5, r6, r7⟩ := round_part swo_ltInt (partition_holds ltInt) (mid := (partition ltInt e3 a b p').1) (ap := (partition ltInt e3 a b p').2.1) (d4 := (partition ltInt e3 a b p').2.2) hp1 hp2 hb3 hB3 rfl
    have w56 := w5.trans w6
    generalize (partition ltInt e3 a b p').1 = mid at r1 r2 r4 r5 r6 r7
    generalize (partition ltInt e3 a b p').2.1 = ap
    generalize (partition ltInt e3 a b p').2.2 = e4 at x6 r3 r4 r5 r6 r7
    show mIf (decide ((iSub .i64 (mid : Int) (a : Int)) < (iSub .i64 (b : Int) (mid : Int)))) _ _ h6
    rw [is_ mid a (by omega) r1, is_ b mid (by omega) (by omega)]
    refine w_if' (fun c4 => ?_) fun c4 => ?_
    · refine ih (d := e4) (a := a) (b := mid) (by omega) x6 r1 (by omega) (by omega) r4 fun e5 h7 q1 q2 x7 w7 => ?_
      obtain ⟨s1, s2⟩ := r6 e5 q1 q2
      show rec (iAdd .i64 (mid : Int) 1, (b : Int), lim2, _, ap) h7
      rw [ia1 mid (by omega)]
      refine more _ _ ⟨mid + 1, b, lim2, _, ap, e5, rfl, r2, by omega, by rw [q1.1, r3]; exact hb3, by rw [q1.1, r3]; exact hs3, s1, x7, w56.trans w7, fun R t1 t2 => ?_⟩ (by show ((b : Int) - ((mid + 1 : Nat) : Int)).toNat < ((b : Int) - (a : Int)).toNat; omega)
      exact fin R (permIn_trans _ _ _ a b p3 (s2 R t1 t2).1) (s2 R t1 t2).2
    · show m_slices_pdqsortOrdered_int_n n s (iAdd .i64 (mid : Int) 1) (b : Int) lim2 _ h6
      rw [ia1 mid (by omega)]
      refine ih (d := e4) (a := mid + 1) (b := b) (by omega) x6 r2 (by omega) (by omega) r5 fun e5 h7 q1 q2 x7 w7 => ?_
      obtain ⟨s1, s2⟩ := r7 e5 q1 q2
      refine more _ _ ⟨a, mid, lim2, _, ap, e5, rfl, r1, by omega, by rw [q1.1]; omega, by rw [q1.1, r3]; exact hs3, s1, x7, w56.trans w7, fun R t1 t2 => ?_⟩ (by show ((mid : Int) - (a : Int)).toNat < ((b : Int) - (a : Int)).toNat; omega)
      exact fin R (permIn_trans _ _ _ a b p3 (s2 R t1 t2).1) (s2 R t1 t2).2
theorem t_Sort {zs : List Int} (x : Buf (cInt .i64) 1 N_int h s zs) (hn : zs.length ≤ 2 ^ 40) {K : Unit → H → Prop} (y : ∀ h', Buf (cInt .i64) 1 N_int h' s (zs.mergeSort fun x y => decide (x ≤ y)) → Wrote s h h' → K () h') : m_slices_Sort_int_int s K h := by
  unfold m_slices_Sort_int_int
  have hl := x.len
  rw [hl]
  refine w_Len (by omega) ?_
  have x0 : BufI h s zs.toArray := x
  unfold m_slices_pdqsortOrdered_int
  refine ⟨zs.length + 1, t_pdq_n (zs.length + 1) (d := zs.toArray) (a := 0) (b := zs.length) (by omega) x0 (Nat.zero_le _) (by simp) (by simpa using hn) (.inl rfl) fun e h' p1 p2 x1 w1 => ?_⟩
  refine y h' ?_ w1
  have hsz : zs.length = zs.toArray.size := by simp
  rw [hsz] at p1 p2
  have h1 := sorted_unique_holds (lt := ltInt) swo_ltInt (fun x y h1 h2 => by
    unfold ltInt at h1 h2
    rw [decide_eq_false_iff_not] at h1 h2
    omega) zs.toArray e p1 p2
  have h2 : (fun x y : Int => !ltInt y x) = fun x y => decide (x ≤ y) := by
    funext x y
    unfold ltInt
    rw [Bool.eq_iff_iff]
    simp
  rw [h2] at h1
  have h1 : e.toList = zs.mergeSort fun x y => decide (x ≤ y) := h1
  rw [← h1]; exact x1
end
end Go.Proofs.Ytbjkfllncegpcaa.K
namespace Go.Proofs.Ytbjkfllncegpcaa.K
open Go
section
variable {h : H}
theorem t_keysO {b : Nat} {l : List (Int × Sl)} (x : MapOf (Value.int .i64) Sl.val h b l) (hn : l.length ≤ 2 ^ 20) {K : Sl → H → Prop} (y : ∀ s h', Buf (cInt .i64) 1 N_int h' s (isort (l.map (·.1))) → Keeps h h' → (∀ c, s.foot c → h c = none) → K s h') : m_maps_Keys_map_int_byte_int_byte (some b) (fun r => m_slices_Sorted_int r K) h := by
  unfold m_maps_Keys_map_int_byte_int_byte m_slices_Sorted_int m_slices_Collect_int m_slices_AppendSeq_int_int
  have hb0 : h b ≠ none := by obtain ⟨_, _, e, _⟩ := x; rw [e]; simp
  refine w_box fun b1 h1 f1 q1 k1 => w_box fun b2 h2 f2 q2 k2 => ?_
  have k12 := k1.trans k2
  refine ⟨189, Try.f189, #[], #[.pointer (some ⟨b1, 0, none⟩)], rfl, callee189, fun w ob bz hw law => ?_⟩
  have kw : Keeps h2 (upd h2 w (ob 0)) := .new hw
  suffices hm : m_maps_Keys_map_int_byte_int_byte_1 (⟨.func (.yield w) #[] #[], rfl, rfl⟩ : PV) ⟨b1, 0, none⟩ (fun _ h'' => ∃ j, h'' w = some (ob j) ∧ ∀ o, (fun (j5 : Nat) => mIf (Nat.beq j5 0) (mLoad cSl ⟨b2, 0, none⟩ fun x9 => m_slices_Sort_int_int x9 fun _ => K x9) nope) j (upd h'' w o)) (upd h2 w (ob 0)) from
    (s_maps_Keys_map_int_byte_int_byte_1.ok ((⟨.func (.yield w) #[] #[], rfl, rfl⟩ : PV), (⟨b1, 0, none⟩ : Addr)) (fun _ h'' => ∃ j, h'' w = some (ob j) ∧ ∀ o, (fun (j5 : Nat) => mIf (Nat.beq j5 0) (mLoad cSl ⟨b2, 0, none⟩ fun x9 => m_slices_Sort_int_int x9 fun _ => K x9) nope) j (upd h'' w o)) _ hm).mono (fun v h'' ⟨_, _, q⟩ => q) fun _ _ q => q
  have ww : upd h2 w (ob 0) w = some (ob 0) := upd_same _ _ _
  generalize upd h2 w (ob 0) = h3 at kw ww
  have k3 := k12.trans kw
  have hwh : h w = none := k12.fresh hw
  have q23 := kw _ _ q2
  have b2h : h b2 = none := k1.fresh f2
  have nwb2 : b2 ≠ w := fun e => by rw [e, hw] at q2; cases q2
  have nbw : b ≠ w := fun e => hb0 (e ▸ hwh)
  have nbb2 : b ≠ b2 := fun e => hb0 (e ▸ b2h)
  unfold m_maps_Keys_map_int_byte_int_byte_1
  refine w_load (v := some b) (cells := cMap) (at_box (cs := [Value.map (some b)]) (kw _ _ (k2 _ _ q1))) (w_range (x.keep k3) fun it h4 f4 it4 k4 => ?_)
  have nit : it.block ≠ b := fun e => by rw [e] at f4; exact hb0 (k3.fresh f4)
  have nitw : it.block ≠ w := fun e => by rw [e, ww] at f4; cases f4
  have nitb2 : it.block ≠ b2 := fun e => by rw [e, q23] at f4; cases f4
  have hith : h it.block = none := k3.fresh f4
  refine w_for l.length (fun j (_ : Unit) h' => ∃ rest at_ ks sn, IterOf (Value.int .i64) Sl.val h' it b l rest at_ ∧ rest.length + j = l.length ∧ ks.length = j ∧ (ks ++ rest.map (·.1)).Perm (l.map (·.1)) ∧ h' w = some (ob 0) ∧ h' b2 = some (.cells (cSl sn).toArray N_Sl_i64 (0, 0)) ∧ Buf (cInt .i64) 1 N_int h' sn ks ∧ (∀ c, sn.foot c → h c = none ∧ c ≠ w ∧ c ≠ it.block) ∧ Keeps h h') ?_
    ⟨l, none, [], Sl.nil, it4, rfl, rfl, .refl _, k4 _ _ ww, k4 _ _ q23, Buf.nil, fun c ⟨_, e, _⟩ => (by cases e), k3.trans k4⟩
  rintro rec j _ h5 hj ⟨rest, at_, ks, sn, it5, hl, hk, pk, w5, q5, bu5, fs5, k5⟩ more
  refine w_next it5 nit (fun e => w_ifF rfl ?_) fun q rest' h6 pm it6 b6 d6 => w_ifT rfl (w_entry it6 ?_)
  · subst e
    rw [List.map_nil, List.append_nil] at pk
    refine ⟨0, w5, fun o => w_ifT rfl ?_⟩
    have bo : But (· = w) h5 (upd h5 w o) := .upd rfl
    have q7 := bo _ _ q5 nwb2
    have bu7 := bu5.but bo fun ad ha e => (fs5 _ ⟨ad, ha, rfl⟩).2.1 e
    refine w_load (at_box q7) (t_Sort bu7 (by omega) fun h8 bu8 w8 => ?_)
    refine y sn h8 ?_ ((k5.but bo fun n e => by rw [e]; exact hwh).but w8.but fun n f => (fs5 n f).1) fun c g => (fs5 c g).1
    rw [show (ks.mergeSort fun x y => decide (x ≤ y)) = isort (l.map (·.1)) from isort_eq pk] at bu8
    exact bu8
  · have e2 := pm.length_eq
    simp only [List.length_cons] at e2
    have w6 := b6 _ _ w5 nitw.symm
    have q6 := b6 _ _ q5 nitb2.symm
    have bu6 := bu5.but b6 fun ad ha e => (fs5 _ ⟨ad, ha, rfl⟩).2.2 e
    have k6 : Keeps h h6 := k5.but b6 fun n e => by rw [e]; exact hith
    refine .inr ⟨w, rfl, law q.1 _ h6 w6 ⟨w6, ?_⟩⟩
    have bA : But (· = w) h6 (upd h6 w bz) := .upd rfl
    have wA : upd h6 w bz w = some bz := upd_same _ _ _
    have dA : ∀ c, upd h6 w bz c = none → h6 c = none := fun c e => (upd_none.1 e).2
    generalize upd h6 w bz = hA at bA wA dA
    have qA := bA _ _ q6 nwb2
    have buA := bu6.but bA fun ad ha e => (fs5 _ ⟨ad, ha, rfl⟩).2.1 e
    refine w_load (at_box qA) (w_box fun b7 h7 f7 q7 k7 => ?_)
    have one : Buf (cInt .i64) 1 N_int h7 ⟨some ⟨b7, 0, none⟩, 1, 1⟩ [q.1] := Buf.one ci_len q7
    refine w_append (by_ := 8) ci_len (fun _ => rfl) rfl (buA.keep k7) one.arr (.inl (by simp only [List.length_singleton]; omega)) fun s8 h8 bu8 b8 f8 d8 => ?_
    have q78 := b8 _ _ (k7 _ _ qA) fun g => (buA.typed g).ne (.of qA) (by decide) rfl
    have wB := b8 _ _ (k7 _ _ wA) fun g => (fs5 w g).2.1 rfl
    refine w_setBox q78 rfl fun h9 q9 b9 d9 => ?_
    have wC := b9 _ _ wB nwb2.symm
    refine ⟨wC, w_ifF rfl ?_⟩
    have bZ : But (· = w) h9 (upd h9 w (ob 0)) := .upd rfl
    have bE : But (fun c => c = w ∨ c = b2 ∨ sn.foot c) h6 (upd h9 w (ob 0)) := (((bA.mono fun c e => Or.inl e).trans (((But.of (F := fun c => c = w ∨ c = b2 ∨ sn.foot c) k7).trans b8 fun c g => .inl (.inr (.inr g))).trans b9 fun c e => .inl (.inr (.inl e))) fun c g => .inl g).trans bZ fun c e => .inl (.inl e))
    have f8' : ∀ c, s8.foot c → sn.foot c ∨ hA c = none := fun c g => (f8 c g).imp id fun z => k7.fresh z
    have nit6 : h6 it.block ≠ none := by obtain ⟨_, _, _, _, e, _⟩ := it6.ex; rw [e]; simp
    have fZ : ∀ c, s8.foot c → h c = none ∧ c ≠ w ∧ c ≠ it.block := fun c g => by
      rcases f8' c g with z | z
      · exact fs5 c z
      · exact ⟨k6.fresh (dA c z), fun e => (by rw [e, wA] at z; cases z), fun e => nit6 (dA _ (e ▸ z))⟩
    have bu9 := bu8.but b9 fun ad ha e => (bu8.typed ⟨ad, ha, rfl⟩).ne (.of q78) (by decide) e
    refine more _ _ (by omega) ⟨rest', some q, ks ++ [q.1], s8, it6.but bE (fun g => ?_) (fun g => ?_), by omega, by rw [List.length_append, hk]; rfl, ?_, upd_same _ _ _, bZ _ _ q9 nwb2, bu9.but bZ fun ad ha e => (fZ _ ⟨ad, ha, rfl⟩).2.1 e, fZ, k6.but bE fun c g => ?_⟩
    · rcases g with g | g | g
      · exact nitw g
      · exact nitb2 g
      · exact (fs5 _ g).2.2 rfl
    · rcases g with g | g | g
      · exact nbw g
      · exact nbb2 g
      · exact hb0 (fs5 _ g).1
    · refine List.Perm.trans ?_ pk
      rw [List.append_assoc]
      exact List.Perm.append_left ks (show ([q.1] ++ rest'.map (·.1)).Perm (rest.map (·.1)) from (pm.map Prod.fst).symm)
    · rcases g with rfl | rfl | g
      · exact hwh
      · exact b2h
      · exact (fs5 _ g).1
theorem t_keysL {b : Nat} {l : List (Int × Sl)} (x : MapOf (Value.int .i64) Sl.val h b l) (hn : l.length ≤ 2 ^ 20) {K : Sl → H → Prop} (y : ∀ s h', Buf (cInt .i64) 1 N_int h' s (isort (l.map (·.1))) → Keeps h h' → (∀ c, s.foot c → h c = none) → K s h') : m_maps_Keys_map_int_api_Cap_int_api_Cap (some b) (fun r => m_slices_Sorted_int r K) h := by
  unfold m_maps_Keys_map_int_api_Cap_int_api_Cap m_slices_Sorted_int m_slices_Collect_int m_slices_AppendSeq_int_int
  have hb0 : h b ≠ none := by obtain ⟨_, _, e, _⟩ := x; rw [e]; simp
  refine w_box fun b1 h1 f1 q1 k1 => w_box fun b2 h2 f2 q2 k2 => ?_
  have k12 := k1.trans k2
  refine ⟨190, Try.f190, #[], #[.pointer (some ⟨b1, 0, none⟩)], rfl, callee190, fun w ob bz hw law => ?_⟩
  have kw : Keeps h2 (upd h2 w (ob 0)) := .new hw
  suffices hm : m_maps_Keys_map_int_api_Cap_int_api_Cap_1 (⟨.func (.yield w) #[] #[], rfl, rfl⟩ : PV) ⟨b1, 0, none⟩ (fun _ h'' => ∃ j, h'' w = some (ob j) ∧ ∀ o, (fun (j5 : Nat) => mIf (Nat.beq j5 0) (mLoad cSl ⟨b2, 0, none⟩ fun x9 => m_slices_Sort_int_int x9 fun _ => K x9) nope) j (upd h'' w o)) (upd h2 w (ob 0)) from
    (s_maps_Keys_map_int_api_Cap_int_api_Cap_1.ok ((⟨.func (.yield w) #[] #[], rfl, rfl⟩ : PV), (⟨b1, 0, none⟩ : Addr)) (fun _ h'' => ∃ j, h'' w = some (ob j) ∧ ∀ o, (fun (j5 : Nat) => mIf (Nat.beq j5 0) (mLoad cSl ⟨b2, 0, none⟩ fun x9 => m_slices_Sort_int_int x9 fun _ => K x9) nope) j (upd h'' w o)) _ hm).mono (fun v h'' ⟨_, _, q⟩ => q) fun _ _ q => q
  have ww : upd h2 w (ob 0) w = some (ob 0) := upd_same _ _ _
  generalize upd h2 w (ob 0) = h3 at kw ww
  have k3 := k12.trans kw
  have hwh : h w = none := k12.fresh hw
  have q23 := kw _ _ q2
  have b2h : h b2 = none := k1.fresh f2
  have nwb2 : b2 ≠ w := fun e => by rw [e, hw] at q2; cases q2
  have nbw : b ≠ w := fun e => hb0 (e ▸ hwh)
  have nbb2 : b ≠ b2 := fun e => hb0 (e ▸ b2h)
  unfold m_maps_Keys_map_int_api_Cap_int_api_Cap_1
  refine w_load (v := some b) (cells := cMap) (at_box (cs := [Value.map (some b)]) (kw _ _ (k2 _ _ q1))) (w_range (x.keep k3) fun it h4 f4 it4 k4 => ?_)
  have nit : it.block ≠ b := fun e => by rw [e] at f4; exact hb0 (k3.fresh f4)
  have nitw : it.block ≠ w := fun e => by rw [e, ww] at f4; cases f4
  have nitb2 : it.block ≠ b2 := fun e => by rw [e, q23] at f4; cases f4
  have hith : h it.block = none := k3.fresh f4
  refine w_for l.length (fun j (_ : Unit) h' => ∃ rest at_ ks sn, IterOf (Value.int .i64) Sl.val h' it b l rest at_ ∧ rest.length + j = l.length ∧ ks.length = j ∧ (ks ++ rest.map (·.1)).Perm (l.map (·.1)) ∧ h' w = some (ob 0) ∧ h' b2 = some (.cells (cSl sn).toArray N_Sl_i64 (0, 0)) ∧ Buf (cInt .i64) 1 N_int h' sn ks ∧ (∀ c, sn.foot c → h c = none ∧ c ≠ w ∧ c ≠ it.block) ∧ Keeps h h') ?_
    ⟨l, none, [], Sl.nil, it4, rfl, rfl, .refl _, k4 _ _ ww, k4 _ _ q23, Buf.nil, fun c ⟨_, e, _⟩ => (by cases e), k3.trans k4⟩
  rintro rec j _ h5 hj ⟨rest, at_, ks, sn, it5, hl, hk, pk, w5, q5, bu5, fs5, k5⟩ more
  refine w_next it5 nit (fun e => w_ifF rfl ?_) fun q rest' h6 pm it6 b6 d6 => w_ifT rfl (w_entry it6 ?_)
  · subst e
    rw [List.map_nil, List.append_nil] at pk
    refine ⟨0, w5, fun o => w_ifT rfl ?_⟩
    have bo : But (· = w) h5 (upd h5 w o) := .upd rfl
    have q7 := bo _ _ q5 nwb2
    have bu7 := bu5.but bo fun ad ha e => (fs5 _ ⟨ad, ha, rfl⟩).2.1 e
    refine w_load (at_box q7) (t_Sort bu7 (by omega) fun h8 bu8 w8 => ?_)
    refine y sn h8 ?_ ((k5.but bo fun n e => by rw [e]; exact hwh).but w8.but fun n f => (fs5 n f).1) fun c g => (fs5 c g).1
    rw [show (ks.mergeSort fun x y => decide (x ≤ y)) = isort (l.map (·.1)) from isort_eq pk] at bu8
    exact bu8
  · have e2 := pm.length_eq
    simp only [List.length_cons] at e2
    have w6 := b6 _ _ w5 nitw.symm
    have q6 := b6 _ _ q5 nitb2.symm
    have bu6 := bu5.but b6 fun ad ha e => (fs5 _ ⟨ad, ha, rfl⟩).2.2 e
    have k6 : Keeps h h6 := k5.but b6 fun n e => by rw [e]; exact hith
    refine .inr ⟨w, rfl, law q.1 _ h6 w6 ⟨w6, ?_⟩⟩
    have bA : But (· = w) h6 (upd h6 w bz) := .upd rfl
    have wA : upd h6 w bz w = some bz := upd_same _ _ _
    have dA : ∀ c, upd h6 w bz c = none → h6 c = none := fun c e => (upd_none.1 e).2
    generalize upd h6 w bz = hA at bA wA dA
    have qA := bA _ _ q6 nwb2
    have buA := bu6.but bA fun ad ha e => (fs5 _ ⟨ad, ha, rfl⟩).2.1 e
    refine w_load (at_box qA) (w_box fun b7 h7 f7 q7 k7 => ?_)
    have one : Buf (cInt .i64) 1 N_int h7 ⟨some ⟨b7, 0, none⟩, 1, 1⟩ [q.1] := Buf.one ci_len q7
    refine w_append (by_ := 8) ci_len (fun _ => rfl) rfl (buA.keep k7) one.arr (.inl (by simp only [List.length_singleton]; omega)) fun s8 h8 bu8 b8 f8 d8 => ?_
    have q78 := b8 _ _ (k7 _ _ qA) fun g => (buA.typed g).ne (.of qA) (by decide) rfl
    have wB := b8 _ _ (k7 _ _ wA) fun g => (fs5 w g).2.1 rfl
    refine w_setBox q78 rfl fun h9 q9 b9 d9 => ?_
    have wC := b9 _ _ wB nwb2.symm
    refine ⟨wC, w_ifF rfl ?_⟩
    have bZ : But (· = w) h9 (upd h9 w (ob 0)) := .upd rfl
    have bE : But (fun c => c = w ∨ c = b2 ∨ sn.foot c) h6 (upd h9 w (ob 0)) := (((bA.mono fun c e => Or.inl e).trans (((But.of (F := fun c => c = w ∨ c = b2 ∨ sn.foot c) k7).trans b8 fun c g => .inl (.inr (.inr g))).trans b9 fun c e => .inl (.inr (.inl e))) fun c g => .inl g).trans bZ fun c e => .inl (.inl e))
    have f8' : ∀ c, s8.foot c → sn.foot c ∨ hA c = none := fun c g => (f8 c g).imp id fun z => k7.fresh z
    have nit6 : h6 it.block ≠ none := by obtain ⟨_, _, _, _, e, _⟩ := it6.ex; rw [e]; simp
    have fZ : ∀ c, s8.foot c → h c = none ∧ c ≠ w ∧ c ≠ it.block := fun c g => by
      rcases f8' c g with z | z
      · exact fs5 c z
      · exact ⟨k6.fresh (dA c z), fun e => (by rw [e, wA] at z; cases z), fun e => nit6 (dA _ (e ▸ z))⟩
    have bu9 := bu8.but b9 fun ad ha e => (bu8.typed ⟨ad, ha, rfl⟩).ne (.of q78) (by decide) e
    refine more _ _ (by omega) ⟨rest', some q, ks ++ [q.1], s8, it6.but bE (fun g => ?_) (fun g => ?_), by omega, by rw [List.length_append, hk]; rfl, ?_, upd_same _ _ _, bZ _ _ q9 nwb2, bu9.but bZ fun ad ha e => (fZ _ ⟨ad, ha, rfl⟩).2.1 e, fZ, k6.but bE fun c g => ?_⟩
    · rcases g with g | g | g
      · exact nitw g
      · exact nitb2 g
      · exact (fs5 _ g).2.2 rfl
    · rcases g with g | g | g
      · exact nbw g
      · exact nbb2 g
      · exact hb0 (fs5 _ g).1
    · refine List.Perm.trans ?_ pk
      rw [List.append_assoc]
      exact List.Perm.append_left ks (show ([q.1] ++ rest'.map (·.1)).Perm (rest.map (·.1)) from (pm.map Prod.fst).symm)
    · rcases g with rfl | rfl | g
      · exact hwh
      · exact b2h
      · exact (fs5 _ g).1
end
section
variable {ts : List Tk}
inductive Anc (ts : List Tk) : Int → Tk → Prop
  | here {n : Int} {t : Tk} : t.xparent = n → Anc ts n t
  | up {n : Int} {t u : Tk} : u ∈ ts → u.xname = t.xparent → Anc ts n u → Anc ts n t
structure TsOk (ts : List Tk) : Prop where
  lt : ∀ t ∈ ts, t.xparent < t.xname
  inj : ts.Pairwise fun t u => t.xname < u.xname
theorem TsOk.one (k : TsOk ts) {t u : Tk} (ht : t ∈ ts) (hu : u ∈ ts) (e : t.xname = u.xname) : t = u := by
  have := k.inj
  clear k
  induction ts with
  | nil => cases ht
  | cons a r ih =>
    obtain ⟨h1, h2⟩ := List.pairwise_cons.1 this
    rcases List.mem_cons.1 ht with e1 | ht'
    · rcases List.mem_cons.1 hu with e2 | hu'
      · rw [e1, e2]
      · have := h1 u hu'; rw [e1] at e; omega
    · rcases List.mem_cons.1 hu with e2 | hu'
      · have := h1 t ht'; rw [e2] at e; omega
      · exact ih ht' hu' h2
theorem anc_le (k : TsOk ts) {n : Int} {t : Tk} (a : Anc ts n t) : n ≤ t.xparent := by
  induction a with
  | here e => omega
  | up hu e _ ih => have := k.lt _ hu; omega
theorem anc_apart (k : TsOk ts) {c c' : Tk} (hc : c ∈ ts) (hc' : c' ∈ ts) {n : Int} (pc : c.xparent = n) (pc' : c'.xparent = n) (ne : c.xname ≠ c'.xname) {t : Tk} (a : Anc ts c.xname t) (b : Anc ts c'.xname t) : False := by
  have l1 := k.lt c hc
  have l2 := k.lt c' hc'
  generalize ea : c.xname = x at a
  induction a with
  | here e =>
    subst ea
    cases b with
    | here e' => omega
    | up hu e' b' =>
      have := k.one hu hc (e'.trans e)
      subst this
      have := anc_le k b'
      omega
  | up hu e a' ih =>
    subst ea
    cases b with
    | here e' =>
      have := k.one hu hc' (e.trans e')
      subst this
      have := anc_le k a'
      omega
    | up hu' e' b' =>
      have := k.one hu hu' (e.trans e'.symm)
      subst this
      exact ih b'
noncomputable def cP (A : Tk → Prop) (l : List Tk) : Nat := l.countP fun t => @decide (A t) (Classical.propDecidable _)
theorem cP_pos {A : Tk → Prop} {a : Tk} {r : List Tk} (h : A a) : cP A (a :: r) = cP A r + 1 := by
  unfold cP
  rw [List.countP_cons, if_pos (@decide_eq_true _ (Classical.propDecidable _) h)]
theorem cP_neg {A : Tk → Prop} {a : Tk} {r : List Tk} (h : ¬ A a) : cP A (a :: r) = cP A r := by
  unfold cP
  rw [List.countP_cons, if_neg fun z => h (@of_decide_eq_true _ (Classical.propDecidable _) z)]; rfl
theorem cP_mono {A B : Tk → Prop} {l : List Tk} (h : ∀ t ∈ l, A t → B t) : cP A l ≤ cP B l := List.countP_mono_left fun t ht e => @decide_eq_true _ (Classical.propDecidable _) (h t ht (@of_decide_eq_true _ (Classical.propDecidable _) e))
theorem cP_one {A : Tk → Prop} {l : List Tk} {c : Tk} (hc : c ∈ l) (h : A c) : 1 ≤ cP A l := List.countP_pos_iff.2 ⟨c, hc, @decide_eq_true _ (Classical.propDecidable _) h⟩
theorem count_or {A B : Tk → Prop} : ∀ {l : List Tk}, (∀ t ∈ l, ¬ (A t ∧ B t)) → cP A l + cP B l ≤ cP (fun t => A t ∨ B t) l
  | [], _ => Nat.le_refl _
  | a :: r, h => by
    have ih := count_or (l := r) fun t ht => h t (List.mem_cons_of_mem _ ht)
    have ha := h a (List.mem_cons_self ..)
    by_cases x : A a
    · by_cases y : B a
      · exact absurd ⟨x, y⟩ ha
      · rw [cP_pos x, cP_neg y, cP_pos (A := fun t => A t ∨ B t) (.inl x)]; omega
    · by_cases y : B a
      · rw [cP_neg x, cP_pos y, cP_pos (A := fun t => A t ∨ B t) (.inr y)]; omega
      · rw [cP_neg x, cP_neg y, cP_neg (A := fun t => A t ∨ B t) (fun z => z.elim x y)]; omega
def cntB (ts : List Tk) (o : Int) : Nat → Int → Nat
  | 0, _ => 0
  | f + 1, n => (ts.map fun t => if t.xcap.Obj = o ∧ t.xparent = n then 1 + cntB ts o f t.xname else 0).sum
theorem cnt_anc (k : TsOk ts) {o : Int} : ∀ (f : Nat) (n : Int), cntB ts o f n ≤ cP (Anc ts n) ts
  | 0, _ => Nat.zero_le _
  | f + 1, n => by
    have key : ∀ l : List Tk, (∀ t ∈ l, t ∈ ts) → l.Pairwise (fun t u => t.xname < u.xname) → (l.map fun t => if t.xcap.Obj = o ∧ t.xparent = n then 1 + cntB ts o f t.xname else 0).sum ≤ cP (fun t => ∃ c ∈ l, c.xparent = n ∧ (t = c ∨ Anc ts c.xname t)) ts := by
      intro l
      induction l with
      | nil => intro _ _; exact Nat.zero_le _
      | cons c r ih =>
        intro hm hp
        obtain ⟨h1, h2⟩ := List.pairwise_cons.1 hp
        have hc := hm c (List.mem_cons_self ..)
        have i := ih (fun t ht => hm t (List.mem_cons_of_mem _ ht)) h2
        rw [List.map_cons, List.sum_cons]
        by_cases q : c.xcap.Obj = o ∧ c.xparent = n
        · rw [if_pos q]
          have c1 := cnt_anc k f c.xname (o := o)
          have c2 : 1 ≤ cP (fun t => t = c) ts := cP_one hc rfl
          have c3 := count_or (A := fun t => t = c) (B := fun t => Anc ts c.xname t) (l := ts) fun t _ ⟨e, a⟩ => by
            subst e
            have := anc_le k a
            have := k.lt t hc
            omega
          have c4 := count_or (A := fun t => t = c ∨ Anc ts c.xname t) (B := fun t => ∃ c ∈ r, c.xparent = n ∧ (t = c ∨ Anc ts c.xname t)) (l := ts) fun t ht ⟨a, c', hc', pc', b⟩ => by
            have ne := h1 c' hc'
            have hc2 := hm c' (List.mem_cons_of_mem _ hc')
            have l1 := k.lt c hc
            have l2 := k.lt c' hc2
            rcases a with rfl | a
            · rcases b with rfl | b
              · omega
              · have := anc_le k b; omega
            · rcases b with rfl | b
              · have := anc_le k a; omega
              · exact anc_apart k hc hc2 q.2 pc' (by omega) a b
          have c5 : cP (fun t => (t = c ∨ Anc ts c.xname t) ∨ ∃ c ∈ r, c.xparent = n ∧ (t = c ∨ Anc ts c.xname t)) ts ≤ cP (fun t => ∃ c' ∈ c :: r, c'.xparent = n ∧ (t = c' ∨ Anc ts c'.xname t)) ts := cP_mono fun t _ ht => by
            rcases ht with ht | ⟨c', h, h'⟩
            · exact ⟨c, List.mem_cons_self .., q.2, ht⟩
            · exact ⟨c', List.mem_cons_of_mem _ h, h'⟩
          have c1 : cntB ts o f c.xname ≤ cP (fun t => Anc ts c.xname t) ts := c1
          omega
        · rw [if_neg q, Nat.zero_add]
          refine Nat.le_trans i (cP_mono fun t _ ht => ?_)
          obtain ⟨c', h, h'⟩ := ht
          exact ⟨c', List.mem_cons_of_mem _ h, h'⟩
    refine Nat.le_trans (key ts (fun _ h => h) k.inj) (cP_mono fun t ht e => ?_)
    obtain ⟨c, hc, pc, rfl | a⟩ := e
    · exact .here pc
    · have : ∀ {t : Tk}, Anc ts c.xname t → Anc ts n t := fun a => by
        generalize ex : c.xname = x at a
        induction a with
        | here e => exact .up hc (ex.trans e.symm) (.here pc)
        | up hu e _ ih => exact .up hu e ih
      exact this a
theorem cntB_le (k : TsOk ts) (o : Int) (f : Nat) (n : Int) : cntB ts o f n ≤ ts.length := Nat.le_trans (cnt_anc k f n) List.countP_le_length
def belF (ts : List Tk) (o : Int) (f : Nat) (n at_ : Int) (out : List S_api_Token) (t : Tk) : List S_api_Token := if t.xcap.Obj = o ∧ t.xparent = n then belowO ts o f t.xname (out.length : Int) (out ++ [⟨t.xcap, t.xrights, at_⟩]) else out
theorem belowO_succ (o : Int) (f : Nat) (n at_ : Int) (out : List S_api_Token) : belowO ts o (f + 1) n at_ out = ts.foldl (belF ts o f n at_) out := rfl
theorem below_len (o : Int) : ∀ (f : Nat) (n at_ : Int) (out : List S_api_Token), (belowO ts o f n at_ out).length = out.length + cntB ts o f n
  | 0, _, _, _ => rfl
  | f + 1, n, at_, out => by
    have key : ∀ (l : List Tk) (out : List S_api_Token), (l.foldl (belF ts o f n at_) out).length = out.length + (l.map fun t => if t.xcap.Obj = o ∧ t.xparent = n then 1 + cntB ts o f t.xname else 0).sum := by
      intro l
      induction l with
      | nil => intro out; rfl
      | cons t r ih =>
        intro out
        rw [List.foldl_cons, ih, List.map_cons, List.sum_cons]
        unfold belF
        by_cases q : t.xcap.Obj = o ∧ t.xparent = n
        · rw [if_pos q, if_pos q, below_len o f, List.length_append, List.length_singleton]; omega
        · rw [if_neg q, if_neg q]; omega
    rw [belowO_succ, key]; rfl
end
theorem belF_len {ts : List Tk} (o : Int) (f : Nat) (n at_ : Int) : ∀ (l : List Tk) (out : List S_api_Token), (l.foldl (belF ts o f n at_) out).length = out.length + (l.map fun t => if t.xcap.Obj = o ∧ t.xparent = n then 1 + cntB ts o f t.xname else 0).sum
  | [], out => rfl
  | t :: r, out => by
    rw [List.foldl_cons, belF_len o f n at_ r, List.map_cons, List.sum_cons]
    unfold belF
    by_cases q : t.xcap.Obj = o ∧ t.xparent = n
    · rw [if_pos q, if_pos q, below_len o f, List.length_append, List.length_singleton]; omega
    · rw [if_neg q, if_neg q]; omega
theorem above_lt {ts : List Tk} (k : TsOk ts) {t : Tk} (ht : t ∈ ts) {n : Int} (e : t.xparent = n) : cP (fun u => t.xname < u.xname) ts + 1 ≤ cP (fun u => n < u.xname) ts := by
  have c2 : 1 ≤ cP (fun u => u = t) ts := cP_one ht rfl
  have c3 := count_or (A := fun u => t.xname < u.xname) (B := fun u => u = t) (l := ts) fun u _ ⟨a, e⟩ => by subst e; omega
  have l1 := k.lt t ht
  have c5 : cP (fun u => t.xname < u.xname ∨ u = t) ts ≤ cP (fun u => n < u.xname) ts := cP_mono fun u _ h => by
    rcases h with h | rfl
    · omega
    · omega
  omega
section
variable {p : Nat} {F : Nat → Prop} {m : MdS}
theorem MSI.ok (i : MSI m) : TsOk m.ts := ⟨fun t ht => (i.tsm t ht).2.2.2, i.tsp⟩
theorem t_below_n (i : MSI m) (o : Int) : ∀ (f : Nat) {h : H} {name at_ : Int} {s : Sl} {out : List S_api_Token}, PM h p F m → Buf S_api_Token.cells 5 N_api_Token h s out → (∀ c, s.foot c → ¬ F c) → cP (fun u => name < u.xname) m.ts < f → out.length + cntB m.ts o f name ≤ 2 ^ 30 → ∀ {K : Sl → H → Prop},
    (∀ s' h', Buf S_api_Token.cells 5 N_api_Token h' s' (belowO m.ts o f name at_ out) → But s.foot h h' → (∀ c, s'.foot c → s.foot c ∨ h c = none) → (∀ c, h' c = none → h c = none) → K s' h') → m_plain_Model_below_n f (some ⟨p, 0, none⟩) s o name at_ K h
  | 0, _, _, _, _, _, _, _, _, me, _, _, _ => absurd me (Nat.not_lt_zero _)
  | f + 1, h, name, at_, s, out, x, b, ns, me, room, K, y => by
    show m_plain_Model_below_s (m_plain_Model_below_n f) (some ⟨p, 0, none⟩) s o name at_ K h
    unfold m_plain_Model_below_s
    have tl : ∀ x : S_api_Token, (S_api_Token.cells x).length = 5 := fun _ => rfl
    have x0 := x
    obtain ⟨bo, bl, sd, st, so, sl, x⟩ := x
    have hl := x.ts.len
    have tn := i.tsn
    have nst : ∀ c, st.foot c → ¬ s.foot c := fun c g g' => ns c g' (x.ft c g)
    rw [belowO_succ] at y
    have rm : ∀ j, ((m.ts.take j).foldl (belF m.ts o f name at_) out).length ≤ 2 ^ 30 := fun j => by
      rw [belF_len]
      have e : (m.ts.map fun t => if t.xcap.Obj = o ∧ t.xparent = name then 1 + cntB m.ts o f t.xname else 0).sum = cntB m.ts o (f + 1) name := rfl
      have e2 := congrArg (fun l => (l.map fun t : Tk => if t.xcap.Obj = o ∧ t.xparent = name then 1 + cntB m.ts o f t.xname else 0).sum) (List.take_append_drop j m.ts)
      simp only [List.map_append, List.sum_append] at e2
      omega
    refine w_deref (w_load x.f13 (w_for m.ts.length (fun j (z : Sl × Int) hh => z.2 = (j : Int) ∧ Buf S_api_Token.cells 5 N_api_Token hh z.1 ((m.ts.take j).foldl (belF m.ts o f name at_) out) ∧ But s.foot h hh ∧ (∀ c, z.1.foot c → s.foot c ∨ h c = none) ∧ ∀ c, hh c = none → h c = none) ?_ ⟨rfl, b, .refl _ _, fun _ g => .inl g, fun _ q => q⟩))
    rintro rec j ⟨sj, _⟩ hh hj ⟨ej, bj, bt, fj, dj⟩ more
    have ej : _ = (j : Int) := ej
    subst ej
    have fj : ∀ c, sj.foot c → s.foot c ∨ h c = none := fj
    have bj : Buf S_api_Token.cells 5 N_api_Token hh sj ((m.ts.take j).foldl (belF m.ts o f name at_) out) := bj
    have xh : PM hh p F m := x0.but bt (fun c g g' => ns c g' g) dj
    have nsj : ∀ c, sj.foot c → ¬ F c := fun c g g' => (fj c g).elim (fun g => ns c g g') fun z => x.has c g' z
    have tsh : Buf cTk 6 N_plain_token hh st m.ts := x.ts.but bt fun ad ha g => nst _ ⟨ad, ha, rfl⟩ g
    refine w_if' (fun c => ?_) fun c => ?_
    · have c : (j : Int) < (st.len : Int) := c
      have hjl : j < m.ts.length := by omega
      have ht := List.getElem?_eq_getElem hjl
      have hm := List.getElem_mem hjl
      generalize m.ts[j] = t at ht hm
      have fs : (m.ts.take (j + 1)).foldl (belF m.ts o f name at_) out = belF m.ts o f name at_ ((m.ts.take j).foldl (belF m.ts o f name at_) out) t := by rw [List.take_add_one, ht, List.foldl_append]; rfl
      have r1 := rm (j + 1)
      have r0 := rm j
      rw [fs] at r1
      generalize (m.ts.take j).foldl (belF m.ts o f name at_) out = cur at bj fs r1 r0
      refine w_get ptk_len tsh.arr ht rfl rfl (w_if (fun q => ?_) fun q => ?_)
      · have q : t.xcap.Obj = o ∧ t.xparent = name := by simpa using q
        rw [belF, if_pos q, below_len] at r1
        rw [belF, if_pos q] at fs
        rw [List.length_append, List.length_singleton] at r1
        refine w_app tl rfl bj [(⟨t.xcap, t.xrights, at_⟩ : S_api_Token)] rfl rfl (.inl (by show (2 * (_ + 1) + 192) * 40 ≤ 2 ^ 48; omega)) fun s7 h7 b7 bt7 f7 d7 => ?_
        have l7 := b7.len
        rw [List.length_append, List.length_singleton] at l7
        have x7 : PM h7 p F m := xh.but bt7 (fun c g g' => nsj c g' g) d7
        have ns7 : ∀ c, s7.foot c → ¬ F c := fun c g g' => (f7 c g).elim (fun g => nsj c g g') fun z => xh.has c g' z
        have me' := above_lt i.ok hm q.2
        have eat : iSub .i64 (s7.len : Int) 1 = (cur.length : Int) := by rw [iSub_eq (by omega) (by omega)]; omega
        rw [eat]
        refine t_below_n i o f x7 b7 ns7 (by omega) (by rw [List.length_append, List.length_singleton]; omega) fun s8 h8 b8 bt8 f8 d8 => ?_
        have btj : But (fun c => s.foot c) h h8 := (bt.trans bt7 fun c g => fj c g).trans bt8 fun c g => (f7 c g).elim (fun g => fj c g) fun z => .inr (dj c z)
        refine more _ _ hjl ⟨ia1 j (by omega), by rw [fs]; exact b8, btj, fun c g => ?_, fun c z => dj c (d7 c (d8 c z))⟩
        rcases f8 c g with g | z
        · rcases f7 c g with g | z
          · exact fj c g
          · exact .inr (dj c z)
        · exact .inr (dj c (d7 c z))
      · have q : ¬ (t.xcap.Obj = o ∧ t.xparent = name) := fun z => by
          have : (decide (t.xcap.Obj = o) && decide (t.xparent = name)) = true := by simpa using z
          rw [this] at q; cases q
        rw [belF, if_neg q] at fs
        exact more _ _ hjl ⟨ia1 j (by omega), by rw [fs]; exact bj, bt, fj, dj⟩
    · have c : ¬ (j : Int) < (st.len : Int) := c
      rw [List.take_of_length_le (by omega)] at bj
      exact y sj hh bj bt fj dj
theorem t_below (i : MSI m) {o : Int} {h : H} {s : Sl} {out : List S_api_Token} (x : PM h p F m) (b : Buf S_api_Token.cells 5 N_api_Token h s out) (ns : ∀ c, s.foot c → ¬ F c) (room : out.length ≤ 2 ^ 29) {K : Sl → H → Prop}
    (y : ∀ s' h', Buf S_api_Token.cells 5 N_api_Token h' s' (belowO m.ts o (m.ts.length + 1) 0 (-1) out) → (belowO m.ts o (m.ts.length + 1) 0 (-1) out).length ≤ out.length + 256 → But s.foot h h' → (∀ c, s'.foot c → s.foot c ∨ h c = none) → (∀ c, h' c = none → h c = none) → K s' h') : m_plain_Model_below (some ⟨p, 0, none⟩) s o 0 (-1) K h := by
  have cl := cntB_le i.ok o (m.ts.length + 1) 0
  have tn := i.tsn
  exact ⟨m.ts.length + 1, t_below_n i o (m.ts.length + 1) x b ns (Nat.lt_succ_of_le List.countP_le_length) (by omega) fun s' h' b' => y s' h' b' (by rw [below_len]; omega)⟩
end
section
variable {m : MdS}
structure MSR (m : MdS) : Prop where
  ob : (m.ob.map (·.1)).Pairwise (· < ·)
  ls : (m.ls.map (·.1)).Pairwise (· < ·)
theorem rise_del {V : Type} {l : List (Int × V)} (o : Once l) (h : (l.map (·.1)).Pairwise (· < ·)) (k : Int) : ((adel l k).map (·.1)).Pairwise (· < ·) := by
  rw [adel_keys _ _ o]
  exact h.sublist List.erase_sublist
theorem rise_new {V : Type} {l : List (Int × V)} (h : (l.map (·.1)).Pairwise (· < ·)) {k : Int} {v : V} (b : ∀ q ∈ l, q.1 < k) : ((l ++ [(k, v)]).map (·.1)).Pairwise (· < ·) := by
  rw [List.map_append]
  refine List.pairwise_append.2 ⟨h, List.pairwise_singleton _ _, fun a ha c hc => ?_⟩
  obtain ⟨q, hq, rfl⟩ := List.mem_map.1 ha
  have : c = k := by simpa using hc
  rw [this]; exact b q hq
theorem rise_set {V : Type} {l : List (Int × V)} (h : (l.map (·.1)).Pairwise (· < ·)) {k : Int} {v : V} (hk : k ∈ l.map (·.1)) : ((aset l k v).map (·.1)).Pairwise (· < ·) := by
  rw [aset_map, if_pos hk]; exact h
theorem der_same (o r name : Int) : ∀ n tk, (derO m o r name tk n).2.ob = m.ob ∧ (derO m o r name tk n).2.ls = m.ls
  | 0, _ => ⟨rfl, rfl⟩
  | n + 1, tk => by
    rw [derO]
    split
    · exact ⟨rfl, rfl⟩
    · split
      · exact der_same o r name n (tk + 1)
      · exact ⟨rfl, rfl⟩
theorem derive_same (c : S_api_Cap) (r : Int) : (deriveO m c r).2.ob = m.ob ∧ (deriveO m c r).2.ls = m.ls := by
  unfold deriveO
  repeat' split
  all_goals first | exact der_same _ _ _ _ _ | exact ⟨rfl, rfl⟩
theorem MSR.same {m' : MdS} (x : MSR m) (e : m'.ob = m.ob ∧ m'.ls = m.ls) : MSR m' := ⟨e.1 ▸ x.ob, e.2 ▸ x.ls⟩
theorem MSR.gone (x : MSR m) (i : MSI m) (o : Int) : MSR (goneO m o) := ⟨rise_del i.obo x.ob o, x.ls⟩
theorem rise_do (x : MSR m) (i : MSI m) (c : S_api_Call) (ds : List UInt8) (gs : List Int) : MSR (doO m c ds gs).2 := by
  unfold doO
  by_cases q0 : formedO c ds gs
  · rw [if_pos q0]
    by_cases hl : (alook m.ls c.By).isSome = true
    · rw [if_pos hl]
      by_cases q : c.Op = 1
      · rw [if_pos q]
        unfold createO
        repeat' split
        all_goals first | exact x | exact ⟨rise_new x.ob fun q hq => (i.obk q hq).2, x.ls⟩
      rw [if_neg q]; clear q
      by_cases q : c.Op = 2
      · rw [if_pos q]
        unfold destroyO
        split
        · exact x
        · exact x.gone i _
      rw [if_neg q]; clear q
      by_cases q : c.Op = 3
      · rw [if_pos q]; exact x.same (derive_same _ _)
      rw [if_neg q]; clear q
      by_cases q : c.Op = 4
      · rw [if_pos q]
        unfold revokeO
        repeat' split
        all_goals first | exact x.gone i _ | exact ⟨x.ob, x.ls⟩
      rw [if_neg q]; clear q
      by_cases q : c.Op = 5
      · rw [if_pos q, (read_sh c).1]; exact x
      rw [if_neg q]; clear q
      by_cases q : c.Op = 6
      · rw [if_pos q]
        unfold writeO
        dsimp only
        split
        · next q1 =>
          split
          · exact ⟨rise_set x.ob (may_here i q1), x.ls⟩
          · exact x
        · exact x
      rw [if_neg q]; clear q
      by_cases q : c.Op = 7
      · rw [if_pos q]
        unfold addO
        repeat' split
        all_goals first | exact x | exact ⟨x.ob, rise_set x.ls (look_key hl)⟩
      rw [if_neg q]; clear q
      by_cases q : c.Op = 8
      · rw [if_pos q]
        unfold removeO
        split
        · exact x
        · exact ⟨x.ob, rise_set x.ls (look_key hl)⟩
      rw [if_neg q]; clear q
      by_cases q : c.Op = 9
      · rw [if_pos q]
        unfold spawnO
        repeat' split
        all_goals first | exact x | exact ⟨x.ob, rise_new x.ls fun q hq => (i.lsk q hq).2⟩
      rw [if_neg q]
      exact ⟨x.ob, rise_del i.lso x.ls _⟩
    · rw [if_neg hl]; exact x
  · rw [if_neg q0]; exact x
theorem rise_newO (c : S_api_Config) (dr : List S_api_Word) : MSR (newO c dr) := ⟨List.Pairwise.nil, List.pairwise_singleton _ _⟩
theorem isort_rise {l : List Int} (h : l.Pairwise (· < ·)) : isort l = l := by
  have hn : l.Nodup := h.imp fun {a b} q e => by omega
  exact rising_eq (isort_rising hn) h fun x => (isort_perm l).mem_iff
end
section
variable {T : Type} {cells : T → List Value} {sz : Nat} {e : TypeId}
theorem w_cloneMap (cl : Sl → (Sl → H → Prop) → H → Prop)
    (hcl : ∀ {h : H} {s : Sl} {xs : List T} {k : Sl → H → Prop}, Arr cells h s xs → xs.length ≤ 2 ^ 20 → (∀ s' h', Buf cells sz e h' s' xs → Keeps h h' → (∀ c, s'.foot c → h c = none) → k s' h') → cl s k h)
    {t : TypeId} (hu : Try.prog.underlying t = some (.int .i64)) {h0 h : H} {b d : Nat} {so : List (Int × Sl)} {ob : List (Int × List T)} {F : Nat → Prop} (kp : Keeps h0 h) (mo : MapOf (Value.int .i64) Sl.val h0 b so) (ro : Rows cells sz e h0 F so ob) (md : MapOf (Value.int .i64) Sl.val h d ([] : List (Int × Sl))) (fd : h0 d = none)
    (hn : ∀ q ∈ ob, q.2.length ≤ 2 ^ 20) {K : H → Prop}
    (y : ∀ h' (sd : List (Int × Sl)) (ks : List Int) (G : Nat → Prop), MapOf (Value.int .i64) Sl.val h' d sd → Rows cells sz e h' G sd (ks.map fun k => (k, (alook ob k).getD [])) → ks.Perm (ob.map (·.1)) → But (· = d) h h' → (∀ c, h' c = none → h c = none) → (∀ c, G c → h c = none) → (∀ c, G c → h' c ≠ none) → K h') :
    mRange (some b) (fun it => mLoop (fun (rec : Unit → H → Prop) (_ : Unit) => mNext it fun n => mIf n.1 (mEntry (Value.int .i64) Sl.val it fun e15 => cl e15.2 fun r16 => mMapSet (eqV Try.prog 40 t) (some d) (Value.int .i64 e15.1) (Sl.val r16) <| rec ()) K) ()) h := by
  have hb0 : h0 b ≠ none := by obtain ⟨_, _, e, _⟩ := mo; rw [e]; simp
  have hd0 : h d ≠ none := by obtain ⟨_, _, e, _⟩ := md; rw [e]; simp
  have nbd : b ≠ d := fun e => hb0 (e ▸ fd)
  refine w_range (mo.keep kp) fun it h1 f1 it1 k1 => ?_
  have nit : it.block ≠ b := fun e => by rw [e] at f1; exact hb0 (kp.fresh f1)
  have nitd : it.block ≠ d := fun e => by rw [e] at f1; exact hd0 f1
  have osd := ro.onceS
  refine w_for so.length (fun j (_ : Unit) hh => ∃ (rest : List (Int × Sl)) (at_ : Option (Int × Sl)) (ks : List Int) (sd : List (Int × Sl)) (G : Nat → Prop), IterOf (Value.int .i64) Sl.val hh it b so rest at_ ∧ rest.length + j = so.length ∧ (ks ++ rest.map (·.1)).Perm (so.map (·.1)) ∧ MapOf (Value.int .i64) Sl.val hh d sd ∧ Rows cells sz e hh G sd (ks.map fun k => (k, (alook ob k).getD [])) ∧ (∀ c, G c → h c = none ∧ c ≠ it.block ∧ hh c ≠ none) ∧ But (· = d) h hh ∧ (∀ c, hh c = none → h c = none) ∧ ∀ q ∈ rest, alook so q.1 = some q.2) ?_
    ⟨so, none, [], [], fun _ => False, it1, rfl, .refl _, md.keep k1, Rows.nil, fun _ q => q.elim, .of k1, fun _ => k1.fresh, fun q hq => osd.look hq⟩
  rintro rec j _ h2 hj ⟨rest, at_, ks, sd, G, it2, hl, pk, m2, r2, g2, b2, d2, lk⟩ more
  refine w_next it2 nit (fun e => w_ifF rfl ?_) fun q rest' h3 pm it3 b3 d3 => w_ifT rfl (w_entry it3 ?_)
  · subst e
    rw [List.map_nil, List.append_nil, ro.keys] at pk
    exact y h2 sd ks G m2 r2 pk b2 d2 (fun c g => (g2 c g).1) fun c g => (g2 c g).2.2
  · have e2 := pm.length_eq
    simp only [List.length_cons] at e2
    have hq := lk q (pm.symm.subset (List.mem_cons_self ..))
    have k03 : Keeps h0 h3 := (kp.but b2 fun n e => by rw [e]; exact fd).but b3 fun n e => by rw [e]; exact kp.fresh f1
    have hs := alook_some ro.keys q.1
    rw [hq] at hs
    cases hx : alook ob q.1 with
    | none => rw [hx] at hs; cases hs
    | some xs =>
    have bx := (ro.buf _ _ _ hq hx).keep k03
    have m3 := m2.but b3 fun z => nitd z.symm
    have r3 := r2.but b3 fun i s q c g z => (g2 c (r2.foot i s q c g)).2.1 z
    refine hcl bx.arr (hn _ (alook_mem hx)) fun s4 h4 b4 k4 f4 => ?_
    have m4 := m3.keep k4
    have r4 := (r3.but (But.of (F := fun _ => False) k4) fun _ _ _ _ _ z => z)
    have G3 : ∀ c, G c → h3 c ≠ none := fun c g z => (g2 c g).2.2 (d3 c z)
    have r4' := r4.give (k := q.1) b4 fun c g g' => G3 c g' (f4 c g)
    refine w_mapSet (keyP hu) m4 rfl rfl fun h5 m5 b5 d5 => ?_
    have r5 := r4'.but b5 fun i s q' c g e => m4.untyped (r4'.typed q' g) e
    have nk : q.1 ∉ ks := fun z => by
      have nd : (ks ++ rest.map (·.1)).Nodup := pk.symm.nodup osd
      have hm : q.1 ∈ rest.map (·.1) := List.mem_map_of_mem (pm.symm.subset (List.mem_cons_self ..))
      exact (List.nodup_append.1 nd).2.2 _ z _ hm rfl
    have eo : aset (ks.map fun k => (k, (alook ob k).getD [])) q.1 xs = (ks ++ [q.1]).map fun k => (k, (alook ob k).getD []) := by
      rw [aset_new (by rw [List.map_map]; simpa using nk), List.map_append]
      show _ = _ ++ [(q.1, (alook ob q.1).getD [])]
      rw [hx]; rfl
    rw [eo] at r5
    have bt : But (· = d) h h5 := ((b2.trans b3 fun n e => .inr (by rw [e]; exact f1)).trans (But.of (F := (· = d)) k4) fun n e => .inl e).trans b5 fun n e => .inl e
    have it3e : h3 it.block ≠ none := by obtain ⟨_, _, _, _, e, _⟩ := it3.ex; rw [e]; simp
    refine more _ _ (by omega) ⟨rest', some q, ks ++ [q.1], aset sd q.1 s4, fun c => G c ∨ s4.foot c, (it3.keep k4).but b5 (fun z => nitd z) (fun z => nbd z), by omega, ?_, m5, r5, fun c g => ?_, bt, fun c z => d2 c (d3 c (k4.fresh (d5 c z))), fun z hz => lk z (pm.symm.subset (List.mem_cons_of_mem _ hz))⟩
    · refine List.Perm.trans ?_ pk
      rw [List.append_assoc]
      exact List.Perm.append_left ks (show ([q.1] ++ rest'.map (·.1)).Perm (rest.map (·.1)) from (pm.map Prod.fst).symm)
    · rcases g with g | g
      · exact ⟨(g2 c g).1, (g2 c g).2.1, fun z => G3 c g (k4.fresh (d5 c z))⟩
      · exact ⟨d2 c (d3 c (f4 c g)), fun e => it3e (e ▸ f4 c g), fun z => b4.has g (d5 c z)⟩
end
section
variable {T : Type} {cells : T → List Value} {sz : Nat} {e : TypeId}
theorem alook_of {V : Type} (g : Int → V) {l : List Int} {k : Int} {v : V} (h : alook (l.map fun k => (k, g k)) k = some v) : k ∈ l ∧ v = g k := by
  have hm := alook_mem h
  obtain ⟨q, hq, eq⟩ := List.mem_map.1 hm
  cases eq
  exact ⟨hq, rfl⟩
theorem alook_in {V : Type} (g : Int → V) : ∀ {l : List Int} {k : Int}, k ∈ l → alook (l.map fun k => (k, g k)) k = some (g k)
  | a :: r, k, h => by
    rw [List.map_cons, alook_cons]
    by_cases q : k = a
    · rw [if_pos q, q]
    · rw [if_neg q]
      exact alook_in g ((List.mem_cons.1 h).resolve_left q)
theorem Rows.order {h : H} {G : Nat → Prop} {sd : List (Int × Sl)} {ks : List Int} {ob : List (Int × List T)} (x : Rows cells sz e h G sd (ks.map fun k => (k, (alook ob k).getD []))) (o : Once ob) (pm : ks.Perm (ob.map (·.1))) : Rows cells sz e h G ((ob.map (·.1)).map fun k => (k, (alook sd k).getD Sl.nil)) ob := by
  have mem : ∀ {k s}, alook ((ob.map (·.1)).map fun k => (k, (alook sd k).getD Sl.nil)) k = some s → k ∈ ks ∧ alook sd k = some s := fun {k s} q => by
    obtain ⟨h1, h2⟩ := alook_of (fun k => (alook sd k).getD Sl.nil) q
    have hk : k ∈ ks := pm.symm.subset h1
    refine ⟨hk, ?_⟩
    have := alook_some x.keys k
    rw [alook_in (fun k => (alook ob k).getD []) hk] at this
    cases z : alook sd k with
    | none => rw [z] at this; cases this
    | some s' => rw [h2, z]; rfl
  refine ⟨by rw [List.map_map]; exact (List.map_congr_left fun k _ => rfl).trans (List.map_id _), o, fun k s xs q1 q2 => ?_, fun k k' s s' ne q1 q2 => x.apart k k' s s' ne (mem q1).2 (mem q2).2, fun k s q => x.foot k s (mem q).2⟩
  obtain ⟨hk, hs⟩ := mem q1
  refine x.buf k s xs hs ?_
  rw [alook_in (fun k => (alook ob k).getD []) hk, q2]; rfl
end
structure StAt (h h' : H) (s : S_api_State) (v : StV) (so sl : List (Int × Sl)) (G : Nat → Prop) : Prop where
  ob : Buf S_api_Object.cells 2 N_api_Object h' s.Objects (so.map fun q => ⟨q.1, q.2⟩)
  bs : Rows cU8 1 N_u8 h' G so v.ob
  ts : Buf S_api_Token.cells 5 N_api_Token h' s.Tokens v.ts
  ps : Buf S_api_Process.cells 2 N_api_Process h' s.Processes (sl.map fun q => ⟨q.1, q.2⟩)
  ls : Rows cCp 3 N_api_Cap h' G sl v.ls
  nums : s.NextId = v.ni ∧ s.NextProc = v.np ∧ s.Taken = v.tk
  new : ∀ c, s.Objects.foot c ∨ s.Tokens.foot c ∨ s.Processes.foot c ∨ G c → h c = none
section
variable {h : H} {p : Nat} {F : Nat → Prop} {m : MdS}
theorem t_cloneB {h : H} {s : Sl} {xs : List UInt8} {k : Sl → H → Prop} (ar : Arr cU8 h s xs) (hn : xs.length ≤ 2 ^ 20) (y : ∀ s' h', Buf cU8 1 N_u8 h' s' xs → Keeps h h' → (∀ c, s'.foot c → h c = none) → k s' h') : m_slices_Clone_byte_byte s k h := by
  unfold m_slices_Clone_byte_byte
  exact w_clone (by_ := 1) (e := N_u8) u8_len u8_plain rfl ar (by omega) y
theorem t_cloneC {h : H} {s : Sl} {xs : List S_api_Cap} {k : Sl → H → Prop} (ar : Arr cCp h s xs) (hn : xs.length ≤ 2 ^ 20) (y : ∀ s' h', Buf cCp 3 N_api_Cap h' s' xs → Keeps h h' → (∀ c, s'.foot c → h c = none) → k s' h') : m_slices_Clone_api_Cap_api_Cap s k h := by
  unfold m_slices_Clone_api_Cap_api_Cap
  exact w_clone (by_ := 24) (e := N_api_Cap) cap_len cap_plain rfl ar (by omega) y
theorem t_pState (x : PM h p F m) (i : MSI m) (r : MSR m) {K : S_api_State → H → Prop} (y : ∀ s h' so sl G, StAt h h' s (stateO m) so sl G → Keeps h h' → K s h') : m_plain_Model_State (some ⟨p, 0, none⟩) K h := by
  unfold m_plain_Model_State
  have x0 := x
  obtain ⟨bo, bl, sd, st, so, sl, x⟩ := x
  have on := i.obn
  have ln := i.lsn
  refine w_deref (w_deref (w_deref (w_load x.f16 (w_load x.f17 (w_load x.f11 (w_makeMap (Value.int .i64) Sl.val fun d7 h1 fd7 m7 k1 => w_makeMap (Value.int .i64) Sl.val fun d8 h2 fd8 m8 k2 => ?_))))))
  have k12 := k1.trans k2
  have x2 := x.keep k12
  have n78 : d7 ≠ d8 := fun e => by
    obtain ⟨_, _, z, _⟩ := m7
    rw [e, fd8] at z; cases z
  refine w_deref (w_load x2.f12 (w_cloneMap (T := UInt8) (cells := cU8) (sz := 1) (e := N_u8) (fun s k => m_slices_Clone_byte_byte s k) t_cloneB (by kernel_rfl) (h0 := h) k12 x.mo x.ob (m7.keep k2) fd7 (fun q hq => Nat.le_trans (i.obs q hq) (by decide)) fun h3 sd7 ks7 G7 m73 r73 pm7 b3 d3 f7 g7 => ?_))
  have k3 : Keeps h h3 := k12.but b3 fun n e => by rw [e]; exact fd7
  have x3 := x.keep k3
  have fd8' : h d8 = none := k1.fresh fd8
  refine w_deref (w_load x3.f15 (w_cloneMap (T := S_api_Cap) (cells := cCp) (sz := 3) (e := N_api_Cap) (fun s k => m_slices_Clone_api_Cap_api_Cap s k) t_cloneC (by kernel_rfl) (h0 := h) k3 x.ml x.ls (m8.but b3 fun e => n78 e.symm) fd8' (fun q hq => Nat.le_trans (i.lsl q hq) (by decide)) fun h4 sd8 ks8 G8 m84 r84 pm8 b4 d4 f8 g8 => ?_))
  have k4 : Keeps h h4 := k3.but b4 fun n e => by rw [e]; exact fd8'
  have m83 := m8.but b3 fun e => n78 e.symm
  have m74 := m73.but b4 n78
  have r74 := r73.but b4 fun i s q c g e => m83.untyped (r73.typed q g) e
  have e7 : sd7.map (·.1) = ks7 := by rw [r73.keys, List.map_map]; exact (List.map_congr_left fun k _ => rfl).trans (List.map_id _)
  have e8 : sd8.map (·.1) = ks8 := by rw [r84.keys, List.map_map]; exact (List.map_congr_left fun k _ => rfl).trans (List.map_id _)
  have l7 : sd7.length = m.ob.length := by
    have := pm7.length_eq
    rw [← e7, List.length_map, List.length_map] at this; exact this
  have l8 : sd8.length = m.ls.length := by
    have := pm8.length_eq
    rw [← e8, List.length_map, List.length_map] at this; exact this
  refine t_keysO m74 (by omega) fun s5 h5 b5 k5 f5 => ?_
  rw [e7, isort_eq pm7, isort_rise r.ob] at b5
  have k05 := k4.trans k5
  have x5 : PM h5 p F m := x0.keep k05
  have hl5 := b5.len
  rw [List.length_map] at hl5
  have m75 := m74.keep k5
  refine w_for m.ob.length (fun j (z : Int × Sl × Sl × Sl × Int × Int × Int) hh => ∃ so1 st1, z = ((j : Int), so1, st1, Sl.nil, m.ni, m.np, (m.tk : Int)) ∧ Buf S_api_Object.cells 2 N_api_Object hh so1 (((m.ob.map (·.1)).take j).map fun k => (⟨k, (alook sd7 k).getD Sl.nil⟩ : S_api_Object)) ∧ Buf S_api_Token.cells 5 N_api_Token hh st1 ((m.ob.take j).foldl (fun out q => belowO m.ts q.1 (m.ts.length + 1) 0 (-1) out) []) ∧ ((m.ob.take j).foldl (fun out q => belowO m.ts q.1 (m.ts.length + 1) 0 (-1) out) []).length ≤ j * 256 ∧ (∀ c, so1.foot c ∨ st1.foot c → h5 c = none) ∧ Keeps h5 hh) ?_
    ⟨Sl.nil, Sl.nil, rfl, Buf.nil, Buf.nil, Nat.zero_le _, fun c g => g.elim (fun ⟨_, e, _⟩ => (by cases e)) fun ⟨_, e, _⟩ => (by cases e), .refl _⟩
  rintro rec j _ hh hj ⟨so1, st1, rfl, bo1, bt1, lt1, fr1, kh⟩ more
  refine w_if' (fun c => ?_) fun c => ?_
  · have c : (j : Int) < (s5.len : Int) := c
    have hjl : j < m.ob.length := by omega
    have ht := List.getElem?_eq_getElem hjl
    generalize m.ob[j] = q at ht
    have hk : (m.ob.map (·.1))[j]? = some q.1 := by rw [List.getElem?_map, ht]; rfl
    have lo := bo1.len
    rw [List.length_map, List.length_take, List.length_map] at lo
    refine w_get ci_len (b5.keep kh).arr hk rfl (v' := q.1) rfl (w_lookup (keyP (by kernel_rfl)) (m75.keep kh) ?_)
    refine w_app (cells := S_api_Object.cells) (sz := 2) (by_ := 32) (e := N_api_Object) (fun _ => rfl) rfl bo1 [(⟨q.1, (alook sd7 q.1).getD Sl.nil⟩ : S_api_Object)] rfl rfl (.inl (by rw [List.length_map, List.length_take, List.length_map]; simp only [List.length_singleton]; omega)) fun s6 h6 b6 bt6 f6 d6 => ?_
    have k6 : Keeps h5 h6 := kh.but bt6 fun c g => fr1 c (.inl g)
    have bt6' : Buf S_api_Token.cells 5 N_api_Token h6 st1 _ := bt1.but bt6 fun ad ha g => (bt1.typed ⟨ad, ha, rfl⟩).ne (bo1.typed g) (by decide) rfl
    have fs : (m.ob.take (j + 1)).foldl (fun out q => belowO m.ts q.1 (m.ts.length + 1) 0 (-1) out) [] = belowO m.ts q.1 (m.ts.length + 1) 0 (-1) ((m.ob.take j).foldl (fun out q => belowO m.ts q.1 (m.ts.length + 1) 0 (-1) out) []) := by rw [List.take_add_one, ht, List.foldl_append]; rfl
    have fo : ((m.ob.map (·.1)).take (j + 1)).map (fun k => (⟨k, (alook sd7 k).getD Sl.nil⟩ : S_api_Object)) = ((m.ob.map (·.1)).take j).map (fun k => (⟨k, (alook sd7 k).getD Sl.nil⟩ : S_api_Object)) ++ [⟨q.1, (alook sd7 q.1).getD Sl.nil⟩] := by rw [List.take_add_one, hk, List.map_append]; rfl
    refine t_below i (x5.keep k6) bt6' (fun c g g' => x5.has c g' (fr1 c (.inr g))) (by omega) fun s7 h7 b7 ln7 bt7 f7 d7' => ?_
    have k7 : Keeps h5 h7 := k6.but bt7 fun c g => fr1 c (.inr g)
    refine more _ _ hjl ⟨s6, s7, by rw [ia1 j (by omega)], by rw [fo]; exact b6.but bt7 fun ad ha g => (b6.typed ⟨ad, ha, rfl⟩).ne (bt6'.typed g) (by decide) rfl, by rw [fs]; exact b7, by rw [fs]; omega, fun c g => ?_, k7⟩
    rcases g with g | g
    · exact (f6 c g).elim (fun g => fr1 c (.inl g)) fun z => kh.fresh z
    · exact (f7 c g).elim (fun g => fr1 c (.inr g)) fun z => k6.fresh z
  have c : ¬ (j : Int) < (s5.len : Int) := c
  clear more rec
  have ej : m.ob.take j = m.ob := List.take_of_length_le (by omega)
  have ej' : (m.ob.map (·.1)).take j = m.ob.map (·.1) := List.take_of_length_le (by rw [List.length_map]; omega)
  rw [ej] at bt1
  rw [ej'] at bo1
  have k0h := k05.trans kh
  have m85 := (m84.keep k5).keep kh
  refine t_keysL m85 (by omega) fun s9 h9 b9 k9 f9 => ?_
  rw [e8, isort_eq pm8, isort_rise r.ls] at b9
  have hl9 := b9.len
  rw [List.length_map] at hl9
  have m89 := m85.keep k9
  refine w_for m.ls.length (fun j (z : Int × Sl × Sl × Sl × Int × Int × Int) h10 => ∃ sp1, z = ((j : Int), so1, st1, sp1, m.ni, m.np, (m.tk : Int)) ∧ Buf S_api_Process.cells 2 N_api_Process h10 sp1 (((m.ls.map (·.1)).take j).map fun k => (⟨k, (alook sd8 k).getD Sl.nil⟩ : S_api_Process)) ∧ (∀ c, sp1.foot c → h9 c = none) ∧ Keeps h9 h10) ?_
    ⟨Sl.nil, rfl, Buf.nil, fun c ⟨_, e, _⟩ => (by cases e), .refl _⟩
  rintro rec j _ h10 hj ⟨sp1, rfl, bp1, fp1, k10⟩ more
  refine w_if' (fun c => ?_) fun c => ?_
  · have c : (j : Int) < (s9.len : Int) := c
    have hjl : j < m.ls.length := by omega
    have ht := List.getElem?_eq_getElem hjl
    generalize m.ls[j] = q at ht
    have hk : (m.ls.map (·.1))[j]? = some q.1 := by rw [List.getElem?_map, ht]; rfl
    refine w_get ci_len (b9.keep k10).arr hk rfl (v' := q.1) rfl (w_lookup (keyP (by kernel_rfl)) (m89.keep k10) ?_)
    refine w_app (cells := S_api_Process.cells) (sz := 2) (by_ := 32) (e := N_api_Process) (fun _ => rfl) rfl bp1 [(⟨q.1, (alook sd8 q.1).getD Sl.nil⟩ : S_api_Process)] rfl rfl (.inl (by rw [List.length_map, List.length_take, List.length_map]; simp only [List.length_singleton]; omega)) fun s6 h6 b6 bt6 f6 d6 => ?_
    have fo : ((m.ls.map (·.1)).take (j + 1)).map (fun k => (⟨k, (alook sd8 k).getD Sl.nil⟩ : S_api_Process)) = ((m.ls.map (·.1)).take j).map (fun k => (⟨k, (alook sd8 k).getD Sl.nil⟩ : S_api_Process)) ++ [⟨q.1, (alook sd8 q.1).getD Sl.nil⟩] := by rw [List.take_add_one, hk, List.map_append]; rfl
    exact more _ _ hjl ⟨s6, by rw [ia1 j (by omega)], by rw [fo]; exact b6, fun c g => (f6 c g).elim (fp1 c) fun z => k10.fresh z, k10.but bt6 fun c g => fp1 c g⟩
  have c : ¬ (j : Int) < (s9.len : Int) := c
  have ej8 : (m.ls.map (·.1)).take j = m.ls.map (·.1) := List.take_of_length_le (by rw [List.length_map]; omega)
  rw [ej8] at bp1
  have kx := (k5.trans kh).trans (k9.trans k10)
  have ky := kh.trans (k9.trans k10)
  have r7 := ((r74.but (But.of (F := fun _ => False) kx) fun _ _ _ _ _ z => z).order i.obo pm7).mono (F' := fun c => G7 c ∨ G8 c) fun _ g => .inl g
  have r8 := ((r84.but (But.of (F := fun _ => False) kx) fun _ _ _ _ _ z => z).order i.lso pm8).mono (F' := fun c => G7 c ∨ G8 c) fun _ g => .inr g
  refine y _ h10 ((m.ob.map (·.1)).map fun k => (k, (alook sd7 k).getD Sl.nil)) ((m.ls.map (·.1)).map fun k => (k, (alook sd8 k).getD Sl.nil)) (fun c => G7 c ∨ G8 c) ⟨?_, r7, bt1.keep (k9.trans k10), ?_, r8, ⟨rfl, rfl, rfl⟩, fun c g => ?_⟩ (k4.trans kx)
  · rw [List.map_map]; exact bo1.keep (k9.trans k10)
  · rw [List.map_map]; exact bp1
  · rcases g with g | g | g | g | g
    · exact k05.fresh (fr1 c (.inl g))
    · exact k05.fresh (fr1 c (.inr g))
    · exact k0h.fresh (k9.fresh (fp1 c g))
    · exact k12.fresh (f7 c g)
    · exact k3.fresh (f8 c g)
end
section
variable {m : MdS}
structure MSK (m : MdS) : Prop where
  kin : ∀ t ∈ m.ts, ∀ u ∈ m.ts, u.xparent = t.xname → u.xcap.Obj = t.xcap.Obj
  rgt : ∀ t ∈ m.ts, 1 ≤ t.xrights ∧ t.xrights ≤ 31
theorem MSK.same {m' : MdS} (x : MSK m) (e : m'.ts = m.ts) : MSK m' := ⟨e ▸ x.kin, e ▸ x.rgt⟩
theorem MSK.subT (x : MSK m) {m' : MdS} (s : ∀ t ∈ m'.ts, t ∈ m.ts) : MSK m' := ⟨fun t ht u hu => x.kin t (s t ht) u (s u hu), fun t ht => x.rgt t (s t ht)⟩
theorem MSK.issue (x : MSK m) (i : MSI m) {m' : MdS} {c : S_api_Cap} {r q : Int} (e : m'.ts = m.ts ++ [⟨c, r, ((m.nm + 1 : Nat) : Int), q⟩]) (hr : 1 ≤ r ∧ r ≤ 31) (hq : q < ((m.nm + 1 : Nat) : Int)) (hk : ∀ t ∈ m.ts, t.xname = q → c.Obj = t.xcap.Obj) : MSK m' := by
  refine ⟨fun t ht u hu p => ?_, fun t ht => ?_⟩
  · rw [e] at ht hu
    rcases List.mem_append.1 ht with z | z
    · rcases List.mem_append.1 hu with v | v
      · exact x.kin t z u v p
      · rw [List.mem_singleton] at v; subst v
        exact hk t z p.symm
    · rw [List.mem_singleton] at z; subst z
      have p : u.xparent = ((m.nm + 1 : Nat) : Int) := p
      rcases List.mem_append.1 hu with v | v
      · have := i.tsm u v; omega
      · rw [List.mem_singleton] at v; subst v
        have p : q = ((m.nm + 1 : Nat) : Int) := p
        omega
  · rw [e] at ht
    rcases List.mem_append.1 ht with z | z
    · exact x.rgt t z
    · rw [List.mem_singleton] at z; subst z; exact hr
theorem der_kin (x : MSK m) (i : MSI m) {t : Tk} {r : Int} (ht : t ∈ m.ts) (hr : 1 ≤ r ∧ r ≤ 31) : ∀ n tk, MSK (derO m t.xcap.Obj r t.xname tk n).2
  | 0, _ => x.same rfl
  | n + 1, tk => by
    rw [derO]
    split
    · exact x.same rfl
    · split
      · exact der_kin x i ht hr n (tk + 1)
      · refine x.issue i rfl hr (by have := i.tsm t ht; omega) fun u hu e => ?_
        rw [i.ok.one hu ht e]
theorem do_kin (x : MSK m) (i : MSI m) (c : S_api_Call) (ds : List UInt8) (gs : List Int) : MSK (doO m c ds gs).2 := by
  unfold doO
  by_cases q0 : formedO c ds gs
  · rw [if_pos q0]
    by_cases hl : (alook m.ls c.By).isSome = true
    · rw [if_pos hl]
      by_cases q : c.Op = 1
      · rw [if_pos q]
        unfold createO
        repeat' split
        all_goals first | exact x | exact x.issue i rfl (by decide) (by omega) fun t ht e => by have := i.tsm t ht; omega
      rw [if_neg q]; clear q
      by_cases q : c.Op = 2
      · rw [if_pos q]
        unfold destroyO
        split
        · exact x
        · exact x.subT fun t ht => (List.mem_filter.1 ht).1
      rw [if_neg q]; clear q
      by_cases q : c.Op = 3
      · rw [if_pos q]
        unfold deriveO
        split
        · exact x
        · next t e q =>
          obtain ⟨ht, hc⟩ := given_iv q
          split
          · next hp =>
            repeat' split
            all_goals first | exact x | exact hc ▸ der_kin x i ht (partOf_r hp) 9 m.tk
          · exact x
      rw [if_neg q]; clear q
      by_cases q : c.Op = 4
      · rw [if_pos q]
        unfold revokeO
        repeat' split
        all_goals first | exact x | exact x.subT fun t ht => (List.mem_filter.1 ht).1
      rw [if_neg q]; clear q
      by_cases q : c.Op = 5
      · rw [if_pos q, (read_sh c).1]; exact x
      rw [if_neg q]; clear q
      by_cases q : c.Op = 6
      · rw [if_pos q]
        unfold writeO
        dsimp only
        repeat' split
        all_goals exact x.same rfl
      rw [if_neg q]; clear q
      by_cases q : c.Op = 7
      · rw [if_pos q]
        unfold addO
        repeat' split
        all_goals exact x.same rfl
      rw [if_neg q]; clear q
      by_cases q : c.Op = 8
      · rw [if_pos q]
        unfold removeO
        split
        all_goals exact x.same rfl
      rw [if_neg q]; clear q
      by_cases q : c.Op = 9
      · rw [if_pos q]
        unfold spawnO
        repeat' split
        all_goals exact x.same rfl
      rw [if_neg q]
      exact x.same rfl
    · rw [if_neg hl]; exact x
  · rw [if_neg q0]; exact x
theorem kin_newO (c : S_api_Config) (dr : List S_api_Word) : MSK (newO c dr) := ⟨fun _ h => (by cases h), fun _ h => (by cases h)⟩
end
section
variable {T : Type} {cells : T → List Value} {sz : Nat} {e : TypeId} {h : H}
theorem w_empty {k : Addr → H → Prop} (y : ∀ b h', h b = none → Buf cells sz e h' ⟨some ⟨b, 0, none⟩, 0, 0⟩ ([] : List T) → Keeps h h' → k ⟨b, 0, none⟩ h') : mNew e #[] k h := fun b hb =>
  y b _ hb ⟨rfl, Nat.le_refl _, .inr ⟨b, [], (0, 0), rfl, upd_same _ _ _, by simp [flat], thawed0 _⟩⟩ (Keeps.new hb)
theorem w_anew (hs : ∀ x, (cells x).length = sz) (hp : ∀ x, (cells x).all plainVal = true) {by_ : Nat} {zero : Array Value} (hz : zero.size = sz) {h0 : H} {b : Nat} {s : Sl} {xs : List T} (k0 : Keeps h0 h) (hb : h0 b = none) (x : Buf cells sz e h ⟨some ⟨b, 0, none⟩, 0, 0⟩ ([] : List T)) (ar : Arr cells h s xs) (room : xs.length * by_ ≤ 2 ^ 48) {k : Sl → H → Prop}
    (y : ∀ s' h', Buf cells sz e h' s' xs → Keeps h0 h' → (∀ c, s'.foot c → h0 c = none) → But (· = b) h h' → k s' h') : mAppend e sz by_ zero ⟨some ⟨b, 0, none⟩, 0, 0⟩ s k h := by
  refine w_append hs hp hz x ar (.inr ⟨rfl, room⟩) fun s' h' bu' b' f' n' => ?_
  rw [List.nil_append] at bu'
  have foot : ∀ c, (⟨some ⟨b, 0, none⟩, 0, 0⟩ : Sl).foot c → c = b := fun c ⟨a, ha, hc⟩ => by
    cases ha; exact hc.symm
  have bt : But (· = b) h h' := b'.mono foot
  exact y s' h' bu' (k0.but bt fun n q => by rw [q]; exact hb) (fun c fc => (f' c fc).elim (fun q => by rw [foot c q]; exact hb) fun q => k0.fresh q) bt
end
theorem tok_len5 : ∀ x : S_api_Token, (S_api_Token.cells x).length = 5 := fun _ => rfl
end Go.Proofs.Ytbjkfllncegpcaa.K
namespace Go.Proofs.Ytbjkfllncegpcaa.K
open Go Go.Proofs
def m_law21_Copied (a0 : S_api_Call) (K : (S_api_Call) → H → Prop) : H → Prop :=
 mNew 5 #[] fun ad1 =>
 mAppend 5 1 1 #[(Value.int .u8 0)] (⟨some ad1, 0, 0⟩ : Sl) a0.Data fun s2 =>
 mNew 3 #[] fun ad3 =>
 mAppend 3 1 8 #[(Value.int .i64 0)] (⟨some ad3, 0, 0⟩ : Sl) a0.Gifts fun s4 =>
 K (⟨a0.Op, a0.By, a0.Size, ⟨a0.Cap.Obj, ⟨a0.Cap.Pass.Hi, a0.Cap.Pass.Lo⟩⟩, a0.Given, a0.Rights, a0.Off, a0.N, s2, a0.Index, s4⟩ : S_api_Call)
def x_law21_Copied : Cx Try.prog := ⟨tys, [], [1, 2], [], mixed⟩
def h_law21_Copied : Hint := .d
def s_law21_Copied : Spec Try.prog := mkSpec x_law21_Copied 36 Try.f36 [S_api_Call.ty] [S_api_Call.ty] false h_law21_Copied (fun a => m_law21_Copied a) (fun a K h => by kernel_rfl) callee36 rfl
def m_law21_sameBytes (a0 : Sl) (a1 : Sl) (K : (Bool) → H → Prop) : H → Prop :=
 mIf (!decide ((a0.len : Int) = (a1.len : Int))) (
 K false
 ) (
 mLoop (fun (rec2 : Int → H → Prop) (s1 : Int) =>
 mIf (decide (s1 < (a0.len : Int))) (
 mIdx a0 s1 1 fun ad3 =>
 mIdx a1 s1 1 fun ad4 =>
 mLoad (cInt .u8) ad3 fun x5 =>
 mLoad (cInt .u8) ad4 fun x6 =>
 mIf (!decide (x5 = x6)) (
 K false
 ) (
 rec2 (iAdd .i64 s1 1)
 )
 ) (
 K true
 )
 ) 0
 )
def x_law21_sameBytes : Cx Try.prog := ⟨tys, [], [], [], mixed⟩
def h_law21_sameBytes : Hint := (.seq .d (.seq .d (.seq (.seq .d (.blk (.loop [.slot 5 (tInt .i64)] 67106864 [] (.seq .d (.seq (.blk (.seq (.reg (.run [0, 4, 8, 16, 20, 24, 14, 30, 32] .nil)) .d)) .d))))) .d)))
def s_law21_sameBytes : Spec Try.prog := mkSpec x_law21_sameBytes 109 Try.f109 [tSl, tSl] [tBool] false h_law21_sameBytes (fun a => m_law21_sameBytes a.1 a.2) (fun a K h => by kernel_rfl) callee109 rfl
def m_law21_SameReply (a0 : S_api_Reply) (a1 : S_api_Reply) (K : (Bool) → H → Prop) : H → Prop :=
 mIf (((decide (a0.Code = a1.Code)) && ((decide (a0.Cap.Obj = a1.Cap.Obj)) && (((decide (a0.Cap.Pass.Hi = a1.Cap.Pass.Hi)) && ((decide (a0.Cap.Pass.Lo = a1.Cap.Pass.Lo)) && true)) && true))) && (decide (a0.Number = a1.Number))) (
 m_law21_sameBytes a0.Data a1.Data fun r2 =>
 K r2
 ) (
 K false
 )
def x_law21_SameReply : Cx Try.prog := ⟨tys, [s_law21_sameBytes], [2, 3], [], mixed⟩
def h_law21_SameReply : Hint := (.seq .d (.seq (.reg (.run [3, 7, 11, 15, 19, 23] (.sel 10 16 129024 (.run [27, 31, 35, 39, 43, 47] .nil) (.run [27, 31, 35, 39, 43, 47] .nil) (.run [51] (.sel 17 23 16515072 (.run [55, 59, 63, 67, 71, 75] .nil) (.run [55, 59, 63, 67, 71, 75] .nil) (.run [79] (.split 24 (.run [83, 87, 91, 95, 99, 103, 107] .nil) (.run [83, 87, 91, 95, 99, 103, 107] .nil)))))))) .d))
def s_law21_SameReply : Spec Try.prog := mkSpec x_law21_SameReply 34 Try.f34 [S_api_Reply.ty, S_api_Reply.ty] [tBool] false h_law21_SameReply (fun a => m_law21_SameReply a.1 a.2) (fun a K h => by kernel_rfl) callee34 rfl
end Go.Proofs.Ytbjkfllncegpcaa.K
namespace Go.Proofs.Ytbjkfllncegpcaa.K
open Go
section
variable {h : H}
theorem t_l21sameBytes {a b : Sl} {xs : List UInt8} (x : Arr cU8 h a xs) (z : Arr cU8 h b xs) (hn : xs.length ≤ 2 ^ 60) {K : Bool → H → Prop} (y : K true h) : m_law21_sameBytes a b K h := by
  unfold m_law21_sameBytes
  have l1 := x.len
  have l2 := z.len
  refine w_ifF (by rw [l1, l2]; simp) (w_for xs.length (fun i (s : Int) hh => s = (i : Int) ∧ hh = h) ?_ ⟨rfl, rfl⟩)
  rintro rec i _ _ hi ⟨rfl, rfl⟩ more
  refine w_if' (fun c => ?_) fun c => y
  have c : (i : Int) < (a.len : Int) := c
  have hil : i < xs.length := by omega
  have ht := List.getElem?_eq_getElem hil
  generalize xs[i] = t at ht
  refine w_idx u8_len x ht rfl fun a1 _ h1 => w_idx u8_len z ht rfl fun a2 _ h2 => w_load (v := ((t.toNat : Nat) : Int)) h1 (w_load (v := ((t.toNat : Nat) : Int)) h2 (w_ifF (by simp) (more _ _ hil ⟨ia1 i (by omega), rfl⟩)))
theorem t_l21SameReply {a b : S_api_Reply} {xs : List UInt8} (e1 : a.Code = b.Code) (e2 : a.Cap = b.Cap) (e3 : a.Number = b.Number) (x : Arr cU8 h a.Data xs) (z : Arr cU8 h b.Data xs) (hn : xs.length ≤ 2 ^ 60) {K : Bool → H → Prop} (y : K true h) : m_law21_SameReply a b K h := by
  unfold m_law21_SameReply
  rw [cap_eqB]
  exact w_ifT (by rw [e1, e2, e3]; simp) (t_l21sameBytes x z hn y)
theorem keys_len {V W : Type} {l : List (Int × V)} {k : List (Int × W)} (e : l.map (·.1) = k.map (·.1)) : l.length = k.length := by
  have := congrArg List.length e
  rwa [List.length_map, List.length_map] at this
theorem t_Copied {c : S_api_Call} {ds : List UInt8} {gs : List Int} (ad : Arr cU8 h c.Data ds) (hd : ds.length * 1 ≤ 2 ^ 48) (ag : Arr (cInt .i64) h c.Gifts gs) (hg : gs.length * 8 ≤ 2 ^ 48) {K : S_api_Call → H → Prop}
    (y : ∀ s1 s2 h', Buf cU8 1 N_u8 h' s1 ds → Buf (cInt .i64) 1 N_int h' s2 gs → Keeps h h' → (∀ b, s1.foot b ∨ s2.foot b → h b = none) → K { c with Data := s1, Gifts := s2 } h') : m_law21_Copied c K h := by
  unfold m_law21_Copied
  refine w_empty (T := UInt8) (cells := cU8) (sz := 1) fun b h1 hb b1 k1 => ?_
  refine w_anew u8_len u8_plain rfl k1 hb b1 (ad.keep k1) hd fun s2 h2 b2 k2 f2 _ => ?_
  refine w_empty (T := Int) (cells := cInt .i64) (sz := 1) fun b3 h3 hb3 e3 k3 => ?_
  refine w_anew ci_len (fun _ => rfl) rfl k3 hb3 e3 (ag.keep (k2.trans k3)) hg fun s4 h4 b4 k4 f4 _ => ?_
  exact y s2 s4 h4 (b2.keep k4) b4 (k2.trans k4) fun c g => g.elim (f2 c) fun g => k2.fresh (f4 c g)
end
end Go.Proofs.Ytbjkfllncegpcaa.K
namespace Go.Proofs.Ytbjkfllncegpcaa.K
open Go Go.Proofs
def m_law22_example (K : (Bool) → H → Prop) : H → Prop :=
 mNew 37 #[(Value.int .u64 0), (Value.int .u64 261), (Value.int .u64 0), (Value.int .u64 7)] fun ad1 =>
 m_plain_New (⟨8, 2, 3, 4, 3, 2, 2, 1, 1, 0⟩ : S_api_Config) (⟨some ad1, 2, 2⟩ : Sl) fun r2 =>
 mIf ((!decide (r2.2 = 0)) || (r2.1.isNone)) (
 K false
 ) (
 m_plain_Model_Do r2.1 (⟨1, 0, 65, ⟨0, ⟨0, 0⟩⟩, false, 0, 0, 0, Sl.nil, 0, Sl.nil⟩ : S_api_Call) fun r3 =>
 m_plain_Model_State r2.1 fun r4 =>
 mIf ((((decide (r3.Code = 0)) && ((decide (r3.Cap.Obj = 1)) && (((decide (r3.Cap.Pass.Hi = 0)) && ((decide (r3.Cap.Pass.Lo = 5)) && true)) && true))) && (decide ((r4.Objects.len : Int) = 1))) && (decide ((r4.Tokens.len : Int) = 1))) (
 mIdx r4.Tokens 0 5 fun ad7 =>
 mLoad (cInt .i64) (ad7.add 3) fun x8 =>
 K (decide (x8 = 31))
 ) (
 K false
 )
 )
def x_law22_example : Cx Try.prog := ⟨tys, [s_plain_New, s_plain_Model_Do, s_plain_Model_State], [1, 4, 5], [], mixed⟩
def h_law22_example : Hint := (.seq .d (.seq .d (.seq .d (.seq (.seq (.reg (.run [3, 7, 11] (.sel 17 20 1835008 (.run [15, 19, 23] .nil) (.run [15, 19, 23] .nil) .nil))) .d) (.seq .d (.seq .d (.seq (.reg (.run [3, 7, 11, 15] (.sel 29 35 67645734912 (.run [19, 23, 27, 31, 35, 39] .nil) (.run [19, 23, 27, 31, 35, 39] .nil) (.run [43] (.sel 36 41 4260607557632 (.run [47, 51, 55, 59, 63] .nil) (.run [47, 51, 55, 59, 63] .nil) (.run [67] (.sel 42 47 272678883688448 (.run [71, 75, 79, 83, 87] .nil) (.run [71, 75, 79, 83, 87] .nil) (.run [91] (.split 48 (.run [95, 99, 103, 107, 111, 115, 119, 123] .nil) (.run [95, 99, 103, 107, 111, 115, 119, 123] .nil)))))))))) .d)))))))
def s_law22_example : Spec Try.prog := mkSpec x_law22_example 30 Try.f30 [] [tBool] false h_law22_example (fun _ => m_law22_example) (fun a K h => by kernel_rfl) callee30 rfl
def m_law22_copies (a0 : Sl) (K : (Sl) → H → Prop) : H → Prop :=
 mLoop (fun (rec2 : (Sl × Int) → H → Prop) (s1 : Sl × Int) =>
 mIf (decide (s1.2 < (a0.len : Int))) (
 mIdx a0 s1.2 13 fun ad3 =>
 mLoad S_api_Call.cells ad3 fun x4 =>
 m_law21_Copied x4 fun r5 =>
 mApp 43 13 136 #[(Value.int .i64 0), (Value.int .i64 0), (Value.int .i64 0), (Value.int .i64 0), (Value.int .u64 0), (Value.int .u64 0), (Value.bool false), (Value.int .i64 0), (Value.int .i64 0), (Value.int .i64 0), (Sl.val Sl.nil), (Value.int .i64 0), (Sl.val Sl.nil)] 1 [(Value.int .i64 r5.Op), (Value.int .i64 r5.By), (Value.int .i64 r5.Size), (Value.int .i64 r5.Cap.Obj), (Value.int .u64 r5.Cap.Pass.Hi), (Value.int .u64 r5.Cap.Pass.Lo), (Value.bool r5.Given), (Value.int .i64 r5.Rights), (Value.int .i64 r5.Off), (Value.int .i64 r5.N), (Sl.val r5.Data), (Value.int .i64 r5.Index), (Sl.val r5.Gifts)] s1.1 fun s6 =>
 rec2 (s6, (iAdd .i64 s1.2 1))
 ) (
 K s1.1
 )
 ) (Sl.nil, 0)
def x_law22_copies : Cx Try.prog := ⟨tys, [s_law21_Copied], [17], [], mixed⟩
def h_law22_copies : Hint := (.seq .d (.seq .d (.seq (.seq .d (.blk (.loop [.slot 3 tSl, .slot 4 (tInt .i64)] 524280 [] .d))) .d)))
def s_law22_copies : Spec Try.prog := mkSpec x_law22_copies 32 Try.f32 [tSl] [tSl] false h_law22_copies (fun a => m_law22_copies a) (fun a K h => by kernel_rfl) callee32 rfl
def m_law22_PlainRuns (a0 : S_api_Config) (a1 : Sl) (a2 : Sl) (K : (Bool) → H → Prop) : H → Prop :=
 m_law22_example fun r1 =>
 mIf (!r1) (
 K false
 ) (
 mNew 37 #[] fun ad2 =>
 mAppend 37 2 16 #[(Value.int .u64 0), (Value.int .u64 0)] (⟨some ad2, 0, 0⟩ : Sl) a1 fun s3 =>
 m_law22_copies a2 fun r4 =>
 m_plain_Run a0 s3 r4 fun r5 =>
 mNew 37 #[] fun ad6 =>
 mAppend 37 2 16 #[(Value.int .u64 0), (Value.int .u64 0)] (⟨some ad6, 0, 0⟩ : Sl) a1 fun s7 =>
 m_plain_New a0 s7 fun r8 =>
 mIf (!decide (r5.2 = r8.2)) (
 K false
 ) (
 mIf ((!decide (r5.2 = 0)) || (r8.1.isNone)) (
 K (((!decide (r5.2 = 0)) && (decide ((r5.1.len : Int) = 0))) && (r8.1.isNone))
 ) (
 mIf (!decide ((r5.1.len : Int) = (a2.len : Int))) (
 K false
 ) (
 mLoop (fun (rec10 : Int → H → Prop) (s9 : Int) =>
 mIf (decide (s9 < (a2.len : Int))) (
 mIdx r5.1 s9 6 fun ad11 =>
 mIdx a2 s9 13 fun ad12 =>
 mLoad S_api_Call.cells ad12 fun x13 =>
 mJoin (fun (s14 : S_api_Reply × S_api_Reply) =>
 m_law21_SameReply s14.1 s14.2 fun r24 =>
 mIf (!r24) (
 K false
 ) (
 rec10 (iAdd .i64 s9 1)
 )
 ) (fun j15 =>
 mBoth (
 mLoad S_api_Reply.cells ad11 fun x16 =>
 m_law21_Copied x13 fun r17 =>
 m_plain_Model_Do r8.1 r17 fun r18 =>
 j15 (x16, r18)
 ) (
 m_law21_Copied x13 fun r19 =>
 mBoth (
 mLoad S_api_Reply.cells ad11 fun x20 =>
 m_plain_Model_Do r8.1 r19 fun r21 =>
 j15 (x20, r21)
 ) (
 m_plain_Model_Do r8.1 r19 fun r22 =>
 mLoad S_api_Reply.cells ad11 fun x23 =>
 j15 (x23, r22)
 )
 ))
 ) (
 mCut a2 0 (iQuo .i64 (a2.len : Int) 2) 13 fun s25 =>
 mNew 37 #[] fun ad26 =>
 mAppend 37 2 16 #[(Value.int .u64 0), (Value.int .u64 0)] (⟨some ad26, 0, 0⟩ : Sl) a1 fun s27 =>
 m_law22_copies s25 fun r28 =>
 m_plain_Run a0 s27 r28 fun r29 =>
 mIf ((!decide (r29.2 = 0)) || (!decide ((r29.1.len : Int) = (iQuo .i64 (a2.len : Int) 2)))) (
 K false
 ) (
 mLoop (fun (rec31 : Int → H → Prop) (s30 : Int) =>
 mIf (decide (s30 < (iQuo .i64 (a2.len : Int) 2))) (
 mIdx r29.1 s30 6 fun ad32 =>
 mIdx r5.1 s30 6 fun ad33 =>
 mLoad S_api_Reply.cells ad32 fun x34 =>
 mLoad S_api_Reply.cells ad33 fun x35 =>
 m_law21_SameReply x34 x35 fun r36 =>
 mIf (!r36) (
 K false
 ) (
 rec31 (iAdd .i64 s30 1)
 )
 ) (
 K true
 )
 ) 0
 )
 )
 ) 0
 )
 )
 )
 )
def x_law22_PlainRuns : Cx Try.prog := ⟨tys, [s_law22_example, s_plain_Run, s_law22_copies, s_plain_New, s_law21_SameReply, s_plain_Model_Do, s_law21_Copied], [3], [], mixed⟩
def h_law22_PlainRuns : Hint := (.seq .d (.seq .d (.seq (.reg (.run [8, 16, 1, 6, 15, 23, 27, 28, 32, 36, 40, 44] .nil)) (.seq (.reg (.run [8, 1, 6, 15, 19, 20, 24, 28, 32, 36] .nil)) (.seq .d (.seq (.seq (.reg (.run [3, 7, 11] (.sel 40 43 15393162788864 (.run [15, 19, 23] .nil) (.run [15, 19, 23] .nil) .nil))) (.cond (.seq (.reg (.run [3, 7, 11] (.sel 46 50 2111062325329920 (.run [15, 19, 23, 27] .nil) (.run [15, 19, 23, 27] .nil) (.run [31] (.sel 51 54 31525197391593472 (.run [35, 39, 43] .nil) (.run [35, 39, 43] .nil) (.run [47] .nil)))))) .d) .d)) (.seq .d (.seq (.seq .d (.blk (.loop [.slot 11 (tInt .i64)] 604461756885809980508224 [] (.seq .d (.seq (.blk (.seq (.reg (.run [0, 4, 8, 16, 20, 24, 28, 34] (.join [.slot 69 S_api_Reply.ty, .slot 76 S_api_Reply.ty] 113927091399230190780416 [] (.both 3 9 (.run [39, 43] .nil) (.both 3 10 (.run [43] .nil) (.run [14] .nil))) (.run [47, 48] .nil)))) .d)) .d))))) (.seq .d (.seq (.reg (.run [8, 16, 20, 24, 1, 6, 15, 31, 35, 36, 40, 44, 48, 52] .nil)) (.seq (.seq (.reg (.run [3, 7, 11] (.sel 96 101 4912146075884388930799724920832 (.run [15, 19, 23, 27, 31] .nil) (.run [15, 19, 23, 27, 31] .nil) .nil))) .d) (.seq (.seq .d (.blk (.loop [.slot 14 (tInt .i64)] 166148428870713571195369895722238016 [] (.seq .d (.seq (.blk (.seq (.reg (.run [0, 4, 8, 16, 20, 24, 14, 30, 35, 36] .nil)) .d)) .d))))) .d))))))))))))
def s_law22_PlainRuns : Spec Try.prog := mkSpec x_law22_PlainRuns 6 Try.f6 [S_api_Config.ty, tSl, tSl] [tBool] false h_law22_PlainRuns (fun a => m_law22_PlainRuns a.1 a.2.1 a.2.2) (fun a K h => by kernel_rfl) callee6 rfl
end Go.Proofs.Ytbjkfllncegpcaa.K
namespace Go.Proofs.Ytbjkfllncegpcaa.K
open Go
def exC : S_api_Config := ⟨8, 2, 3, 4, 3, 2, 2, 1, 1, 0⟩
def exD : List S_api_Word := [⟨0, 261⟩, ⟨0, 7⟩]
def exA : S_api_Call := ⟨1, 0, 65, ⟨0, ⟨0, 0⟩⟩, false, 0, 0, 0, Sl.nil, 0, Sl.nil⟩
theorem ex_do : (doO (newO exC exD) exA [] []).1 = ⟨0, ⟨1, ⟨0, 5⟩⟩, [], 0⟩ := by kernel_rfl
theorem ex_ts : (stateO (doO (newO exC exD) exA [] []).2).ts = [⟨⟨1, ⟨0, 5⟩⟩, 31, -1⟩] := by kernel_rfl
theorem ex_ob : (stateO (doO (newO exC exD) exA [] []).2).ob.length = 1 := by kernel_rfl
theorem doO_with (m : MdS) (c : S_api_Call) (s1 s2 : Sl) (ds : List UInt8) (gs : List Int) : doO m { c with Data := s1, Gifts := s2 } ds gs = doO m c ds gs := rfl
theorem do_data {m : MdS} (i : MSI m) (c : S_api_Call) (ds : List UInt8) (gs : List Int) : (doO m c ds gs).1.data.length ≤ 4096 := by
  have z : ∀ {l : List UInt8}, l = [] → l.length ≤ 4096 := fun e => by rw [e]; exact Nat.zero_le _
  unfold doO
  by_cases q0 : formedO c ds gs
  · rw [if_pos q0]
    by_cases hl : (alook m.ls c.By).isSome = true
    · rw [if_pos hl]
      by_cases q : c.Op = 1
      · rw [if_pos q]
        exact z (create_sh _).1
      rw [if_neg q]; clear q
      by_cases q : c.Op = 2
      · rw [if_pos q]
        exact z (destroy_sh _).2.1
      rw [if_neg q]; clear q
      by_cases q : c.Op = 3
      · rw [if_pos q]
        exact z (derive_sh _ _).1
      rw [if_neg q]; clear q
      by_cases q : c.Op = 4
      · rw [if_pos q]
        exact z (revoke_sh _).2.1
      rw [if_neg q]; clear q
      by_cases q : c.Op = 5
      · rw [if_pos q]
        unfold readO
        dsimp only
        split
        · split
          · have := i.obs' c.Cap.Obj
            rw [List.length_take, List.length_drop]; omega
          · exact z rfl
        · exact z rfl
      rw [if_neg q]; clear q
      by_cases q : c.Op = 6
      · rw [if_pos q]
        exact z (write_sh _ _).2.1
      rw [if_neg q]; clear q
      by_cases q : c.Op = 7
      · rw [if_pos q]
        exact z (add_sh _).2.1
      rw [if_neg q]; clear q
      by_cases q : c.Op = 8
      · rw [if_pos q]
        exact z (remove_sh _).2.1
      rw [if_neg q]; clear q
      by_cases q : c.Op = 9
      · rw [if_pos q]
        exact z (spawn_sh _ _).2
      rw [if_neg q]; clear q
      exact z rfl
    · rw [if_neg hl]; exact z rfl
  · rw [if_neg q0]; exact z rfl
section
variable {h : H}
theorem t_l22example {K : Bool → H → Prop} (y : ∀ h', Keeps h h' → K true h') : m_law22_example K h := by
  unfold m_law22_example
  refine w_new fun b hb => ?_
  have k1 : Keeps h (upd h b (.cells #[(Value.int .u64 0), (Value.int .u64 261), (Value.int .u64 0), (Value.int .u64 7)] N_api_Word (0, 0))) := Keeps.new hb
  have q1 : (upd h b (.cells #[(Value.int .u64 0), (Value.int .u64 261), (Value.int .u64 0), (Value.int .u64 7)] N_api_Word (0, 0))) b = some (.cells (flat cW exD ++ []).toArray N_api_Word (0, 0)) := upd_same _ _ _
  generalize (upd h b (.cells #[(Value.int .u64 0), (Value.int .u64 261), (Value.int .u64 0), (Value.int .u64 7)] N_api_Word (0, 0))) = h1 at k1 q1
  have b1 : Buf cW 2 N_api_Word h1 ⟨some ⟨b, 0, none⟩, 2, 2⟩ exD := ⟨rfl, Nat.le_refl _, .inr ⟨b, [], (0, 0), rfl, q1, rfl, thawed0 _⟩⟩
  have gw : ∀ w ∈ exD, GoodW w := fun w hw => by
    rcases List.mem_cons.1 hw with rfl | hw
    · exact ⟨261, by decide, by decide⟩
    · rw [List.mem_singleton] at hw; subst hw; exact ⟨7, by decide, by decide⟩
  have my : mayO exC := by decide
  refine t_pNew (c := exC) b1.arr gw (fun z => absurd my z) (fun _ z => absurd z (by decide)) fun _ _ p F h2 x2 i2 k2 f2 => ?_
  refine w_ifF rfl ?_
  have an : Arr cU8 h2 exA.Data [] := Buf.nil (e := N_u8) (sz := 1).arr
  have ag : Arr (cInt .i64) h2 exA.Gifts [] := (Buf.nil (e := N_int) (sz := 1)).arr
  refine t_pDo x2 i2 (c := exA) an ag ⟨0, by decide, by decide⟩ fun s h3 F3 x3 k3 b3 f3 => ?_
  rw [ex_do]
  have i3 := do_inv i2 exA [] []
  have r3 := rise_do (rise_newO exC exD) i2 exA [] []
  refine t_pState x3 i3 r3 fun st h4 so sl G at4 k4 => ?_
  have lt := at4.ts.len
  rw [ex_ts] at lt
  have lo := at4.ob.len
  rw [List.length_map, keys_len at4.bs.keys, ex_ob] at lo
  have bt := at4.ts
  rw [ex_ts] at bt
  refine w_ifT (by simp [lt, lo]) ?_
  refine w_field tok_len5 bt.arr (i := 0) (v := ⟨⟨1, ⟨0, 5⟩⟩, 31, -1⟩) rfl rfl (v' := (31 : Int)) (cells' := cInt .i64) (l1 := (S_api_Token.cells ⟨⟨1, ⟨0, 5⟩⟩, 31, -1⟩).take 3) (l3 := (S_api_Token.cells ⟨⟨1, ⟨0, 5⟩⟩, 31, -1⟩).drop 4) rfl rfl ?_
  exact y h4 ((((k1.trans k2).but k3.but fun c g => k1.fresh (f2 c g))).trans k4)
structure PlayIn (h : H) (x : S_api_Call) (ds : List UInt8) (gs : List Int) : Prop where
  ad : Arr cU8 h x.Data ds
  hd : ds.length * 1 ≤ 2 ^ 48
  ag : Arr (cInt .i64) h x.Gifts gs
  hg : gs.length * 8 ≤ 2 ^ 48
  gw : GoodW x.Cap.Pass
theorem PlayIn.keep {h' : H} {x : S_api_Call} {ds : List UInt8} {gs : List Int} (q : PlayIn h x ds gs) (k : Keeps h h') : PlayIn h' x ds gs := ⟨q.ad.keep k, q.hd, q.ag.keep k, q.hg, q.gw⟩
theorem goodW_of {x : S_api_Word} (h1 : IntKind.u64.min ≤ x.Hi ∧ x.Hi ≤ IntKind.u64.max) (h2 : IntKind.u64.min ≤ x.Lo ∧ x.Lo ≤ IntKind.u64.max) : GoodW x := by
  have e1 : IntKind.u64.min = 0 := by decide
  have e2 : IntKind.u64.max = 18446744073709551615 := by decide
  rw [e1, e2] at h1 h2
  obtain ⟨a, b⟩ := x
  have h1 : 0 ≤ a ∧ a ≤ 18446744073709551615 := h1
  have h2 : 0 ≤ b ∧ b ≤ 18446744073709551615 := h2
  refine ⟨a.toNat * 2 ^ 64 + b.toNat, by omega, ?_⟩
  unfold wordOf
  congr 1 <;> omega
theorem cl_len : ∀ x, (S_api_Call.cells x).length = 13 := fun _ => rfl
end
theorem next_le5 {need cap : Nat} (hc : cap < need) : Builtin.nextslicecap need cap ≤ need + (need + 768) / 4 + 512 := by
  unfold Builtin.nextslicecap
  split
  · omega
  · split
    · omega
    · have := growBy_le need 4 cap; omega
section
variable {T : Type} {cells : T → List Value} {sz by_ : Nat} {e : TypeId} {h : H}
theorem w_appR (hs : ∀ x, (cells x).length = sz) {zero : Array Value} (hz : zero.size = sz) {m : Nat} {new : List Value} {s : Sl} {xs : List T} (x : Buf cells sz e h s xs) (ys : List T) (hnew : new = flat cells ys) (hm : m = ys.length)
    (room : (xs.length + ys.length + (xs.length + ys.length + 768) / 4 + 512) * by_ ≤ 2 ^ 48) {k : Sl → H → Prop}
    (y : ∀ s' h', Buf cells sz e h' s' (xs ++ ys) → But s.foot h h' → (∀ b, s'.foot b → s.foot b ∨ h b = none) → (∀ b, h' b = none → h b = none) → k s' h') : mApp e sz by_ zero m new s k h := by
  have t := w_app (by_ := 0) hs hz x ys hnew hm (.inl (by simp)) y
  refine ⟨t.1, fun hgt => ?_⟩
  obtain ⟨r, h1, h2, _, h4⟩ := t.2 hgt
  refine ⟨r, h1, h2, ?_, h4⟩
  have hl := x.len
  unfold Room
  refine Nat.le_trans (Nat.mul_le_mul_right _ (next_le5 (Nat.lt_of_not_le hgt))) ?_
  rw [hl, hm]; exact room
end
structure Ins (h : H) (s : Sl) (cs : List S_api_Call) (n : Nat) (C : Nat → S_api_Call) (d : Nat → List UInt8) (g : Nat → List Int) : Prop where
  ac : Arr S_api_Call.cells h s cs
  len : cs.length = n
  at_ : ∀ i, i < n → cs[i]? = some (C i) ∧ PlayIn h (C i) (d i) (g i)
theorem Ins.of {h : H} {s : Sl} {cs : List S_api_Call} (ac : Arr S_api_Call.cells h s cs) (good : ∀ x ∈ cs, ∃ ds gs, PlayIn h x ds gs) : ∃ C d g, Ins h s cs cs.length C d g := by
  have z : S_api_Call := exA
  refine ⟨fun i => cs.getD i exA, ?_⟩
  have : ∀ i, ∃ p : List UInt8 × List Int, i < cs.length → PlayIn h (cs.getD i exA) p.1 p.2 := fun i => by
    by_cases q : i < cs.length
    · obtain ⟨ds, gs, p⟩ := good _ (List.getElem_mem q)
      refine ⟨(ds, gs), fun _ => ?_⟩
      rw [List.getD_eq_getElem?_getD, List.getElem?_eq_getElem q]; exact p
    · exact ⟨([], []), fun z => absurd z q⟩
  refine ⟨fun i => (this i).choose.1, fun i => (this i).choose.2, ac, rfl, fun i hi => ⟨?_, (this i).choose_spec hi⟩⟩
  rw [List.getD_eq_getElem?_getD, List.getElem?_eq_getElem hi]; rfl
theorem Ins.keep {h h' : H} {s : Sl} {cs : List S_api_Call} {n : Nat} {C : Nat → S_api_Call} {d : Nat → List UInt8} {g : Nat → List Int} (x : Ins h s cs n C d g) (k : Keeps h h') : Ins h' s cs n C d g := ⟨x.ac.keep k, x.len, fun i hi => ⟨(x.at_ i hi).1, (x.at_ i hi).2.keep k⟩⟩
structure Cop (h0 h : H) (s : Sl) (n : Nat) (C : Nat → S_api_Call) (d : Nat → List UInt8) (g : Nat → List Int) (cs' : List S_api_Call) (D G : Nat → Sl) : Prop where
  buf : Buf S_api_Call.cells 13 N_api_Call h s cs'
  len : cs'.length = n
  nth : ∀ i, i < n → cs'[i]? = some { C i with Data := D i, Gifts := G i }
  dat : ∀ i, i < n → Buf cU8 1 N_u8 h (D i) (d i)
  gif : ∀ i, i < n → Buf (cInt .i64) 1 N_int h (G i) (g i)
  new : ∀ c, s.foot c → h0 c = none
  newD : ∀ i c, i < n → (D i).foot c ∨ (G i).foot c → h0 c = none
  apD : ∀ i j c, i < j → j < n → (D i).foot c → ¬ (D j).foot c
  apG : ∀ i j c, i < j → j < n → (G i).foot c → ¬ (G j).foot c
section
variable {h h0 h' : H} {s : Sl} {cs cs' : List S_api_Call} {n : Nat} {C : Nat → S_api_Call} {d : Nat → List UInt8} {g : Nat → List Int} {D G : Nat → Sl}
theorem Cop.keep (x : Cop h0 h s n C d g cs' D G) (k : Keeps h h') : Cop h0 h' s n C d g cs' D G :=
  ⟨x.buf.keep k, x.len, x.nth, fun i hi => (x.dat i hi).keep k, fun i hi => (x.gif i hi).keep k, x.new, x.newD, x.apD, x.apG⟩
theorem Cop.ins (x : Cop h0 h s n C d g cs' D G) (p : ∀ i, i < n → PlayIn h0 (C i) (d i) (g i)) : Ins h s cs' n (fun i => { C i with Data := D i, Gifts := G i }) d g :=
  ⟨x.buf.arr, x.len, fun i hi => ⟨x.nth i hi, (x.dat i hi).arr, (p i hi).hd, (x.gif i hi).arr, (p i hi).hg, (p i hi).gw⟩⟩
theorem t_copies (x : Ins h s cs n C d g) (hn : n * 136 ≤ 140737488351232) {K : Sl → H → Prop} (y : ∀ s' h' cs' D G, Cop h h' s' n C d g cs' D G → Keeps h h' → K s' h') : m_law22_copies s K h := by
  unfold m_law22_copies
  have cl := x.ac.len
  have ln := x.len
  refine w_for n (fun i (z : Sl × Int) hh => ∃ sg cs' D G, z = (sg, (i : Int)) ∧ Cop h hh sg i C d g cs' D G ∧ Keeps h hh) ?_
    ⟨Sl.nil, [], fun _ => Sl.nil, fun _ => Sl.nil, rfl, ⟨Buf.nil, rfl, fun i hi => absurd hi (Nat.not_lt_zero _), fun i hi => absurd hi (Nat.not_lt_zero _), fun i hi => absurd hi (Nat.not_lt_zero _), fun _ ⟨_, q, _⟩ => (by cases q), fun i _ hi => absurd hi (Nat.not_lt_zero _), fun _ _ _ _ hi => absurd hi (Nat.not_lt_zero _), fun _ _ _ _ hi => absurd hi (Nat.not_lt_zero _)⟩, .refl _⟩
  rintro rec i _ hh hi ⟨sg, cs', D, G, rfl, co, kh⟩ more
  refine w_if' (fun c0 => ?_) fun c0 => ?_
  · have c0 : (i : Int) < (s.len : Int) := c0
    have hil : i < n := by omega
    obtain ⟨ht, pin⟩ := x.at_ i hil
    have pin1 := pin.keep kh
    refine w_get cl_len (x.ac.keep kh) ht rfl rfl (t_Copied pin1.ad pin1.hd pin1.ag pin1.hg fun s1 s2 h2 b1 b2 k2 f2 => ?_)
    have co2 := co.keep k2
    have k02 := kh.trans k2
    refine w_appR (by_ := 136) cl_len rfl co2.buf [({ C i with Data := s1, Gifts := s2 } : S_api_Call)] rfl rfl (by rw [co2.len]; simp only [List.length_singleton]; omega) fun s3 h3 b3 bt3 f3 d3 => ?_
    have k03 : Keeps h h3 := k02.but bt3 co2.new
    have nty : ∀ {e : TypeId} {c : Nat}, Typed h2 e c → e ≠ N_api_Call → ¬ sg.foot c := fun t ne q => t.ne (co2.buf.typed q) ne rfl
    have fresh1 : ∀ j c, j < i → s1.foot c → ¬ (D j).foot c := fun j c hj g1 g2 => (co.dat j hj).has g2 (f2 c (.inl g1))
    have fresh2 : ∀ j c, j < i → s2.foot c → ¬ (G j).foot c := fun j c hj g1 g2 => (co.gif j hj).has g2 (f2 c (.inr g1))
    refine more _ _ hil ⟨s3, _, fun j => if j = i then s1 else D j, fun j => if j = i then s2 else G j, by rw [ia1 i (by omega)], ⟨b3, by rw [List.length_append, co2.len]; rfl, fun j hj => ?_, fun j hj => ?_, fun j hj => ?_, fun c q => (f3 c q).elim (co2.new c) fun z => k02.fresh z, fun j c hj q => ?_, fun j k c hjk hk q => ?_, fun j k c hjk hk q => ?_⟩, k03⟩
    · rcases Nat.lt_succ_iff_lt_or_eq.1 hj with q | rfl
      · rw [List.getElem?_append_left (by rw [co2.len]; exact q), co2.nth j q]
        simp only [if_neg (Nat.ne_of_lt q)]
      · rw [List.getElem?_append_right (by rw [co2.len]; exact Nat.le_refl _), co2.len, Nat.sub_self]
        simp only [if_pos]
        rfl
    · rcases Nat.lt_succ_iff_lt_or_eq.1 hj with q | rfl
      · simp only [if_neg (Nat.ne_of_lt q)]
        exact (co2.dat j q).but bt3 fun ad ha => nty ((co2.dat j q).typed ⟨ad, ha, rfl⟩) (by decide)
      · simp only [if_pos]
        exact b1.but bt3 fun ad ha => nty (b1.typed ⟨ad, ha, rfl⟩) (by decide)
    · rcases Nat.lt_succ_iff_lt_or_eq.1 hj with q | rfl
      · simp only [if_neg (Nat.ne_of_lt q)]
        exact (co2.gif j q).but bt3 fun ad ha => nty ((co2.gif j q).typed ⟨ad, ha, rfl⟩) (by decide)
      · simp only [if_pos]
        exact b2.but bt3 fun ad ha => nty (b2.typed ⟨ad, ha, rfl⟩) (by decide)
    · rcases Nat.lt_succ_iff_lt_or_eq.1 hj with q' | rfl
      · simp only [if_neg (Nat.ne_of_lt q')] at q
        exact co.newD j c q' q
      · simp only [if_pos] at q
        exact kh.fresh (f2 c q)
    · have hj : j < i := by omega
      simp only [if_neg (Nat.ne_of_lt hj)] at q
      rcases Nat.lt_succ_iff_lt_or_eq.1 hk with q' | rfl
      · simp only [if_neg (Nat.ne_of_lt q')]
        exact co.apD j k c hjk q' q
      · simp only [if_pos]
        exact fun q2 => fresh1 j c hj q2 q
    · have hj : j < i := by omega
      simp only [if_neg (Nat.ne_of_lt hj)] at q
      rcases Nat.lt_succ_iff_lt_or_eq.1 hk with q' | rfl
      · simp only [if_neg (Nat.ne_of_lt q')]
        exact co.apG j k c hjk q' q
      · simp only [if_pos]
        exact fun q2 => fresh2 j c hj q2 q
  · have c0 : ¬ (i : Int) < (s.len : Int) := c0
    have ei : i = n := by omega
    subst ei
    exact y sg hh cs' D G co kh
end
def stN (m0 : MdS) (C : Nat → S_api_Call) (d : Nat → List UInt8) (g : Nat → List Int) : Nat → MdS
  | 0 => m0
  | n + 1 => (doO (stN m0 C d g n) (C n) (d n) (g n)).2
def rpN (m0 : MdS) (C : Nat → S_api_Call) (d : Nat → List UInt8) (g : Nat → List Int) (n : Nat) : RpV := (doO (stN m0 C d g n) (C n) (d n) (g n)).1
theorem stN_with (m0 : MdS) (C : Nat → S_api_Call) (d : Nat → List UInt8) (g : Nat → List Int) (D G : Nat → Sl) : ∀ n, stN m0 (fun i => { C i with Data := D i, Gifts := G i }) d g n = stN m0 C d g n
  | 0 => rfl
  | n + 1 => by
    rw [stN, stN_with m0 C d g D G n]
    exact congrArg Prod.snd (doO_with _ _ _ _ _ _)
theorem rpN_with (m0 : MdS) (C : Nat → S_api_Call) (d : Nat → List UInt8) (g : Nat → List Int) (D G : Nat → Sl) (n : Nat) : rpN m0 (fun i => { C i with Data := D i, Gifts := G i }) d g n = rpN m0 C d g n := by
  unfold rpN
  rw [stN_with]
  exact congrArg Prod.fst (doO_with _ _ _ _ _ _)
theorem stN_inv {m0 : MdS} (i : MSI m0) (r : MSR m0) (k : MSK m0) (C : Nat → S_api_Call) (d : Nat → List UInt8) (g : Nat → List Int) : ∀ n, MSI (stN m0 C d g n) ∧ MSR (stN m0 C d g n) ∧ MSK (stN m0 C d g n)
  | 0 => ⟨i, r, k⟩
  | n + 1 => by
    obtain ⟨a, b, c⟩ := stN_inv i r k C d g n
    exact ⟨do_inv a _ _ _, rise_do b a _ _ _, do_kin c a _ _ _⟩
theorem rpN_data {m0 : MdS} (i : MSI m0) (r : MSR m0) (k : MSK m0) (C : Nat → S_api_Call) (d : Nat → List UInt8) (g : Nat → List Int) (n : Nat) : (rpN m0 C d g n).data.length ≤ 4096 := do_data (stN_inv i r k C d g n).1 _ _ _
theorem rp_len : ∀ x, (S_api_Reply.cells x).length = 6 := fun _ => rfl
structure Reps (h0 h : H) (s : Sl) (n : Nat) (R : Nat → RpV) (rs : List S_api_Reply) (Q : Nat → Sl) : Prop where
  buf : Buf S_api_Reply.cells 6 N_api_Reply h s rs
  len : rs.length = n
  nth : ∀ i, i < n → rs[i]? = some ⟨(R i).code, (R i).cap, Q i, (R i).num⟩
  dat : ∀ i, i < n → Buf cU8 1 N_u8 h (Q i) (R i).data
  new : ∀ c, s.foot c → h0 c = none
  newQ : ∀ i c, i < n → (Q i).foot c → h0 c = none
  apQ : ∀ i j c, i < j → j < n → (Q i).foot c → ¬ (Q j).foot c
section
variable {h h0 h' : H} {s : Sl} {cs cs' : List S_api_Call} {n : Nat} {C : Nat → S_api_Call} {d : Nat → List UInt8} {g : Nat → List Int} {D G : Nat → Sl} {R : Nat → RpV} {rs : List S_api_Reply} {Q : Nat → Sl}
theorem Reps.keep (x : Reps h0 h s n R rs Q) (k : Keeps h h') : Reps h0 h' s n R rs Q :=
  ⟨x.buf.keep k, x.len, x.nth, fun i hi => (x.dat i hi).keep k, x.new, x.newQ, x.apQ⟩
theorem t_pRun {c : S_api_Config} {sd : Sl} {xs : List S_api_Word} (ar : Arr cW h sd xs) (gw : ∀ w ∈ xs, GoodW w) (x : Ins h s cs n C d g) (hn : n * 136 ≤ 140737488351232) {K : Sl × Int → H → Prop} (no1 : ¬ mayO c → K (Sl.nil, 16) h) (no2 : mayO c → 4096 < xs.length → K (Sl.nil, 23) h)
    (yes : mayO c → xs.length ≤ 4096 → ∀ s' h' rs Q, Reps h h' s' n (rpN (newO c xs) C d g) rs Q → Keeps h h' → K (s', 0) h') : m_plain_Run c sd s K h := by
  unfold m_plain_Run
  have cl := x.ac.len
  have ln := x.len
  refine t_pNew ar gw (fun z => w_ifT rfl (no1 z)) (fun z1 z2 => w_ifT rfl (no2 z1 z2)) fun my hx p F h1 x1 i1 k1 f1 => w_ifF rfl ?_
  have inv := stN_inv i1 (rise_newO c xs) (kin_newO c xs) C d g
  refine w_for n (fun i (z : Sl × Int) hh => ∃ sg rs Q F, z = (sg, (i : Int)) ∧ Reps h hh sg i (rpN (newO c xs) C d g) rs Q ∧ PM hh p F (stN (newO c xs) C d g i) ∧ (∀ c, F c → h c = none) ∧ (∀ c, F c → ¬ sg.foot c) ∧ (∀ j c, j < i → F c → ¬ (Q j).foot c) ∧ Keeps h hh) ?_
    ⟨Sl.nil, [], fun _ => Sl.nil, F, rfl, ⟨Buf.nil, rfl, fun i hi => absurd hi (Nat.not_lt_zero _), fun i hi => absurd hi (Nat.not_lt_zero _), fun _ ⟨_, q, _⟩ => (by cases q), fun i _ hi => absurd hi (Nat.not_lt_zero _), fun _ _ _ _ hi => absurd hi (Nat.not_lt_zero _)⟩, x1, f1, fun _ _ ⟨_, q, _⟩ => (by cases q), fun _ _ hi => absurd hi (Nat.not_lt_zero _), k1⟩
  rintro rec i _ hh hi ⟨sg, rs, Q, F, rfl, re, xp, ff, dj, dq, kh⟩ more
  refine w_if' (fun c0 => ?_) fun c0 => ?_
  · have c0 : (i : Int) < (s.len : Int) := c0
    have hil : i < n := by omega
    obtain ⟨ht, pin⟩ := x.at_ i hil
    have pin1 := pin.keep kh
    refine w_get cl_len (x.ac.keep kh) ht rfl rfl (t_pDo xp (inv i).1 pin1.ad pin1.ag pin1.gw fun s1 h2 F2 xp2 c2 b2 f2 => ?_)
    have re2b := re.buf.but c2.but fun ad ha q => dj _ q ⟨ad, ha, rfl⟩
    have re2d : ∀ j, j < i → Buf cU8 1 N_u8 h2 (Q j) (rpN (newO c xs) C d g j).data := fun j hj => (re.dat j hj).but c2.but fun ad ha q => dq j _ hj q ⟨ad, ha, rfl⟩
    have k02 : Keeps h h2 := kh.but c2.but ff
    have ff2 : ∀ c, F2 c → h c = none := fun c q => (c2.foot c q).elim (ff c) fun z => kh.fresh z
    have dj2 : ∀ c, F2 c → ¬ sg.foot c := fun c q q' => (c2.foot c q).elim (fun q => dj c q q') fun z => re.buf.has q' z
    have dq2 : ∀ j c, j < i → F2 c → ¬ (Q j).foot c := fun j c hj q q' => (c2.foot c q).elim (fun q => dq j c hj q q') fun z => (re.dat j hj).has q' z
    refine w_app (by_ := 64) rp_len rfl re2b [(⟨(rpN (newO c xs) C d g i).code, (rpN (newO c xs) C d g i).cap, s1, (rpN (newO c xs) C d g i).num⟩ : S_api_Reply)] rfl rfl (.inl (by rw [re.len]; simp only [List.length_singleton]; omega)) fun s3 h3 b3 bt3 f3 d3 => ?_
    have k03 : Keeps h h3 := k02.but bt3 re.new
    have nty : ∀ {e : TypeId} {c : Nat}, Typed h2 e c → e ≠ N_api_Reply → ¬ sg.foot c := fun t ne q => t.ne (re2b.typed q) ne rfl
    refine more _ _ hil ⟨s3, _, fun j => if j = i then s1 else Q j, F2, by rw [ia1 i (by omega)], ⟨b3, by rw [List.length_append, re.len]; rfl, fun j hj => ?_, fun j hj => ?_, fun c q => (f3 c q).elim (re.new c) fun z => k02.fresh z, fun j c hj q => ?_, fun j k c hjk hk q => ?_⟩, xp2.but bt3 (fun c q => dj2 c q) d3, ff2, fun c q q' => (f3 c q').elim (dj2 c q) fun z => xp2.has c q z, fun j c hj q => ?_, k03⟩
    · rcases Nat.lt_succ_iff_lt_or_eq.1 hj with q | rfl
      · rw [List.getElem?_append_left (by rw [re.len]; exact q), re.nth j q]
        simp only [if_neg (Nat.ne_of_lt q)]
      · rw [List.getElem?_append_right (by rw [re.len]; exact Nat.le_refl _), re.len, Nat.sub_self]
        simp only [if_pos]
        rfl
    · rcases Nat.lt_succ_iff_lt_or_eq.1 hj with q | rfl
      · simp only [if_neg (Nat.ne_of_lt q)]
        exact (re2d j q).but bt3 fun ad ha => nty ((re2d j q).typed ⟨ad, ha, rfl⟩) (by decide)
      · simp only [if_pos]
        exact b2.but bt3 fun ad ha => nty (b2.typed ⟨ad, ha, rfl⟩) (by decide)
    · rcases Nat.lt_succ_iff_lt_or_eq.1 hj with q' | rfl
      · simp only [if_neg (Nat.ne_of_lt q')] at q
        exact re.newQ j c q' q
      · simp only [if_pos] at q
        exact kh.fresh (f2 c q).1
    · have hj : j < i := by omega
      simp only [if_neg (Nat.ne_of_lt hj)] at q
      rcases Nat.lt_succ_iff_lt_or_eq.1 hk with q' | rfl
      · simp only [if_neg (Nat.ne_of_lt q')]
        exact re.apQ j k c hjk q' q
      · simp only [if_pos]
        exact fun q2 => (re.dat j hj).has q (f2 c q2).1
    · rcases Nat.lt_succ_iff_lt_or_eq.1 hj with q' | rfl
      · simp only [if_neg (Nat.ne_of_lt q')]
        exact dq2 j c q' q
      · simp only [if_pos]
        exact fun q2 => (f2 c q2).2 q
  · have c0 : ¬ (i : Int) < (s.len : Int) := c0
    have ei : i = n := by omega
    subst ei
    exact yes my hx sg hh rs Q re kh
end
section
variable {h h0 h' : H} {s : Sl} {cs cs' : List S_api_Call} {n : Nat} {C : Nat → S_api_Call} {d : Nat → List UInt8} {g : Nat → List Int} {D G : Nat → Sl} {R : Nat → RpV} {rs rs2 : List S_api_Reply} {Q Q2 : Nat → Sl}
theorem Ins.front (x : Ins h s cs n C d g) {k : Nat} (hk : k ≤ n) {s' : Sl} (a : Arr S_api_Call.cells h s' (cs.take k)) : Ins h s' (cs.take k) k C d g :=
  ⟨a, by rw [List.length_take, x.len]; omega, fun i hi => ⟨by rw [List.getElem?_take_of_lt hi]; exact (x.at_ i (by omega)).1, (x.at_ i (by omega)).2⟩⟩
theorem w_sameReps {h1 h2 : H} (x : Reps h1 h s n R rs Q) {k : Nat} {s2 : Sl} (z : Reps h2 h s2 k R rs2 Q2) (hk : k ≤ n) (hn : n ≤ 2 ^ 60) (hR : ∀ i, (R i).data.length ≤ 4096) {K : Bool → H → Prop} (y : K true h) :
    mLoop (fun (rec31 : Int → H → Prop) (s30 : Int) => mIf (decide (s30 < (k : Int))) (mIdx s2 s30 6 fun ad32 => mIdx s s30 6 fun ad33 => mLoad S_api_Reply.cells ad32 fun x34 => mLoad S_api_Reply.cells ad33 fun x35 => m_law21_SameReply x34 x35 fun r36 => mIf (!r36) (K false) (rec31 (iAdd .i64 s30 1))) (K true)) 0 h := by
  refine w_for k (fun i (z : Int) hh => z = (i : Int) ∧ hh = h) ?_ ⟨rfl, rfl⟩
  rintro rec i _ _ hi ⟨rfl, rfl⟩ more
  refine w_if' (fun c => ?_) fun _ => y
  have c : (i : Int) < (k : Int) := c
  have hil : i < k := by omega
  refine w_idx rp_len z.buf.arr (z.nth i hil) rfl fun a1 _ h1 => w_idx rp_len x.buf.arr (x.nth i (by omega)) rfl fun a2 _ h2 => w_load h1 (w_load h2 ?_)
  refine t_l21SameReply (a := ⟨_, _, Q2 i, _⟩) (b := ⟨_, _, Q i, _⟩) rfl rfl rfl (z.dat i hil).arr (x.dat i (by omega)).arr (Nat.le_trans (hR i) (by decide)) ?_
  exact w_ifF rfl (more _ _ hil ⟨ia1 i (by omega), rfl⟩)
theorem t_PlainRuns {c : S_api_Config} {sd sc : Sl} {xs : List S_api_Word} (ar : Arr cW h sd xs) (hx : xs.length * 16 ≤ 2 ^ 48) (gw : ∀ w ∈ xs, GoodW w) (x : Ins h sc cs n C d g) (hn : n * 136 ≤ 140737488351232) {K : Bool → H → Prop} (y : ∀ h', Keeps h h' → K true h') : m_law22_PlainRuns c sd sc K h := by
  unfold m_law22_PlainRuns
  have cl := x.ac.len
  have ln := x.len
  refine t_l22example fun h1 k1 => w_ifF rfl ?_
  refine w_empty (T := S_api_Word) (cells := cW) (sz := 2) fun b h2 hb b2 k2 => ?_
  have k02 := k1.trans k2
  refine w_anew word_len word_plain rfl k2 hb b2 (ar.keep k02) hx fun s3 h3 b3 k3 f3 _ => ?_
  have k03 := k1.trans k3
  refine t_copies (x.keep k03) hn fun s4 h4 cs4 D4 G4 co4 k4 => ?_
  have k04 := k03.trans k4
  have in4 := co4.ins fun i hi => ((x.keep k03).at_ i hi).2
  have nx : ∀ {hh : H} {k : Option Addr × Int → H → Prop}, Keeps h hh → (¬ mayO c → ∀ h', Keeps hh h' → k (none, 16) h') → (mayO c → 4096 < xs.length → ∀ h', Keeps hh h' → k (none, 23) h') → (mayO c → xs.length ≤ 4096 → ∀ p F h', PM h' p F (newO c xs) → MSI (newO c xs) → Keeps hh h' → (∀ c, F c → hh c = none) → k (some ⟨p, 0, none⟩, 0) h') →
      mNew N_api_Word #[] (fun ad6 => mAppend N_api_Word 2 16 #[(Value.int .u64 0), (Value.int .u64 0)] (⟨some ad6, 0, 0⟩ : Sl) sd fun s7 => m_plain_New c s7 k) hh := fun {hh k} kh z1 z2 z3 => by
    refine w_empty (T := S_api_Word) (cells := cW) (sz := 2) fun b h5 hb b5 k5 => ?_
    refine w_anew word_len word_plain rfl k5 hb b5 (ar.keep (kh.trans k5)) hx fun s6 h6 b6 k6 f6 _ => ?_
    exact t_pNew b6.arr gw (fun q => z1 q h6 k6) (fun q1 q2 => z2 q1 q2 h6 k6) fun q1 q2 p F h7 x7 i7 k7 f7 => z3 q1 q2 p F h7 x7 i7 (k6.trans k7) fun c q => k6.fresh (f7 c q)
  refine t_pRun (b3.keep k4).arr gw in4 hn (fun z => ?_) (fun z1 z2 => ?_) fun my hx4 s5 h5 rs5 Q5 re5 k5 => ?_
  · refine nx k04 (fun _ h' k' => ?_) (fun q => absurd q z) fun q => absurd q z
    exact w_ifF rfl (w_ifT rfl (y h' (k04.trans k')))
  · refine nx k04 (fun q => absurd z1 q) (fun _ _ h' k' => ?_) fun _ q => by omega
    exact w_ifF rfl (w_ifT rfl (y h' (k04.trans k')))
  rw [show rpN (newO c xs) (fun i => { C i with Data := D4 i, Gifts := G4 i }) d g = rpN (newO c xs) C d g from funext fun i => rpN_with _ _ _ _ _ _ i] at re5
  have k05 := k04.trans k5
  refine nx k05 (fun q => absurd my q) (fun _ q => by omega) fun _ _ p F h6 x6 i6 k6 f6 => ?_
  have l5 := re5.buf.len
  rw [re5.len] at l5
  have inv := stN_inv i6 (rise_newO c xs) (kin_newO c xs) C d g
  have hR : ∀ i, (rpN (newO c xs) C d g i).data.length ≤ 4096 := fun i => rpN_data i6 (rise_newO c xs) (kin_newO c xs) C d g i
  refine w_ifF rfl (w_ifF rfl (w_ifF (by rw [l5, cl, ln]; simp) ?_))
  refine w_for n (fun i (z : Int) hh => z = (i : Int) ∧ ∃ F, PM hh p F (stN (newO c xs) C d g i) ∧ (∀ c, F c → h5 c = none) ∧ Keeps h5 hh) ?_ ⟨rfl, F, x6, f6, k6⟩
  rintro rec i _ hh hi ⟨rfl, F, xp, ff, kh⟩ more
  have k0h := k05.trans kh
  refine w_if' (fun c0 => ?_) fun c0 => ?_
  · have c0 : (i : Int) < (sc.len : Int) := c0
    have hil : i < n := by omega
    obtain ⟨ht, pin⟩ := x.at_ i hil
    refine w_idx rp_len (re5.buf.keep kh).arr (re5.nth i hil) rfl fun ad11 hidx h11 => w_get cl_len (x.ac.keep k0h) ht rfl rfl ?_
    have nb : ∀ {F : Nat → Prop}, (∀ c, F c → h5 c = none) → ¬ F ad11.block := fun f q => by
      obtain ⟨a0, ha0, _, _, e⟩ := hidx
      rw [e, add_block] at q
      exact re5.buf.has ⟨a0, ha0, rfl⟩ (f _ q)
    have cp : ∀ {k : S_api_Call → H → Prop}, (∀ s1 s2 h', Buf cU8 1 N_u8 h' s1 (d i) → Buf (cInt .i64) 1 N_int h' s2 (g i) → Keeps hh h' → k { C i with Data := s1, Gifts := s2 } h') → m_law21_Copied (C i) k hh := fun {k} z => by
      have pin1 := pin.keep k0h
      exact t_Copied pin1.ad pin1.hd pin1.ag pin1.hg fun s1 s2 h' b1 b2 k' _ => z s1 s2 h' b1 b2 k'
    have dd : ∀ {h7 : H} {s1 s2 : Sl} {k : S_api_Reply → H → Prop}, Buf cU8 1 N_u8 h7 s1 (d i) → Buf (cInt .i64) 1 N_int h7 s2 (g i) → Keeps hh h7 → (∀ s8 h8 F8, PM h8 p F8 (stN (newO c xs) C d g (i + 1)) → (∀ c, F8 c → h5 c = none) → Keeps h5 h8 → But F h7 h8 → Buf cU8 1 N_u8 h8 s8 (rpN (newO c xs) C d g i).data → k ⟨(rpN (newO c xs) C d g i).code, (rpN (newO c xs) C d g i).cap, s8, (rpN (newO c xs) C d g i).num⟩ h8) → m_plain_Model_Do (some ⟨p, 0, none⟩) { C i with Data := s1, Gifts := s2 } k h7 := fun {h7 s1 s2 k} b1 b2 k7 z => by
      refine t_pDo (xp.keep k7) (inv i).1 (c := { C i with Data := s1, Gifts := s2 }) b1.arr b2.arr pin.gw fun s8 h8 F8 x8 c8 b8 f8 => ?_
      rw [doO_with] at x8 b8 ⊢
      exact z s8 h8 F8 x8 (fun c q => (c8.foot c q).elim (ff c) fun w => (kh.trans k7).fresh w) ((kh.trans k7).but c8.but ff) c8.but b8
    refine w_joinP (fun (z : S_api_Reply × S_api_Reply) h8 => ∃ s8 F8, z = (⟨(rpN (newO c xs) C d g i).code, (rpN (newO c xs) C d g i).cap, Q5 i, (rpN (newO c xs) C d g i).num⟩, ⟨(rpN (newO c xs) C d g i).code, (rpN (newO c xs) C d g i).cap, s8, (rpN (newO c xs) C d g i).num⟩) ∧ PM h8 p F8 (stN (newO c xs) C d g (i + 1)) ∧ (∀ c, F8 c → h5 c = none) ∧ Keeps h5 h8 ∧ Buf cU8 1 N_u8 h8 s8 (rpN (newO c xs) C d g i).data) (fun j hj => ?_) ?_
    · refine w_both (w_load h11 (cp fun s1 s2 h7 b1 b2 k7 => dd b1 b2 k7 fun s8 h8 F8 x8 f8 k8 _ b8 => hj _ _ ⟨s8, F8, rfl, x8, f8, k8, b8⟩)) (cp fun s1 s2 h7 b1 b2 k7 => ?_)
      have h17 := h11.keep k7
      refine w_both (w_load h17 (dd b1 b2 k7 fun s8 h8 F8 x8 f8 k8 _ b8 => hj _ _ ⟨s8, F8, rfl, x8, f8, k8, b8⟩)) (dd b1 b2 k7 fun s8 h8 F8 x8 f8 k8 bt8 b8 => w_load (h17.but bt8 (nb ff)) (hj _ _ ⟨s8, F8, rfl, x8, f8, k8, b8⟩))
    · rintro _ h8 ⟨s8, F8, rfl, x8, f8, k8, b8⟩
      refine t_l21SameReply (a := ⟨_, _, Q5 i, _⟩) (b := ⟨_, _, s8, _⟩) rfl rfl rfl ((re5.dat i hil).keep k8).arr b8.arr (Nat.le_trans (hR i) (by decide)) ?_
      exact w_ifF rfl (more _ _ hil ⟨ia1 i (by omega), F8, x8, f8, k8⟩)
  have c0 : ¬ (i : Int) < (sc.len : Int) := c0
  clear more rec
  have e2 : iQuo .i64 (sc.len : Int) 2 = ((n / 2 : Nat) : Int) := by rw [cl, ln]; exact iq n 2 (by omega)
  rw [e2]
  refine w_take (x.ac.keep k0h) (n := n / 2) (by omega) rfl rfl fun s9 a9 _ _ => ?_
  have in9 := (x.keep k0h).front (k := n / 2) (by omega) a9
  refine w_empty (T := S_api_Word) (cells := cW) (sz := 2) fun b h10 hb b10 k10 => ?_
  refine w_anew word_len word_plain rfl k10 hb b10 (ar.keep (k0h.trans k10)) hx fun s11 h11 b11 k11 f11 _ => ?_
  refine t_copies (in9.keep k11) (by omega) fun s12 h12 cs12 D12 G12 co12 k12 => ?_
  have in12 := co12.ins fun i hi => ((in9.keep k11).at_ i hi).2
  refine t_pRun (b11.keep k12).arr gw in12 (by omega) (fun z => absurd my z) (fun _ q => by omega) fun _ _ s13 h13 rs13 Q13 re13 k13 => ?_
  rw [show rpN (newO c xs) (fun i => { C i with Data := D12 i, Gifts := G12 i }) d g = rpN (newO c xs) C d g from funext fun i => rpN_with _ _ _ _ _ _ i] at re13
  have l13 := re13.buf.len
  rw [re13.len] at l13
  have k5e : Keeps h5 h13 := kh.trans (k11.trans (k12.trans k13))
  refine w_ifF (by rw [l13]; simp) (w_sameReps (re5.keep k5e) re13 (by omega) (by omega) hR (y h13 (k05.trans k5e)))
theorem t_PlainRunsA {c : S_api_Config} {sd sc : Sl} {xs : List S_api_Word} {cs : List S_api_Call} (ar : Arr cW h sd xs) (hx : xs.length * 16 ≤ 2 ^ 48) (gw : ∀ w ∈ xs, GoodW w) (ac : Arr S_api_Call.cells h sc cs) (hn : cs.length * 136 ≤ 140737488351232) (good : ∀ x ∈ cs, ∃ ds gs, PlayIn h x ds gs) {K : Bool → H → Prop} (y : ∀ h', Keeps h h' → K true h') : m_law22_PlainRuns c sd sc K h := by
  obtain ⟨C, d, g, x⟩ := Ins.of ac good
  exact t_PlainRuns ar hx gw x hn y
end
end Go.Proofs.Ytbjkfllncegpcaa.K
namespace Go.Proofs.Ytbjkfllncegpcaa.K
open Go Go.ChangeShapes Go.WideShapes Go.ChangeAt Go.RowKit Go.Proofs
def G_api_Config (_W : World) (x : S_api_Config) : Prop := (IntKind.i64.min ≤ x.Width ∧ x.Width ≤ IntKind.i64.max) ∧ (IntKind.i64.min ≤ x.Objects ∧ x.Objects ≤ IntKind.i64.max) ∧ (IntKind.i64.min ≤ x.Pages ∧ x.Pages ≤ IntKind.i64.max) ∧ (IntKind.i64.min ≤ x.Entries ∧ x.Entries ≤ IntKind.i64.max) ∧ (IntKind.i64.min ≤ x.Quota ∧ x.Quota ≤ IntKind.i64.max) ∧ (IntKind.i64.min ≤ x.Procs ∧ x.Procs ≤ IntKind.i64.max) ∧ (IntKind.i64.min ≤ x.List ∧ x.List ≤ IntKind.i64.max) ∧ (IntKind.i64.min ≤ x.Sets ∧ x.Sets ≤ IntKind.i64.max) ∧ (IntKind.i64.min ≤ x.Ways ∧ x.Ways ≤ IntKind.i64.max) ∧ (IntKind.i64.min ≤ x.Knob ∧ x.Knob ≤ IntKind.i64.max)
def W_api_Config (_B : Nat) (_x : S_api_Config) : Prop := True
set_option maxRecDepth 100000 in
theorem openC_api_Config {HH : Type} {enc : TypeId × Value → HH} {W : World} {t : TypeId} (ht : Try.prog.underlying t = Try.prog.underlying 22) (hc : Try.prog.cellsOf t = 10) {n : Nat} {cs : List Value} {y : DataW HH × List MemPlace} (h : DataW.trod enc Try.prog W 0 (fun _ => true) true n t cs = some y) : ∃ x : S_api_Config, cs = S_api_Config.cells x ∧ G_api_Config W x ∧ ∀ B, Weigh B t y.1 → W_api_Config B x := by
  have ht : Try.prog.underlying t = _ := ht.trans Try.underlying22
  obtain ⟨_, _, _, _, hl0, _, _⟩ := DataW.trod_struct ht h
  obtain ⟨y0, n0, h0, k0⟩ := trod_fieldW ht h 0 _ rfl
  obtain ⟨x0, e0, g0⟩ := open_intC (k := .i64) (by kernel_rfl) h0
  obtain ⟨y1, n1, h1, k1⟩ := trod_fieldW ht h 1 _ rfl
  obtain ⟨x1, e1, g1⟩ := open_intC (k := .i64) (by kernel_rfl) h1
  obtain ⟨y2, n2, h2, k2⟩ := trod_fieldW ht h 2 _ rfl
  obtain ⟨x2, e2, g2⟩ := open_intC (k := .i64) (by kernel_rfl) h2
  obtain ⟨y3, n3, h3, k3⟩ := trod_fieldW ht h 3 _ rfl
  obtain ⟨x3, e3, g3⟩ := open_intC (k := .i64) (by kernel_rfl) h3
  obtain ⟨y4, n4, h4, k4⟩ := trod_fieldW ht h 4 _ rfl
  obtain ⟨x4, e4, g4⟩ := open_intC (k := .i64) (by kernel_rfl) h4
  obtain ⟨y5, n5, h5, k5⟩ := trod_fieldW ht h 5 _ rfl
  obtain ⟨x5, e5, g5⟩ := open_intC (k := .i64) (by kernel_rfl) h5
  obtain ⟨y6, n6, h6, k6⟩ := trod_fieldW ht h 6 _ rfl
  obtain ⟨x6, e6, g6⟩ := open_intC (k := .i64) (by kernel_rfl) h6
  obtain ⟨y7, n7, h7, k7⟩ := trod_fieldW ht h 7 _ rfl
  obtain ⟨x7, e7, g7⟩ := open_intC (k := .i64) (by kernel_rfl) h7
  obtain ⟨y8, n8, h8, k8⟩ := trod_fieldW ht h 8 _ rfl
  obtain ⟨x8, e8, g8⟩ := open_intC (k := .i64) (by kernel_rfl) h8
  obtain ⟨y9, n9, h9, k9⟩ := trod_fieldW ht h 9 _ rfl
  obtain ⟨x9, e9, g9⟩ := open_intC (k := .i64) (by kernel_rfl) h9
  have hl : cs.length = 10 := hl0.trans hc
  match cs, hl with
  | [c0, c1, c2, c3, c4, c5, c6, c7, c8, c9], _ =>
    replace e0 : [c0] = (cInt .i64) x0 := (show [c0] = _ by kernel_rfl).trans e0
    replace e1 : [c1] = (cInt .i64) x1 := (show [c1] = _ by kernel_rfl).trans e1
    replace e2 : [c2] = (cInt .i64) x2 := (show [c2] = _ by kernel_rfl).trans e2
    replace e3 : [c3] = (cInt .i64) x3 := (show [c3] = _ by kernel_rfl).trans e3
    replace e4 : [c4] = (cInt .i64) x4 := (show [c4] = _ by kernel_rfl).trans e4
    replace e5 : [c5] = (cInt .i64) x5 := (show [c5] = _ by kernel_rfl).trans e5
    replace e6 : [c6] = (cInt .i64) x6 := (show [c6] = _ by kernel_rfl).trans e6
    replace e7 : [c7] = (cInt .i64) x7 := (show [c7] = _ by kernel_rfl).trans e7
    replace e8 : [c8] = (cInt .i64) x8 := (show [c8] = _ by kernel_rfl).trans e8
    replace e9 : [c9] = (cInt .i64) x9 := (show [c9] = _ by kernel_rfl).trans e9
    exact ⟨⟨x0, x1, x2, x3, x4, x5, x6, x7, x8, x9⟩, (show [c0, c1, c2, c3, c4, c5, c6, c7, c8, c9] = [c0] ++ [c1] ++ [c2] ++ [c3] ++ [c4] ++ [c5] ++ [c6] ++ [c7] ++ [c8] ++ [c9] from rfl).trans (by rw [e0, e1, e2, e3, e4, e5, e6, e7, e8, e9]; rfl), ⟨g0, g1, g2, g3, g4, g5, g6, g7, g8, g9⟩, fun B hB => trivial⟩
def G_api_Word (_W : World) (x : S_api_Word) : Prop := (IntKind.u64.min ≤ x.Hi ∧ x.Hi ≤ IntKind.u64.max) ∧ (IntKind.u64.min ≤ x.Lo ∧ x.Lo ≤ IntKind.u64.max)
def W_api_Word (_B : Nat) (_x : S_api_Word) : Prop := True
set_option maxRecDepth 100000 in
theorem openC_api_Word {HH : Type} {enc : TypeId × Value → HH} {W : World} {t : TypeId} (ht : Try.prog.underlying t = Try.prog.underlying 36) (hc : Try.prog.cellsOf t = 2) {n : Nat} {cs : List Value} {y : DataW HH × List MemPlace} (h : DataW.trod enc Try.prog W 0 (fun _ => true) true n t cs = some y) : ∃ x : S_api_Word, cs = S_api_Word.cells x ∧ G_api_Word W x ∧ ∀ B, Weigh B t y.1 → W_api_Word B x := by
  have ht : Try.prog.underlying t = _ := ht.trans Try.underlying36
  obtain ⟨_, _, _, _, hl0, _, _⟩ := DataW.trod_struct ht h
  obtain ⟨y0, n0, h0, k0⟩ := trod_fieldW ht h 0 _ rfl
  obtain ⟨x0, e0, g0⟩ := open_intC (k := .u64) (by kernel_rfl) h0
  obtain ⟨y1, n1, h1, k1⟩ := trod_fieldW ht h 1 _ rfl
  obtain ⟨x1, e1, g1⟩ := open_intC (k := .u64) (by kernel_rfl) h1
  have hl : cs.length = 2 := hl0.trans hc
  match cs, hl with
  | [c0, c1], _ =>
    replace e0 : [c0] = (cInt .u64) x0 := (show [c0] = _ by kernel_rfl).trans e0
    replace e1 : [c1] = (cInt .u64) x1 := (show [c1] = _ by kernel_rfl).trans e1
    exact ⟨⟨x0, x1⟩, (show [c0, c1] = [c0] ++ [c1] from rfl).trans (by rw [e0, e1]; rfl), ⟨g0, g1⟩, fun B hB => trivial⟩
def G_api_Cap (W : World) (x : S_api_Cap) : Prop := (IntKind.i64.min ≤ x.Obj ∧ x.Obj ≤ IntKind.i64.max) ∧ G_api_Word W x.Pass
def W_api_Cap (_B : Nat) (_x : S_api_Cap) : Prop := True
set_option maxRecDepth 100000 in
theorem openC_api_Cap {HH : Type} {enc : TypeId × Value → HH} {W : World} {t : TypeId} (ht : Try.prog.underlying t = Try.prog.underlying 38) (hc : Try.prog.cellsOf t = 3) {n : Nat} {cs : List Value} {y : DataW HH × List MemPlace} (h : DataW.trod enc Try.prog W 0 (fun _ => true) true n t cs = some y) : ∃ x : S_api_Cap, cs = S_api_Cap.cells x ∧ G_api_Cap W x ∧ ∀ B, Weigh B t y.1 → W_api_Cap B x := by
  have ht : Try.prog.underlying t = _ := ht.trans Try.underlying38
  obtain ⟨_, _, _, _, hl0, _, _⟩ := DataW.trod_struct ht h
  obtain ⟨y0, n0, h0, k0⟩ := trod_fieldW ht h 0 _ rfl
  obtain ⟨x0, e0, g0⟩ := open_intC (k := .i64) (by kernel_rfl) h0
  obtain ⟨y1, n1, h1, k1⟩ := trod_fieldW ht h 1 _ rfl
  obtain ⟨x1, e1, g1⟩ := ((openC_api_Word (t := 37) (by kernel_rfl) (by kernel_rfl) h1).imp fun x q => And.intro q.1 q.2.1)
  have hl : cs.length = 3 := hl0.trans hc
  match cs, hl with
  | [c0, c1, c2], _ =>
    replace e0 : [c0] = (cInt .i64) x0 := (show [c0] = _ by kernel_rfl).trans e0
    replace e1 : [c1, c2] = S_api_Word.cells x1 := (show [c1, c2] = _ by kernel_rfl).trans e1
    exact ⟨⟨x0, x1⟩, (show [c0, c1, c2] = [c0] ++ [c1, c2] from rfl).trans (by rw [e0, e1]; rfl), ⟨g0, g1⟩, fun B hB => trivial⟩
def G_api_Call (W : World) (x : S_api_Call) : Prop := (IntKind.i64.min ≤ x.Op ∧ x.Op ≤ IntKind.i64.max) ∧ (IntKind.i64.min ≤ x.By ∧ x.By ≤ IntKind.i64.max) ∧ (IntKind.i64.min ≤ x.Size ∧ x.Size ≤ IntKind.i64.max) ∧ G_api_Cap W x.Cap ∧ True ∧ (IntKind.i64.min ≤ x.Rights ∧ x.Rights ≤ IntKind.i64.max) ∧ (IntKind.i64.min ≤ x.Off ∧ x.Off ≤ IntKind.i64.max) ∧ (IntKind.i64.min ≤ x.N ∧ x.N ≤ IntKind.i64.max) ∧ (∃ xs, Arr cU8 (heapH W) x.Data xs ∧ (∀ z ∈ xs, True) ∧ x.Data.cap ≤ maxLen) ∧ (IntKind.i64.min ≤ x.Index ∧ x.Index ≤ IntKind.i64.max) ∧ (∃ xs, Arr (cInt .i64) (heapH W) x.Gifts xs ∧ (∀ z ∈ xs, (IntKind.i64.min ≤ z ∧ z ≤ IntKind.i64.max)) ∧ x.Gifts.cap ≤ maxLen)
def W_api_Call (B : Nat) (x : S_api_Call) : Prop := x.Data.len * Try.prog.bytesOf 5 ≤ B ∧ x.Gifts.len * Try.prog.bytesOf 3 ≤ B
set_option maxRecDepth 100000 in
theorem openC_api_Call {HH : Type} {enc : TypeId × Value → HH} {W : World} {t : TypeId} (ht : Try.prog.underlying t = Try.prog.underlying 42) (hc : Try.prog.cellsOf t = 13) {n : Nat} {cs : List Value} {y : DataW HH × List MemPlace} (h : DataW.trod enc Try.prog W 0 (fun _ => true) true n t cs = some y) : ∃ x : S_api_Call, cs = S_api_Call.cells x ∧ G_api_Call W x ∧ ∀ B, Weigh B t y.1 → W_api_Call B x := by
  have ht : Try.prog.underlying t = _ := ht.trans Try.underlying42
  obtain ⟨_, _, _, _, hl0, _, _⟩ := DataW.trod_struct ht h
  obtain ⟨y0, n0, h0, k0⟩ := trod_fieldW ht h 0 _ rfl
  obtain ⟨x0, e0, g0⟩ := open_intC (k := .i64) (by kernel_rfl) h0
  obtain ⟨y1, n1, h1, k1⟩ := trod_fieldW ht h 1 _ rfl
  obtain ⟨x1, e1, g1⟩ := open_intC (k := .i64) (by kernel_rfl) h1
  obtain ⟨y2, n2, h2, k2⟩ := trod_fieldW ht h 2 _ rfl
  obtain ⟨x2, e2, g2⟩ := open_intC (k := .i64) (by kernel_rfl) h2
  obtain ⟨y3, n3, h3, k3⟩ := trod_fieldW ht h 3 _ rfl
  obtain ⟨x3, e3, g3⟩ := ((openC_api_Cap (t := 39) (by kernel_rfl) (by kernel_rfl) h3).imp fun x q => And.intro q.1 q.2.1)
  obtain ⟨y4, n4, h4, k4⟩ := trod_fieldW ht h 4 _ rfl
  obtain ⟨x4, e4, g4⟩ := open_boolC (by kernel_rfl) h4
  obtain ⟨y5, n5, h5, k5⟩ := trod_fieldW ht h 5 _ rfl
  obtain ⟨x5, e5, g5⟩ := open_intC (k := .i64) (by kernel_rfl) h5
  obtain ⟨y6, n6, h6, k6⟩ := trod_fieldW ht h 6 _ rfl
  obtain ⟨x6, e6, g6⟩ := open_intC (k := .i64) (by kernel_rfl) h6
  obtain ⟨y7, n7, h7, k7⟩ := trod_fieldW ht h 7 _ rfl
  obtain ⟨x7, e7, g7⟩ := open_intC (k := .i64) (by kernel_rfl) h7
  obtain ⟨y8, n8, h8, k8⟩ := trod_fieldW ht h 8 _ rfl
  obtain ⟨x8, e8, g8, w8⟩ := open_slCW (e := 5) (sz := 1) (cells := cU8) (Good := fun _ => True) (fun _ => rfl) (by decide) (by kernel_rfl) (by kernel_rfl) open_u8C h8
  obtain ⟨y9, n9, h9, k9⟩ := trod_fieldW ht h 9 _ rfl
  obtain ⟨x9, e9, g9⟩ := open_intC (k := .i64) (by kernel_rfl) h9
  obtain ⟨y10, n10, h10, k10⟩ := trod_fieldW ht h 10 _ rfl
  obtain ⟨x10, e10, g10, w10⟩ := open_slCW (e := 3) (sz := 1) (cells := (cInt .i64)) (Good := fun z => (IntKind.i64.min ≤ z ∧ z ≤ IntKind.i64.max)) (fun _ => rfl) (by decide) (by kernel_rfl) (by kernel_rfl) (fun _ _ _ hf => open_intC (k := .i64) (by kernel_rfl) hf) h10
  have hl : cs.length = 13 := hl0.trans hc
  match cs, hl with
  | [c0, c1, c2, c3, c4, c5, c6, c7, c8, c9, c10, c11, c12], _ =>
    replace e0 : [c0] = (cInt .i64) x0 := (show [c0] = _ by kernel_rfl).trans e0
    replace e1 : [c1] = (cInt .i64) x1 := (show [c1] = _ by kernel_rfl).trans e1
    replace e2 : [c2] = (cInt .i64) x2 := (show [c2] = _ by kernel_rfl).trans e2
    replace e3 : [c3, c4, c5] = S_api_Cap.cells x3 := (show [c3, c4, c5] = _ by kernel_rfl).trans e3
    replace e4 : [c6] = cBool x4 := (show [c6] = _ by kernel_rfl).trans e4
    replace e5 : [c7] = (cInt .i64) x5 := (show [c7] = _ by kernel_rfl).trans e5
    replace e6 : [c8] = (cInt .i64) x6 := (show [c8] = _ by kernel_rfl).trans e6
    replace e7 : [c9] = (cInt .i64) x7 := (show [c9] = _ by kernel_rfl).trans e7
    replace e8 : [c10] = cSl x8 := (show [c10] = _ by kernel_rfl).trans e8
    replace e9 : [c11] = (cInt .i64) x9 := (show [c11] = _ by kernel_rfl).trans e9
    replace e10 : [c12] = cSl x10 := (show [c12] = _ by kernel_rfl).trans e10
    exact ⟨⟨x0, x1, x2, x3, x4, x5, x6, x7, x8, x9, x10⟩, (show [c0, c1, c2, c3, c4, c5, c6, c7, c8, c9, c10, c11, c12] = [c0] ++ [c1] ++ [c2] ++ [c3, c4, c5] ++ [c6] ++ [c7] ++ [c8] ++ [c9] ++ [c10] ++ [c11] ++ [c12] from rfl).trans (by rw [e0, e1, e2, e3, e4, e5, e6, e7, e8, e9, e10]; rfl), ⟨g0, g1, g2, g3, g4, g5, g6, g7, g8, g9, g10⟩, fun B hB => ⟨w8 B (k8 B hB), w10 B (k10 B hB)⟩⟩
set_option maxRecDepth 100000 in
theorem plainRuns_lifted (os : Os) (started : os.Started) (HH : Type) (enc : TypeId × Value → HH) :
    ReturnsInHanded {} Try.checked os 6 .any (Rows.plainRunsSpec.pre6 enc Try.prog Try.f6 Rows.plainRunsRow.domain false) (Rows.plainRunsSpec.post enc Try.prog Try.f6 false true false false) := by
  refine returnsInHanded_of_change_shaped (C := Try.checked) own started (by kernel_rfl) Try.func6
    (ChangeSpec.witness6 (enc := enc) (C := Try.checked) false ⟨#[], #[.agg #[.int .i64 0, .int .i64 0, .int .i64 0, .int .i64 0, .int .i64 0, .int .i64 0, .int .i64 0, .int .i64 0, .int .i64 0, .int .i64 0], .slice none 0 0, .slice none 0 0], []⟩ 8 (by kernel_rfl) (by kernel_rfl) (by kernel_rfl) (by kernel_rfl)) ?_
  intro W base args ds gs before hval0 hW hcnd hwt0 _ _
  have hval : ∀ (j : Nat) t v, Try.f6.params[j]? = some t → args[j]? = some v → Value.okWide Try.prog W .any base t v := hval0
  have hW' : DataW.Whole enc Try.prog Try.f6.params.toList Rows.plainRunsSpec.vars false W args.toList ds gs before := hW
  obtain ⟨p, q, hA0, hV, rfl, hfz, hnd⟩ := hW
  have hA : DataW.TrodAll enc Try.prog W 0 (fun _ => true) true [23, 24, 25] args.toList ds p := hA0
  obtain ⟨l⟩ := args
  obtain ⟨v0, l0, d0, ds0, p0, q0, e0, rfl, rfl, t0, hB0⟩ := trodAll_cons hA
  replace e0 : l = v0 :: l0 := e0
  subst e0
  obtain ⟨v1, l1, d1, ds1, p1, q1, e1, rfl, rfl, t1, hB1⟩ := trodAll_cons hB0
  replace e1 : l0 = v1 :: l1 := e1
  subst e1
  obtain ⟨v2, l2, d2, ds2, p2, q2, e2, rfl, rfl, t2, hB2⟩ := trodAll_cons hB1
  replace e2 : l1 = v2 :: l2 := e2
  subst e2
  obtain ⟨rfl, rfl, rfl⟩ := trodAll_nil hB2
  obtain ⟨rfl, rfl⟩ := trodVars_none hV
  have hwt : (DataW.weightsEach Try.prog ([23, 24, 25] ++ []) ([d0, d1, d2] ++ [])).all (· ≤ reachBytes) = true := hwt0
  clear hwt0
  simp only [List.append_nil, DataW.weightsEach, List.all_append, Bool.and_eq_true] at hwt
  obtain ⟨y0, y1, y2⟩ := hwt
  obtain ⟨c0, rfl, _, _, hf0⟩ := open_str ((show Try.prog.underlying 23 = Try.prog.underlying 22 by kernel_rfl).trans Try.underlying22) (hval 0 23 v0 rfl rfl) t0
  obtain ⟨x0, ec0, g0⟩ := openC_api_Config (t := 23) (by kernel_rfl) (by kernel_rfl) hf0
  subst ec0
  obtain ⟨s1, b1, rfl, r1, g1, m1, u1⟩ := open_arrW (e := 37) (sz := 2) S_api_Word.cells (fun z => G_api_Word W z) W_api_Word (fun _ => rfl) (by decide) (by kernel_rfl) (by kernel_rfl) (fun _ _ _ hf => openC_api_Word (t := 37) (by kernel_rfl) (by kernel_rfl) hf) (hval 1 24 v1 rfl rfl) t1
  obtain ⟨s2, b2, rfl, r2, g2, m2, u2⟩ := open_arrW (e := 43) (sz := 13) S_api_Call.cells (fun z => G_api_Call W z) W_api_Call (fun _ => rfl) (by decide) (by kernel_rfl) (by kernel_rfl) (fun _ _ _ hf => openC_api_Call (t := 43) (by kernel_rfl) (by kernel_rfl) hf) (hval 2 25 v2 rfl rfl) t2
  have z1 := u1 reachBytes y1
  unfold reachBytes at z1
  have z2 := u2 reachBytes y2
  unfold reachBytes at z2
  have walk := s_law22_PlainRuns.ok (x0, s1, s2) (fun r h' => r = true ∧ Keeps (heapH W) h') (heapH W) (t_PlainRunsA r1 (by have w := z1.1; rw [show Try.prog.bytesOf 37 = 16 from by kernel_rfl] at w; omega) (fun w hw => goodW_of (g1 w hw).1 (g1 w hw).2) r2 (by have w := z2.1; rw [show Try.prog.bytesOf 43 = 136 from by kernel_rfl] at w; omega) (fun x hx => by obtain ⟨_, _, _, gc, _, _, _, _, ⟨ds, a1, _, _⟩, _, ⟨gs, a2, _, _⟩⟩ := g2 x hx; have w := z2.2 x hx; unfold W_api_Call at w; rw [show Try.prog.bytesOf 5 = 1 from by kernel_rfl, show Try.prog.bytesOf 3 = 8 from by kernel_rfl, a1.len, a2.len] at w; exact ⟨ds, gs, a1, by omega, a2, by omega, goodW_of gc.2.1 gc.2.2⟩) (K := fun r h' => r = true ∧ Keeps (heapH W) h') fun h' k => ⟨rfl, k⟩)
  refine (calls_law (walk.mono (fun v h' => fun ⟨r, e, er, k⟩ => ⟨by rw [e, er]; rfl, k⟩) fun _ _ k => k)).mono fun e W' => fun ⟨he, hb⟩ => ?_
  subst he
  exact ⟨_, rfl, post_law (tb := 4) laid (by kernel_rfl) rfl (by kernel_rfl) rfl hW' ⟨rfl, rfl, rfl⟩ hb⟩
theorem plainRuns_holds : Rows.PlainRunsSaid :=
  OpenClaim.holds_of_wide 6 Try.f6 rfl rfl rfl rfl rfl rfl rfl ⟨rfl, rfl, rfl, rfl, rfl⟩ rfl rfl rfl rfl rfl (by kernel_rfl) Try.func6 (by kernel_rfl)
    (of_decide_eq_true (by kernel_rfl)) (by unfold Func.isWrapper; rw [if_neg (by decide +kernel)]; exact ⟨rfl, rfl⟩)
    (fun os started H enc _ => plainRuns_lifted os started H enc)
end Go.Proofs.Ytbjkfllncegpcaa.K
