/- revokeRest: true at every input, the arguments as they were: no condition. Part 6 of 7. -/
import Derived.Test.YtcclfjhnpeappaaGreatZD5
namespace Go.Proofs.YtcclfjhnpeappaaGreat.K
open Go Go.Sort
abbrev BufI (h : H) (s : Sl) (d : Array Int) : Prop := Buf (cInt .i64) 1 N_int h s d.toList
structure Wrote (s : Sl) (h h' : H) : Prop where
  but : But s.foot h h'
  dom : ∀ c, h' c = none → h c = none
theorem Wrote.refl (s : Sl) (h : H) : Wrote s h h := ⟨.refl _ _, fun _ e => e⟩
theorem Wrote.trans {s : Sl} {a b c : H} (x : Wrote s a b) (y : Wrote s b c) : Wrote s a c := ⟨x.but.trans y.but fun _ f => .inl f, fun n e => x.dom n (y.dom n e)⟩
section
variable {h : H} {s : Sl} {d : Array Int}
theorem get_bang {i : Nat} (hi : i < d.size) : d.toList[i]? = some d[i]! := by
  rw [Array.getElem?_toList, getElem!_pos d i hi, Array.getElem?_eq_getElem hi]
theorem rdB (x : BufI h s d) {i i' : Nat} (hi : i < d.size) (hi' : i' < d.size) {j j' : Int} (hj : j = i) (hj' : j' = i') {k : Int → Int → H → Prop} (y : k d[i]! d[i']! h) :
    mIdx s j 1 (fun a => mIdx s j' 1 fun a' => mLoad (cInt .i64) a fun x => mLoad (cInt .i64) a' fun x' => k x x') h :=
  w_idx ci_len x.arr (get_bang hi) hj fun _ _ h1 => w_idx ci_len x.arr (get_bang hi') hj' fun _ _ h2 => w_load h1 (w_load h2 y)
theorem w_swp (x : BufI h s d) {i j : Nat} (hi : i < d.size) (hj : j < d.size) {I J : Int} (eI : I = i) (eJ : J = j) {k : H → Prop} (y : ∀ h', BufI h' s (swp d i j) → Wrote s h h' → k h') :
    mIdx s J 1 (fun a => mIdx s I 1 fun a' => mLoad (cInt .i64) a fun x => mLoad (cInt .i64) a' fun x' => mIdx s I 1 fun b => mStore b [Value.int .i64 x] <| mIdx s J 1 fun b' => mStore b' [Value.int .i64 x'] k) h := by
  refine rdB x hj hi eJ eI ?_
  refine w_put ci_len x (i := i) (by simpa using hi) eI d[j]! rfl fun h1 x1 b1 d1 => ?_
  refine w_put ci_len x1 (i := j) (by simpa using hj) eJ d[i]! rfl fun h2 x2 b2 d2 => y h2 ?_ ⟨b1.trans b2 fun _ f => .inl f, fun c e => d1 c (d2 c e)⟩
  show Buf (cInt .i64) 1 N_int h2 s (swp d i j).toList
  unfold swp
  rw [Array.toList_setIfInBounds, Array.toList_setIfInBounds]
  exact x2
theorem w_less {x y : Int} {k : Bool → H → Prop} (z : k (ltInt x y) h) : mPure (m_cmp_Less_int x y) k h := by
  refine w_pure (ltInt x y) (fun h' k' q => ?_) z
  unfold m_cmp_Less_int
  refine w_pure false (fun h'' k'' q' => ?_) (w_ifF rfl q)
  unfold m_cmp_isNaN_int
  rw [decide_eq_true rfl]; exact q'
theorem insInner_stop {a j : Nat} {d : Array Int} (h : ¬ (a < j ∧ ltInt d[j]! d[j - 1]! = true)) : insInner ltInt a j d = d := by
  cases j with
  | zero => rfl
  | succ j =>
    unfold insInner
    rw [if_neg]
    intro q
    rw [Bool.and_eq_true, decide_eq_true_eq] at q
    exact h q
theorem insInner_go {a j : Nat} {d : Array Int} (h1 : a < j) (h2 : ltInt d[j]! d[j - 1]! = true) : insInner ltInt a j d = insInner ltInt a (j - 1) (swp d j (j - 1)) := by
  cases j with
  | zero => omega
  | succ j =>
    rw [insInner, if_pos]
    · rfl
    · rw [Bool.and_eq_true, decide_eq_true_eq]; exact ⟨h1, h2⟩
theorem t_insertion {a b : Nat} (x : BufI h s d) (hb : b ≤ d.size) (hn : d.size ≤ 2 ^ 40) {K : Unit → H → Prop} (y : ∀ h', BufI h' s (insertionSort ltInt d a b) → Wrote s h h' → K () h') (ha : a ≤ b) : m_slices_insertionSortOrdered_int s (a : Int) (b : Int) K h := by
  unfold m_slices_insertionSortOrdered_int
  rw [ia1 a (by omega)]
  refine w_loop (fun z => b - z.toNat) (fun z h' => ∃ (i : Nat) (e : Array Int), z = (i : Int) ∧ a + 1 ≤ i ∧ e.size = d.size ∧ BufI h' s e ∧ insOuter ltInt a b i e = insOuter ltInt a b (a + 1) d ∧ Wrote s h h') ?_ ⟨a + 1, d, rfl, Nat.le_refl _, rfl, x, rfl, .refl _ _⟩
  rintro rec _ h1 ⟨i, e, rfl, hi, he, x1, eq1, w1⟩ more
  refine w_if' (fun c => ?_) fun c => ?_
  · have c : i < b := by omega
    refine w_loop (fun z => z.toNat) (fun z h' => ∃ (j : Nat) (e' : Array Int), z = (j : Int) ∧ j ≤ i ∧ e'.size = d.size ∧ BufI h' s e' ∧ insInner ltInt a j e' = insInner ltInt a i e ∧ Wrote s h h') ?_ ⟨i, e, rfl, Nat.le_refl _, he, x1, rfl, w1⟩
    rintro rec2 _ h2 ⟨j, e', rfl, hj, he', x2, eq2, w2⟩ more2
    refine w_joinV (decide (a < j) && ltInt e'[j]! e'[j - 1]!) (fun k hk => w_if' (fun c2 => ?_) fun c2 => ?_) ?_
    · have c2 : a < j := by omega
      refine rdB x2 (i := j) (i' := j - 1) (by omega) (by omega) rfl (is1 j (by omega) (by omega)) (w_less ?_)
      rw [decide_eq_true c2, Bool.true_and] at hk
      exact hk
    · have c2 : ¬ a < j := by omega
      rw [decide_eq_false c2, Bool.false_and] at hk
      exact hk
    · refine w_if (fun c2 => ?_) fun c2 => ?_
      · rw [Bool.and_eq_true, decide_eq_true_eq] at c2
        rw [is1 j (by omega) (by omega)]
        refine w_swp x2 (i := j) (j := j - 1) (by omega) (by omega) rfl rfl fun h3 x3 w3 => ?_
        exact more2 _ _ ⟨j - 1, _, rfl, by omega, by rw [swp_size]; exact he', x3, by rw [← insInner_go c2.1 c2.2]; exact eq2, w2.trans w3⟩ (by omega)
      · have c2 : ¬ (a < j ∧ ltInt e'[j]! e'[j - 1]! = true) := by
          intro q
          rw [q.2, decide_eq_true q.1] at c2; cases c2
        rw [ia1 i (by omega)]
        rw [insInner_stop c2] at eq2
        refine more _ _ ⟨i + 1, e', rfl, by omega, he', x2, ?_, w2⟩ (by simp only [Int.toNat_natCast]; omega)
        rw [← eq1, eq2]
        conv => rhs; rw [insOuter, if_pos c]
  · have c : ¬ i < b := by omega
    refine y h1 ?_ w1
    have : insOuter ltInt a b i e = e := by rw [insOuter, if_neg c]
    unfold insertionSort
    rw [← eq1, this]; exact x1
theorem t_sift {lo hi first : Nat} (x : BufI h s d) (hb : first + hi ≤ d.size) (hlo : lo ≤ d.size) (hn : d.size ≤ 2 ^ 40) {K : Unit → H → Prop} (y : ∀ h', BufI h' s (siftDown ltInt hi first lo d) → Wrote s h h' → K () h') : m_slices_siftDownOrdered_int s (lo : Int) (hi : Int) (first : Int) K h := by
  unfold m_slices_siftDownOrdered_int
  refine w_loop (fun z => hi - z.toNat) (fun z h' => ∃ (r : Nat) (e : Array Int), z = (r : Int) ∧ r ≤ d.size ∧ e.size = d.size ∧ BufI h' s e ∧ siftDown ltInt hi first r e = siftDown ltInt hi first lo d ∧ Wrote s h h') ?_ ⟨lo, d, rfl, hlo, rfl, x, rfl, .refl _ _⟩
  rintro rec _ h1 ⟨r, e, rfl, hr, he, x1, eq1, w1⟩ more
  rw [im2 r (by omega), ia1 (2 * r) (by omega), ia1 (2 * r + 1) (by omega)]
  rw [siftDown] at eq1
  refine w_if' (fun c => ?_) fun c => ?_
  · have c : 2 * r + 1 ≥ hi := by omega
    rw [dif_pos c] at eq1
    exact y h1 (by rw [← eq1]; exact x1) w1
  have c : ¬ 2 * r + 1 ≥ hi := by omega
  rw [dif_neg c] at eq1
  rw [ia first (2 * r + 1) (by omega), ia1 (first + (2 * r + 1)) (by omega)]
  have rest : ∀ ch : Nat, 2 * r + 1 ≤ ch → ch < hi → (if (!ltInt e[first + r]! e[first + ch]!) = true then e else siftDown ltInt hi first ch (swp e (first + r) (first + ch))) = siftDown ltInt hi first lo d →
      (mIdx s (iAdd .i64 (first : Int) (r : Int)) 1 fun ad5 => mIdx s (iAdd .i64 (first : Int) (ch : Int)) 1 fun ad6 => mLoad (cInt .i64) ad5 fun x7 => mLoad (cInt .i64) ad6 fun x8 => mPure (m_cmp_Less_int x7 x8) fun r9 =>
        mIf (!r9) (K ()) (mIdx s (iAdd .i64 (first : Int) (ch : Int)) 1 fun ad10 => mIdx s (iAdd .i64 (first : Int) (r : Int)) 1 fun ad11 => mLoad (cInt .i64) ad10 fun x12 => mLoad (cInt .i64) ad11 fun x13 =>
          mIdx s (iAdd .i64 (first : Int) (r : Int)) 1 fun ad14 => mStore ad14 [Value.int .i64 x12] <| mIdx s (iAdd .i64 (first : Int) (ch : Int)) 1 fun ad15 => mStore ad15 [Value.int .i64 x13] <| rec (ch : Int))) h1 := fun ch h1c h2c q => by
    have e1 := ia first r (by omega)
    have e2 := ia first ch (by omega)
    rw [e1, e2]
    refine rdB x1 (i := first + r) (i' := first + ch) (by omega) (by omega) rfl rfl (w_less ?_)
    refine w_if (fun c2 => ?_) fun c2 => ?_
    · rw [if_pos c2] at q
      exact y h1 (by rw [← q]; exact x1) w1
    · rw [if_neg (by rw [c2]; simp)] at q
      refine w_swp x1 (i := first + r) (j := first + ch) (by omega) (by omega) rfl rfl fun h3 x3 w3 => ?_
      exact more _ _ ⟨ch, _, rfl, by omega, by rw [swp_size]; exact he, x3, q, w1.trans w3⟩ (by simp only [Int.toNat_natCast]; omega)
  refine w_joinP (fun z h' => h1 = h' ∧ ∃ ch : Nat, z = (ch : Int) ∧ 2 * r + 1 ≤ ch ∧ ch < hi ∧ (if (!ltInt e[first + r]! e[first + ch]!) = true then e else siftDown ltInt hi first ch (swp e (first + r) (first + ch))) = siftDown ltInt hi first lo d) (fun j hj => ?_) ?_
  · refine w_joinV (decide (2 * r + 1 + 1 < hi) && ltInt e[first + (2 * r + 1)]! e[first + (2 * r + 1) + 1]!) (fun k hk => w_if' (fun c2 => ?_) fun c2 => ?_) ?_
    · have c2 : 2 * r + 1 + 1 < hi := by omega
      refine rdB x1 (i := first + (2 * r + 1)) (i' := first + (2 * r + 1) + 1) (by omega) (by omega) rfl rfl (w_less ?_)
      rw [decide_eq_true c2, Bool.true_and] at hk
      exact hk
    · have c2 : ¬ 2 * r + 1 + 1 < hi := by omega
      rw [decide_eq_false c2, Bool.false_and] at hk
      exact hk
    · refine w_if (fun c2 => ?_) fun c2 => ?_
      · rw [if_pos c2] at eq1
        rw [Bool.and_eq_true, decide_eq_true_eq] at c2
        rw [dif_pos (show 2 * r + 2 < hi from c2.1)] at eq1
        exact hj _ _ ⟨rfl, 2 * r + 2, rfl, by omega, c2.1, eq1⟩
      · rw [if_neg (by rw [c2]; simp)] at eq1
        exact hj _ _ ⟨rfl, 2 * r + 1, rfl, by omega, by omega, eq1⟩
  · rintro _ _ ⟨rfl, ch, rfl, h1c, h2c, q⟩
    exact rest ch h1c h2c q
end
section
variable {h : H} {s : Sl} {d : Array Int}
theorem sift_size (hi first : Nat) : ∀ (m r : Nat) (e : Array Int), hi - r ≤ m → (siftDown ltInt hi first r e).size = e.size := by
  intro m
  induction m with
  | zero => intro r e hm; rw [siftDown, dif_pos (by omega)]
  | succ m ih =>
    intro r e hm
    rw [siftDown]
    by_cases c : 2 * r + 1 ≥ hi
    · rw [dif_pos c]
    rw [dif_neg c]
    split
    · split
      · rfl
      · split
        · rw [ih _ _ (by omega), swp_size]
        · rfl
    · split
      · rfl
      · rw [ih _ _ (by omega), swp_size]
theorem t_heapSort {a b : Nat} (x : BufI h s d) (hab : a ≤ b) (hb : b ≤ d.size) (hn : d.size ≤ 2 ^ 40) {K : Unit → H → Prop} (y : ∀ h', BufI h' s (heapSort ltInt d a b) → Wrote s h h' → K () h') : m_slices_heapSortOrdered_int s (a : Int) (b : Int) K h := by
  unfold m_slices_heapSortOrdered_int
  rw [is_ b a (by omega) hab]
  have e0 : iQuo .i64 (iSub .i64 ((b - a : Nat) : Int) 1) 2 = (((b - a - 1) / 2 + 1 : Nat) : Int) - 1 := by
    rw [iSub_eq (by omega) (by omega)]
    rcases Nat.eq_zero_or_pos (b - a) with q | q
    · rw [q]; rfl
    · rw [show ((b - a : Nat) : Int) - 1 = ((b - a - 1 : Nat) : Int) from by omega]
      refine (iq (b - a - 1) 2 (by omega)).trans ?_
      omega
  rw [e0]
  refine w_loop (fun z => (z + 1).toNat) (fun z h' => ∃ (k : Nat) (e : Array Int), z = (k : Int) - 1 ∧ k ≤ b - a + 1 ∧ e.size = d.size ∧ BufI h' s e ∧ heapBuild ltInt (b - a) a k e = heapBuild ltInt (b - a) a ((b - a - 1) / 2 + 1) d ∧ Wrote s h h') ?_ ⟨_, d, rfl, by omega, rfl, x, rfl, .refl _ _⟩
  rintro rec _ h1 ⟨k, e, rfl, hk, he, x1, eq1, w1⟩ more
  refine w_if' (fun c => ?_) fun c => ?_
  · obtain ⟨k, rfl⟩ : ∃ q, k = q + 1 := ⟨k - 1, by omega⟩
    rw [show ((k + 1 : Nat) : Int) - 1 = (k : Int) from by omega]
    refine t_sift x1 (by omega) (by omega) (by omega) fun h2 x2 w2 => ?_
    refine more _ _ ⟨k, _, by rw [iSub_eq (by omega) (by omega)], by omega, ?_, x2, ?_, w1.trans w2⟩ ?_
    · rw [sift_size _ _ _ _ _ (Nat.le_refl _)]; exact he
    · rw [← eq1]; rfl
    · rw [iSub_eq (by omega) (by omega)]; omega
  have hk0 : k = 0 := by omega
  subst hk0
  rw [show heapBuild ltInt (b - a) a 0 e = e from rfl] at eq1
  clear more rec c hk
  rw [iSub_eq (by omega) (by omega)]
  refine w_loop (fun z => (z + 1).toNat) (fun z h' => ∃ (k : Nat) (e' : Array Int), z = (k : Int) - 1 ∧ k ≤ b - a ∧ e'.size = d.size ∧ BufI h' s e' ∧ heapPop ltInt a k e' = heapPop ltInt a (b - a) e ∧ Wrote s h h') ?_ ⟨_, e, rfl, Nat.le_refl _, he, x1, rfl, w1⟩
  rintro rec _ h2 ⟨k, e', rfl, hk, he', x2, eq2, w2⟩ more
  refine w_if' (fun c => ?_) fun c => ?_
  · obtain ⟨k, rfl⟩ : ∃ q, k = q + 1 := ⟨k - 1, by omega⟩
    rw [show ((k + 1 : Nat) : Int) - 1 = (k : Int) from by omega]
    have ek := ia a k (by omega)
    rw [ek]
    refine w_swp x2 (i := a) (j := a + k) (by omega) (by omega) rfl rfl fun h3 x3 w3 => ?_
    refine t_sift (lo := 0) x3 (by rw [swp_size]; omega) (Nat.zero_le _) (by rw [swp_size]; omega) fun h4 x4 w4 => ?_
    refine more _ _ ⟨k, _, by rw [iSub_eq (by omega) (by omega)], by omega, ?_, x4, ?_, (w2.trans w3).trans w4⟩ ?_
    · rw [sift_size _ _ _ _ _ (Nat.le_refl _), swp_size]; exact he'
    · rw [← eq2]; rfl
    · rw [iSub_eq (by omega) (by omega)]; omega
  · have hk0 : k = 0 := by omega
    subst hk0
    refine y h2 ?_ w2
    unfold heapSort
    rw [← eq1, ← eq2]; exact x2
theorem t_reverse {a b : Nat} (x : BufI h s d) (hab : a < b) (hb : b ≤ d.size) (hn : d.size ≤ 2 ^ 40) {K : Unit → H → Prop} (y : ∀ h', BufI h' s (reverseRange d a b) → Wrote s h h' → K () h') : m_slices_reverseRangeOrdered_int s (a : Int) (b : Int) K h := by
  unfold m_slices_reverseRangeOrdered_int
  rw [is1 b (by omega) (by omega)]
  refine w_loop (fun z => (z.2 - z.1).toNat) (fun z h' => ∃ (i j : Nat) (e : Array Int), z = ((i : Int), (j : Int)) ∧ i < d.size ∧ j < d.size ∧ e.size = d.size ∧ BufI h' s e ∧ reverseLoop i j e = reverseLoop a (b - 1) d ∧ Wrote s h h') ?_ ⟨a, b - 1, d, rfl, by omega, by omega, rfl, x, rfl, .refl _ _⟩
  rintro rec _ h1 ⟨i, j, e, rfl, hi, hj, he, x1, eq1, w1⟩ more
  rw [reverseLoop] at eq1
  refine w_if' (fun c => ?_) fun c => ?_
  · have c : i < j := by have c : (i : Int) < (j : Int) := c; omega
    rw [if_pos c] at eq1
    refine w_swp x1 (i := i) (j := j) (by omega) (by omega) rfl rfl fun h2 x2 w2 => ?_
    show rec (iAdd .i64 (i : Int) 1, iSub .i64 (j : Int) 1) h2
    rw [ia1 i (by omega), is1 j (by omega) (by omega)]
    exact more _ _ ⟨i + 1, j - 1, _, rfl, by omega, by omega, by rw [swp_size]; exact he, x2, eq1, w1.trans w2⟩ (by show ((j - 1 : Nat) - (i + 1 : Nat) : Int).toNat < ((j : Int) - (i : Int)).toNat; omega)
  · have c : ¬ i < j := by have c : ¬ (i : Int) < (j : Int) := c; omega
    rw [if_neg c] at eq1
    refine y h1 ?_ w1
    unfold reverseRange
    rw [← eq1]; exact x1
def Cell1 (c0 : Nat) (h : H) : Prop := ∃ v : Int, h c0 = some (.cells #[Value.int .i64 v] N_int (0, 0))
theorem t_order2 {i j c0 : Nat} (x : BufI h s d) (hi : i < d.size) (hj : j < d.size) (hc : Cell1 c0 h) (nf : ¬ s.foot c0) {K : Int × Int → H → Prop}
    (y : ∀ p q h', (p = i ∧ q = j ∨ p = j ∧ q = i) → BufI h' s d → Cell1 c0 h' → But (· = c0) h h' → (∀ c, h' c = none → h c = none) → K ((p : Nat), (q : Nat)) h') : m_slices_order2Ordered_int s (i : Int) (j : Int) (some ⟨c0, 0, none⟩) K h := by
  unfold m_slices_order2Ordered_int
  obtain ⟨v, hv⟩ := hc
  refine rdB x hj hi rfl rfl (w_less (w_if (fun _ => ?_) fun _ => y i j h (.inl ⟨rfl, rfl⟩) x ⟨v, hv⟩ (.refl _ _) fun _ e => e))
  refine w_deref (w_load (At.own (l1 := []) (l2 := cInt .i64 v) (l3 := []) hv rfl) (w_deref (w_store (l1 := []) (l2 := cInt .i64 v) (l3 := []) rfl hv rfl rfl ?_)))
  exact y j i _ (.inr ⟨rfl, rfl⟩) (x.but (But.upd (F := (· = c0)) rfl) fun a ha e => nf ⟨a, ha, e⟩) ⟨_, upd_same _ _ _⟩ (But.upd rfl) fun c e => (upd_none.1 e).2
theorem t_median {i j k c0 : Nat} (x : BufI h s d) (hi : i < d.size) (hj : j < d.size) (hk : k < d.size) (hc : Cell1 c0 h) (nf : ¬ s.foot c0) {K : Int → H → Prop}
    (y : ∀ p h', (p = i ∨ p = j ∨ p = k) → BufI h' s d → Cell1 c0 h' → But (· = c0) h h' → (∀ c, h' c = none → h c = none) → K (p : Nat) h') : m_slices_medianOrdered_int s (i : Int) (j : Int) (k : Int) (some ⟨c0, 0, none⟩) K h := by
  unfold m_slices_medianOrdered_int
  refine t_order2 x hi hj hc nf fun p1 q1 h1 e1 x1 c1 b1 d1 => ?_
  refine t_order2 (i := q1) (j := k) x1 (by rcases e1 with ⟨rfl, rfl⟩ | ⟨rfl, rfl⟩ <;> assumption) hk c1 nf fun p2 q2 h2 e2 x2 c2 b2 d2 => ?_
  have hp2 : p2 < d.size := by rcases e1 with ⟨rfl, rfl⟩ | ⟨rfl, rfl⟩ <;> rcases e2 with ⟨rfl, rfl⟩ | ⟨rfl, rfl⟩ <;> assumption
  refine t_order2 (i := p1) (j := p2) x2 (by rcases e1 with ⟨rfl, rfl⟩ | ⟨rfl, rfl⟩ <;> assumption) hp2 c2 nf fun p3 q3 h3 e3 x3 c3 b3 d3 => ?_
  refine y q3 h3 ?_ x3 c3 ((b1.trans b2 fun _ f => .inl f).trans b3 fun _ f => .inl f) fun c e => d1 c (d2 c (d3 c e))
  rcases e1 with ⟨rfl, rfl⟩ | ⟨rfl, rfl⟩ <;> rcases e2 with ⟨rfl, rfl⟩ | ⟨rfl, rfl⟩ <;> rcases e3 with ⟨rfl, rfl⟩ | ⟨rfl, rfl⟩ <;> simp
theorem t_medianA {i c0 : Nat} (x : BufI h s d) (h1 : 1 ≤ i) (hi : i + 1 < d.size) (hn : d.size ≤ 2 ^ 40) (hc : Cell1 c0 h) (nf : ¬ s.foot c0) {K : Int → H → Prop}
    (y : ∀ p h', (i ≤ p + 1 ∧ p ≤ i + 1) → BufI h' s d → Cell1 c0 h' → But (· = c0) h h' → (∀ c, h' c = none → h c = none) → K (p : Nat) h') : m_slices_medianAdjacentOrdered_int s (i : Int) (some ⟨c0, 0, none⟩) K h := by
  unfold m_slices_medianAdjacentOrdered_int
  rw [is1 i (by omega) h1, ia1 i (by omega)]
  exact t_median x (by omega) (by omega) hi hc nf fun p h' e => y p h' (by omega)
theorem w_newQ {t : TypeId} {c : Array Value} {k : Addr → H → Prop} (Q : Nat → H → Prop) (hq : ∀ b, h b = none → Q b (upd h b (.cells c t (0, 0)))) (x : ∀ b h0, h b = none → Q b h0 → k ⟨b, 0, none⟩ h0) : mNew t c k h := fun b hb => x b _ hb (hq b hb)
theorem t_choosePivot {a b : Nat} (x : BufI h s d) (hab : a < b) (hb : b ≤ d.size) (hn : d.size ≤ 2 ^ 40) {K : Int × Int → H → Prop}
    (y : ∀ (p : Nat) (t : Int) h', a ≤ p → p < b → BufI h' s d → Keeps h h' → K ((p : Int), t) h') : m_slices_choosePivotOrdered_int s (a : Int) (b : Int) K h := by
  unfold m_slices_choosePivotOrdered_int
  refine w_newQ (fun c0 h0 => Cell1 c0 h0 ∧ Keeps h h0) (fun c0 hc0 => ⟨⟨0, upd_same _ _ _⟩, .new hc0⟩) fun c0 h0 hc0 ⟨cl0, k0⟩ => ?_
  have nf : ¬ s.foot c0 := fun f => by
    obtain ⟨A, hA, e⟩ := f
    rcases x.at_ with ⟨q, _⟩ | ⟨B, z, fz, q, hB, _⟩
    · rw [q] at hA; cases hA
    · rw [q] at hA; cases hA; subst e; rw [hc0] at hB; cases hB
  have x0 : BufI h0 s d := x.keep k0
  have kk : ∀ h', But (· = c0) h0 h' → Keeps h h' := fun h' q => k0.but q fun n e => by subst e; exact hc0
  have e8 : iSub .i64 (b : Int) (a : Int) = ((b - a : Nat) : Int) := is_ b a (by omega) (by omega)
  have q4 : (b - a) / 4 ≤ b - a := Nat.div_le_self _ _
  have e4 : iQuo .i64 ((b - a : Nat) : Int) 4 = (((b - a) / 4 : Nat) : Int) := iq (b - a) 4 (by omega)
  generalize hq : (b - a) / 4 = q at q4 e4
  have m1 : iMul .i64 (q : Int) 1 = ((q : Nat) : Int) := (i64_eq (x := (q : Int) * 1) (by omega) (by omega)).trans (by omega)
  have m2 : iMul .i64 (q : Int) 2 = ((q * 2 : Nat) : Int) := (i64_eq (x := (q : Int) * 2) (by omega) (by omega)).trans (by omega)
  have m3 : iMul .i64 (q : Int) 3 = ((q * 3 : Nat) : Int) := (i64_eq (x := (q : Int) * 3) (by omega) (by omega)).trans (by omega)
  rw [e8, e4, m1, m2, m3, ia a q (by omega), ia a (q * 2) (by omega), ia a (q * 3) (by omega)]
  refine w_joinP (fun z h' => ∃ p : Nat, z = (p : Int) ∧ a ≤ p ∧ p < b ∧ BufI h' s d ∧ Cell1 c0 h' ∧ But (· = c0) h0 h') (fun j hj => ?_) ?_
  · refine w_if' (fun c => ?_) fun c => ?_
    · have c : 8 ≤ b - a := by omega
      refine w_joinP (fun z h' => ∃ p1 p2 p3 : Nat, z = ((p1 : Int), (p2 : Int), (p3 : Int)) ∧ (a ≤ p1 ∧ p1 < b) ∧ (a ≤ p2 ∧ p2 < b) ∧ (a ≤ p3 ∧ p3 < b) ∧ BufI h' s d ∧ Cell1 c0 h' ∧ But (· = c0) h0 h') (fun j2 hj2 => ?_) ?_
      · refine w_if' (fun c2 => ?_) fun c2 => ?_
        · have c2 : 50 ≤ b - a := by omega
          refine t_medianA x0 (i := a + q) (by omega) (by omega) hn cl0 nf fun p1 h1 r1 x1 cl1 b1 _ => ?_
          refine t_medianA x1 (i := a + q * 2) (by omega) (by omega) hn cl1 nf fun p2 h2 r2 x2 cl2 b2 _ => ?_
          refine t_medianA x2 (i := a + q * 3) (by omega) (by omega) hn cl2 nf fun p3 h3 r3 x3 cl3 b3 _ => ?_
          exact hj2 _ _ ⟨p1, p2, p3, rfl, by omega, by omega, by omega, x3, cl3, (b1.trans b2 fun _ f => .inl f).trans b3 fun _ f => .inl f⟩
        · exact hj2 _ _ ⟨a + q, a + q * 2, a + q * 3, rfl, by omega, by omega, by omega, x0, cl0, .refl _ _⟩
      · rintro _ h1 ⟨p1, p2, p3, rfl, r1, r2, r3, x1, cl1, b1⟩
        refine t_median x1 (i := p1) (j := p2) (k := p3) (by omega) (by omega) (by omega) cl1 nf fun p h2 e2 x2 cl2 b2 _ => ?_
        exact hj _ _ ⟨p, rfl, by omega, by omega, x2, cl2, b1.trans b2 fun _ f => .inl f⟩
    · have c : ¬ 8 ≤ b - a := by omega
      exact hj _ _ ⟨a + q * 2, rfl, by omega, by omega, x0, cl0, .refl _ _⟩
  · rintro _ h1 ⟨p, rfl, r1, r2, x1, ⟨v, hv⟩, b1⟩
    refine w_load (At.own (l1 := []) (l2 := cInt .i64 v) (l3 := []) hv rfl) ?_
    have fin : ∀ t : Int, K ((p : Int), t) h1 := fun t => y p t h1 r1 r2 x1 (kk h1 b1)
    exact w_if (fun _ => fin 1) fun _ => w_if (fun _ => fin 2) fun _ => fin 0
end
section
variable {h : H} {s : Sl} {d : Array Int}
theorem shiftDown_go {j : Nat} {d : Array Int} (h1 : 1 ≤ j) (h2 : ltInt d[j]! d[j - 1]! = true) : shiftDown ltInt j d = shiftDown ltInt (j - 1) (swp d j (j - 1)) := by
  cases j with
  | zero => omega
  | succ j =>
    rw [shiftDown, if_neg]
    · rfl
    · have h2 : ltInt d[j + 1]! d[j]! = true := h2
      rw [h2]; simp
theorem shiftDown_stop {j : Nat} {d : Array Int} (h2 : j = 0 ∨ ltInt d[j]! d[j - 1]! = false) : shiftDown ltInt j d = d := by
  cases j with
  | zero => rfl
  | succ j =>
    rw [shiftDown, if_pos]
    rcases h2 with q | q
    · omega
    · have q : ltInt d[j + 1]! d[j]! = false := q
      rw [q]; rfl
theorem t_partialIns {a b : Nat} (x : BufI h s d) (hab : a < b) (hb : b ≤ d.size) (hn : d.size ≤ 2 ^ 40) {K : Bool → H → Prop} (y : ∀ h', BufI h' s (partialInsertionSort ltInt d a b).1 → Wrote s h h' → K (partialInsertionSort ltInt d a b).2 h') : m_slices_partialInsertionSortOrdered_int s (a : Int) (b : Int) K h := by
  unfold m_slices_partialInsertionSortOrdered_int
  rw [ia1 a (by omega), is_ b a (by omega) (by omega)]
  unfold partialInsertionSort at y
  refine w_loop (fun z => 5 - z.2.toNat) (fun z h' => ∃ (i t : Nat) (e : Array Int), z = ((i : Int), ((5 - t : Nat) : Int)) ∧ t ≤ 5 ∧ a < i ∧ i ≤ b ∧ e.size = d.size ∧ BufI h' s e ∧ partialIns ltInt a b t i e = partialIns ltInt a b 5 (a + 1) d ∧ Wrote s h h') ?_ ⟨a + 1, 5, d, rfl, Nat.le_refl _, by omega, hab, rfl, x, rfl, .refl _ _⟩
  rintro rec _ h1 ⟨i, t, e, rfl, ht, hai, hib, he, x1, eq1, w1⟩ more
  refine w_if' (fun c => ?_) fun c => ?_
  · have c : ((5 - t : Nat) : Int) < 5 := c
    obtain ⟨t, rfl⟩ : ∃ q, t = q + 1 := ⟨t - 1, by omega⟩
    rw [partialIns_succ] at eq1
    refine w_loop (fun z => b - z.toNat) (fun z h' => h1 = h' ∧ ∃ i' : Nat, z = (i' : Int) ∧ a < i' ∧ i' ≤ b ∧ scanSorted ltInt e b i' = scanSorted ltInt e b i) ?_ ⟨rfl, i, rfl, hai, hib, rfl⟩
    rintro rec2 _ _ ⟨rfl, k, rfl, hak, hkb, eqs⟩ more2
    refine w_joinV (decide (k < b) && !ltInt e[k]! e[k - 1]!) (fun j hj => w_if' (fun c2 => ?_) fun c2 => ?_) ?_
    · have c2 : k < b := by omega
      refine rdB x1 (i := k) (i' := k - 1) (by omega) (by omega) rfl (is1 k (by omega) (by omega)) (w_less ?_)
      rw [decide_eq_true c2, Bool.true_and] at hj
      exact hj
    · have c2 : ¬ k < b := by omega
      rw [decide_eq_false c2, Bool.false_and] at hj
      exact hj
    · rw [scanSorted] at eqs
      refine w_if (fun c2 => ?_) fun c2 => ?_
      · rw [if_pos c2] at eqs
        rw [Bool.and_eq_true, decide_eq_true_eq] at c2
        rw [ia1 k (by omega)]
        exact more2 _ _ ⟨rfl, k + 1, rfl, by omega, by omega, eqs⟩ (by simp only [Int.toNat_natCast]; omega)
      · rw [if_neg (by rw [c2]; simp)] at eqs
        rw [← eqs] at eq1
        clear more2 rec2 c2 eqs
        refine w_if' (fun c3 => ?_) fun c3 => ?_
        · have c3 : k = b := by omega
          rw [if_pos c3] at eq1
          rw [← eq1] at y
          exact y h1 x1 w1
        have c3 : ¬ k = b := by omega
        rw [if_neg c3] at eq1
        refine w_if' (fun c4 => ?_) fun c4 => ?_
        · have c4 : b - a < 50 := by omega
          rw [if_pos c4] at eq1
          rw [← eq1] at y
          exact y h1 x1 w1
        have c4 : ¬ b - a < 50 := by omega
        rw [if_neg c4] at eq1
        rw [is1 k (by omega) (by omega)]
        refine w_swp x1 (i := k) (j := k - 1) (by omega) (by omega) rfl rfl fun h2 x2 w2 => ?_
        have he2 : (swp e k (k - 1)).size = d.size := by rw [swp_size]; exact he
        have w12 := w1.trans w2
        generalize swp e k (k - 1) = e2 at eq1 x2 he2
        clear x1 w1 w2
        rw [is_ b k (by omega) hkb, is_ k a (by omega) (by omega), ia1 k (by omega)]
        have fin : ∀ (e3 : Array Int) (h3 : H), e3.size = d.size → BufI h3 s e3 → Wrote s h h3 → partialIns ltInt a b t k e3 = partialIns ltInt a b 5 (a + 1) d → rec ((k : Int), iAdd .i64 ((5 - (t + 1) : Nat) : Int) 1) h3 := fun e3 h3 z1 z2 z3 z4 => by
          have e5 : iAdd .i64 ((5 - (t + 1) : Nat) : Int) 1 = ((5 - t : Nat) : Int) := by rw [iAdd_eq (by omega) (by omega)]; omega
          rw [e5]
          exact more _ _ ⟨k, t, e3, rfl, by omega, hak, hkb, z1, z2, z4, z3⟩ (by show 5 - ((5 - t : Nat) : Int).toNat < 5 - ((5 - (t + 1) : Nat) : Int).toNat; omega)
        refine w_joinP (fun _ h' => ∃ e3 : Array Int, e3.size = d.size ∧ BufI h' s e3 ∧ fixDown ltInt a k e2 = e3 ∧ Wrote s h h') (fun j hj => ?_) ?_
        · unfold fixDown at hj
          refine w_if' (fun c5 => ?_) fun c5 => ?_
          · have c5 : k - a ≥ 2 := by omega
            simp only [if_pos c5] at hj
            refine w_loop (fun z => z.toNat) (fun z h' => ∃ (q : Nat) (e3 : Array Int), z = (q : Int) ∧ q < d.size ∧ e3.size = d.size ∧ BufI h' s e3 ∧ shiftDown ltInt q e3 = shiftDown ltInt (k - 1) e2 ∧ Wrote s h h') ?_ ⟨k - 1, e2, rfl, by omega, he2, x2, rfl, w12⟩
            rintro rec3 _ h3 ⟨q, e3, rfl, hq, he3, x3, eq3, w3⟩ more3
            refine w_if' (fun c6 => ?_) fun c6 => ?_
            · have c6 : 1 ≤ q := by omega
              rw [is1 q (by omega) (by omega)]
              refine rdB x3 (i := q) (i' := q - 1) (by omega) (by omega) rfl rfl (w_less (w_if (fun c7 => ?_) fun c7 => ?_))
              · rw [Bool.not_eq_true'] at c7
                rw [shiftDown_stop (.inr c7)] at eq3
                exact hj () h3 ⟨e3, he3, x3, eq3.symm, w3⟩
              · rw [Bool.not_eq_false'] at c7
                rw [shiftDown_go c6 c7] at eq3
                refine w_swp x3 (i := q) (j := q - 1) (by omega) (by omega) rfl rfl fun h4 x4 w4 => ?_
                exact more3 _ _ ⟨q - 1, _, rfl, by omega, by rw [swp_size]; exact he3, x4, eq3, w3.trans w4⟩ (by omega)
            · have c6 : q = 0 := by omega
              rw [shiftDown_stop (.inl c6)] at eq3
              exact hj () h3 ⟨e3, he3, x3, eq3.symm, w3⟩
          · have c5 : ¬ k - a ≥ 2 := by omega
            simp only [if_neg c5] at hj
            exact hj () h2 ⟨e2, he2, x2, rfl, w12⟩
        · rintro _ h3 ⟨e3, he3, x3, eq3, w3⟩
          rw [eq3] at eq1
          unfold fixUp at eq1
          refine w_if' (fun c5 => ?_) fun c5 => ?_
          · have c5 : b - k ≥ 2 := by omega
            rw [if_pos c5] at eq1
            refine w_loop (fun z => b - z.toNat) (fun z h' => ∃ (q : Nat) (e4 : Array Int), z = (q : Int) ∧ k < q ∧ q ≤ b ∧ e4.size = d.size ∧ BufI h' s e4 ∧ shiftUp ltInt b q e4 = shiftUp ltInt b (k + 1) e3 ∧ Wrote s h h') ?_ ⟨k + 1, e3, rfl, by omega, by omega, he3, x3, rfl, w3⟩
            rintro rec3 _ h4 ⟨q, e4, rfl, hkq, hq, he4, x4, eq4, w4⟩ more3
            rw [shiftUp] at eq4
            refine w_if' (fun c6 => ?_) fun c6 => ?_
            · have c6 : q < b := by omega
              rw [if_pos c6] at eq4
              rw [is1 q (by omega) (by omega)]
              refine rdB x4 (i := q) (i' := q - 1) (by omega) (by omega) rfl rfl (w_less (w_if (fun c7 => ?_) fun c7 => ?_))
              · rw [if_pos c7] at eq4
                exact fin e4 h4 he4 x4 w4 (by rw [eq4]; exact eq1)
              · rw [if_neg (by rw [c7]; simp)] at eq4
                refine w_swp x4 (i := q) (j := q - 1) (by omega) (by omega) rfl rfl fun h5 x5 w5 => ?_
                rw [ia1 q (by omega)]
                exact more3 _ _ ⟨q + 1, _, rfl, by omega, by omega, by rw [swp_size]; exact he4, x5, eq4, w4.trans w5⟩ (by simp only [Int.toNat_natCast]; omega)
            · have c6 : ¬ q < b := by omega
              rw [if_neg c6] at eq4
              exact fin e4 h4 he4 x4 w4 (by rw [eq4]; exact eq1)
          · have c5 : ¬ b - k ≥ 2 := by omega
            rw [if_neg c5] at eq1
            exact fin e3 h3 he3 x3 w3 eq1
  · have c : ¬ ((5 - t : Nat) : Int) < 5 := c
    have ht0 : t = 0 := by omega
    subst ht0
    rw [show partialIns ltInt a b 0 i e = (e, false) from rfl] at eq1
    rw [← eq1] at y
    exact y h1 x1 w1
theorem scanDown_go {p : Int → Bool} {d : Array Int} {i j : Nat} (h0 : 1 ≤ i) (h : i ≤ j) (hp : p d[j]! = true) : scanDown p d i j = scanDown p d i (j - 1) := by
  cases j with
  | zero => omega
  | succ j =>
    rw [scanDown, if_pos]
    · rfl
    · rw [Bool.and_eq_true, decide_eq_true_eq]; exact ⟨h, hp⟩
theorem scanDown_stop {p : Int → Bool} {d : Array Int} {i j : Nat} (h : ¬ (i ≤ j ∧ p d[j]! = true)) : scanDown p d i j = j := by
  cases j with
  | zero => rfl
  | succ j =>
    rw [scanDown, if_neg]
    intro q
    rw [Bool.and_eq_true, decide_eq_true_eq] at q
    exact h q
theorem t_partEq {a b p : Nat} (x : BufI h s d) (hap : a ≤ p) (hpb : p < b) (hb : b ≤ d.size) (hn : d.size ≤ 2 ^ 40) {K : Int → H → Prop} (y : ∀ h', BufI h' s (partitionEqual ltInt d a b p).2 → Wrote s h h' → K (((partitionEqual ltInt d a b p).1 : Nat) : Int) h') : m_slices_partitionEqualOrdered_int s (a : Int) (b : Int) (p : Int) K h := by
  unfold m_slices_partitionEqualOrdered_int
  unfold partitionEqual at y
  refine w_swp x (i := a) (j := p) (by omega) (by omega) rfl rfl fun h0 x0 w0 => ?_
  have hs0 : (swp d a p).size = d.size := swp_size _ _ _
  generalize swp d a p = d0 at x0 y hs0
  rw [ia1 a (by omega), is1 b (by omega) (by omega)]
  refine w_loop (fun z => (z.2 + 1 - z.1).toNat) (fun z h' => ∃ (i j : Nat) (e : Array Int), z = ((i : Int), (j : Int)) ∧ a < i ∧ i ≤ j + 2 ∧ j < b ∧ e.size = d.size ∧ BufI h' s e ∧ partEqLoop ltInt a i j e = partEqLoop ltInt a (a + 1) (b - 1) d0 ∧ Wrote s h h') ?_ ⟨a + 1, b - 1, d0, rfl, by omega, by omega, by omega, hs0, x0, rfl, w0⟩
  rintro rec _ h1 ⟨i, j, e, rfl, hi, hij, hj, he, x1, eq1, w1⟩ more
  refine w_loop (fun z => j + 1 - z.toNat) (fun z h' => h1 = h' ∧ ∃ i' : Nat, z = (i' : Int) ∧ i ≤ i' ∧ i' ≤ max i (j + 1) ∧ scanUp (fun x => !ltInt e[a]! x) e j i' = scanUp (fun x => !ltInt e[a]! x) e j i) ?_ ⟨rfl, i, rfl, Nat.le_refl _, Nat.le_max_left _ _, rfl⟩
  rintro rec2 _ _ ⟨rfl, k, rfl, hik, hkj, eqs⟩ more2
  refine w_joinV (decide (k ≤ j) && !ltInt e[a]! e[k]!) (fun c hc => w_if' (fun c2 => ?_) fun c2 => ?_) ?_
  · have c2 : (k : Int) ≤ (j : Int) := c2
    have c2 : k ≤ j := by omega
    refine rdB x1 (i := a) (i' := k) (by omega) (by omega) rfl rfl (w_less ?_)
    rw [decide_eq_true c2, Bool.true_and] at hc
    exact hc
  · have c2 : ¬ (k : Int) ≤ (j : Int) := c2
    have c2 : ¬ k ≤ j := by omega
    rw [decide_eq_false c2, Bool.false_and] at hc
    exact hc
  rw [scanUp] at eqs
  refine w_if (fun c2 => ?_) fun c2 => ?_
  · rw [if_pos c2] at eqs
    rw [Bool.and_eq_true, decide_eq_true_eq] at c2
    rw [ia1 k (by omega)]
    exact more2 _ _ ⟨rfl, k + 1, rfl, by omega, by omega, eqs⟩ (by simp only [Int.toNat_natCast]; omega)
  rw [if_neg (by rw [c2]; simp)] at eqs
  clear more2 rec2 c2
  rw [partEqLoop, ← eqs] at eq1
  refine w_loop (fun z => z.toNat) (fun z h' => h1 = h' ∧ ∃ j' : Nat, z = (j' : Int) ∧ j' ≤ j ∧ min j (k - 1) ≤ j' ∧ scanDown (fun x => ltInt e[a]! x) e k j' = scanDown (fun x => ltInt e[a]! x) e k j) ?_ ⟨rfl, j, rfl, Nat.le_refl _, Nat.min_le_left _ _, rfl⟩
  rintro rec3 _ _ ⟨rfl, l, rfl, hlj, hlk, eqd⟩ more3
  refine w_joinV (decide (k ≤ l) && ltInt e[a]! e[l]!) (fun c hc => w_if' (fun c2 => ?_) fun c2 => ?_) ?_
  · have c2 : k ≤ l := by omega
    refine rdB x1 (i := a) (i' := l) (by omega) (by omega) rfl rfl (w_less ?_)
    rw [decide_eq_true c2, Bool.true_and] at hc
    exact hc
  · have c2 : ¬ k ≤ l := by omega
    rw [decide_eq_false c2, Bool.false_and] at hc
    exact hc
  refine w_if (fun c2 => ?_) fun c2 => ?_
  · rw [Bool.and_eq_true, decide_eq_true_eq] at c2
    rw [scanDown_go (by omega) c2.1 c2.2] at eqd
    rw [is1 l (by omega) (by omega)]
    exact more3 _ _ ⟨rfl, l - 1, rfl, by omega, by omega, eqd⟩ (by omega)
  have c2 : ¬ (k ≤ l ∧ ltInt e[a]! e[l]! = true) := fun q => by rw [q.2, decide_eq_true q.1] at c2; cases c2
  rw [scanDown_stop c2] at eqd
  rw [← eqd] at eq1
  clear more3 rec3
  refine w_if' (fun c3 => ?_) fun c3 => ?_
  · have c3 : k > l := by omega
    rw [if_pos c3] at eq1
    rw [← eq1] at y
    exact y h1 x1 w1
  have c3 : ¬ k > l := by omega
  rw [if_neg c3, dif_pos (by omega)] at eq1
  refine w_swp x1 (i := k) (j := l) (by omega) (by omega) rfl rfl fun h2 x2 w2 => ?_
  rw [ia1 k (by omega), is1 l (by omega) (by omega)]
  exact more _ _ ⟨k + 1, l - 1, _, rfl, by omega, by omega, by omega, by rw [swp_size]; exact he, x2, eq1, w1.trans w2⟩ (by show (((l - 1 : Nat) : Int) + 1 - ((k + 1 : Nat) : Int)).toNat < ((j : Int) + 1 - (i : Int)).toNat; omega)
end
section
variable {h : H} {s : Sl} {d : Array Int}
theorem t_partition {a b p : Nat} (x : BufI h s d) (hap : a ≤ p) (hpb : p < b) (hb : b ≤ d.size) (hn : d.size ≤ 2 ^ 40) {K : Int × Bool → H → Prop}
    (y : ∀ h', BufI h' s (partition ltInt d a b p).2.2 → Wrote s h h' → K ((((partition ltInt d a b p).1 : Nat) : Int), (partition ltInt d a b p).2.1) h') : m_slices_partitionOrdered_int s (a : Int) (b : Int) (p : Int) K h := by
  unfold m_slices_partitionOrdered_int
  refine w_swp x (i := a) (j := p) (by omega) (by omega) rfl rfl fun h0 x0 w0 => ?_
  have hs0 : (swp d a p).size = d.size := swp_size _ _ _
  have hP : partition ltInt d a b p = (if scanUp (fun x => ltInt x (swp d a p)[a]!) (swp d a p) (b - 1) (a + 1) > scanDown (fun x => !ltInt x (swp d a p)[a]!) (swp d a p) (scanUp (fun x => ltInt x (swp d a p)[a]!) (swp d a p) (b - 1) (a + 1)) (b - 1) then
      (scanDown (fun x => !ltInt x (swp d a p)[a]!) (swp d a p) (scanUp (fun x => ltInt x (swp d a p)[a]!) (swp d a p) (b - 1) (a + 1)) (b - 1), true, swp (swp d a p) (scanDown (fun x => !ltInt x (swp d a p)[a]!) (swp d a p) (scanUp (fun x => ltInt x (swp d a p)[a]!) (swp d a p) (b - 1) (a + 1)) (b - 1)) a) else
      ((partLoop ltInt a (scanUp (fun x => ltInt x (swp d a p)[a]!) (swp d a p) (b - 1) (a + 1) + 1) (scanDown (fun x => !ltInt x (swp d a p)[a]!) (swp d a p) (scanUp (fun x => ltInt x (swp d a p)[a]!) (swp d a p) (b - 1) (a + 1)) (b - 1) - 1) (swp (swp d a p) (scanUp (fun x => ltInt x (swp d a p)[a]!) (swp d a p) (b - 1) (a + 1)) (scanDown (fun x => !ltInt x (swp d a p)[a]!) (swp d a p) (scanUp (fun x => ltInt x (swp d a p)[a]!) (swp d a p) (b - 1) (a + 1)) (b - 1)))).1, false,
        swp (partLoop ltInt a (scanUp (fun x => ltInt x (swp d a p)[a]!) (swp d a p) (b - 1) (a + 1) + 1) (scanDown (fun x => !ltInt x (swp d a p)[a]!) (swp d a p) (scanUp (fun x => ltInt x (swp d a p)[a]!) (swp d a p) (b - 1) (a + 1)) (b - 1) - 1) (swp (swp d a p) (scanUp (fun x => ltInt x (swp d a p)[a]!) (swp d a p) (b - 1) (a + 1)) (scanDown (fun x => !ltInt x (swp d a p)[a]!) (swp d a p) (scanUp (fun x => ltInt x (swp d a p)[a]!) (swp d a p) (b - 1) (a + 1)) (b - 1)))).2
          (partLoop ltInt a (scanUp (fun x => ltInt x (swp d a p)[a]!) (swp d a p) (b - 1) (a + 1) + 1) (scanDown (fun x => !ltInt x (swp d a p)[a]!) (swp d a p) (scanUp (fun x => ltInt x (swp d a p)[a]!) (swp d a p) (b - 1) (a + 1)) (b - 1) - 1) (swp (swp d a p) (scanUp (fun x => ltInt x (swp d a p)[a]!) (swp d a p) (b - 1) (a + 1)) (scanDown (fun x => !ltInt x (swp d a p)[a]!) (swp d a p) (scanUp (fun x => ltInt x (swp d a p)[a]!) (swp d a p) (b - 1) (a + 1)) (b - 1)))).1 a)) := rfl
  rw [hP] at y
  clear hP
  generalize swp d a p = d0 at x0 y hs0
  rw [ia1 a (by omega), is1 b (by omega) (by omega)]
  refine w_loop (fun z => b - z.toNat) (fun z h' => h0 = h' ∧ ∃ i : Nat, z = (i : Int) ∧ a + 1 ≤ i ∧ i ≤ b ∧ scanUp (fun x => ltInt x d0[a]!) d0 (b - 1) i = scanUp (fun x => ltInt x d0[a]!) d0 (b - 1) (a + 1)) ?_ ⟨rfl, a + 1, rfl, Nat.le_refl _, by omega, rfl⟩
  rintro rec _ _ ⟨rfl, k, rfl, hak, hkb, eqs⟩ more
  refine w_joinV (decide (k ≤ b - 1) && ltInt d0[k]! d0[a]!) (fun c hc => w_if' (fun c2 => ?_) fun c2 => ?_) ?_
  · have c2 : k ≤ b - 1 := by omega
    refine rdB x0 (i := k) (i' := a) (by omega) (by omega) rfl rfl (w_less ?_)
    rw [decide_eq_true c2, Bool.true_and] at hc
    exact hc
  · have c2 : ¬ k ≤ b - 1 := by omega
    rw [decide_eq_false c2, Bool.false_and] at hc
    exact hc
  rw [scanUp] at eqs
  refine w_if (fun c2 => ?_) fun c2 => ?_
  · rw [if_pos c2] at eqs
    rw [Bool.and_eq_true, decide_eq_true_eq] at c2
    rw [ia1 k (by omega)]
    exact more _ _ ⟨rfl, k + 1, rfl, by omega, by omega, eqs⟩ (by simp only [Int.toNat_natCast]; omega)
  rw [if_neg (by rw [c2]; simp)] at eqs
  rw [← eqs] at y
  clear more rec c2 eqs
  refine w_loop (fun z => z.toNat) (fun z h' => h0 = h' ∧ ∃ j : Nat, z = (j : Int) ∧ j ≤ b - 1 ∧ min (b - 1) (k - 1) ≤ j ∧ scanDown (fun x => !ltInt x d0[a]!) d0 k j = scanDown (fun x => !ltInt x d0[a]!) d0 k (b - 1)) ?_ ⟨rfl, b - 1, rfl, Nat.le_refl _, Nat.min_le_left _ _, rfl⟩
  rintro rec _ _ ⟨rfl, l, rfl, hlb, hlk, eqd⟩ more
  refine w_joinV (decide (k ≤ l) && !ltInt d0[l]! d0[a]!) (fun c hc => w_if' (fun c2 => ?_) fun c2 => ?_) ?_
  · have c2 : k ≤ l := by omega
    refine rdB x0 (i := l) (i' := a) (by omega) (by omega) rfl rfl (w_less ?_)
    rw [decide_eq_true c2, Bool.true_and] at hc
    exact hc
  · have c2 : ¬ k ≤ l := by omega
    rw [decide_eq_false c2, Bool.false_and] at hc
    exact hc
  refine w_if (fun c2 => ?_) fun c2 => ?_
  · rw [Bool.and_eq_true, decide_eq_true_eq] at c2
    rw [scanDown_go (by omega) c2.1 c2.2] at eqd
    rw [is1 l (by omega) (by omega)]
    exact more _ _ ⟨rfl, l - 1, rfl, by omega, by omega, eqd⟩ (by omega)
  have c2 : ¬ (k ≤ l ∧ (!ltInt d0[l]! d0[a]!) = true) := fun q => by rw [q.2, decide_eq_true q.1] at c2; cases c2
  rw [scanDown_stop c2] at eqd
  rw [← eqd] at y
  clear more rec eqd c2
  refine w_if' (fun c3 => ?_) fun c3 => ?_
  · have c3 : k > l := by omega
    rw [if_pos c3] at y
    refine w_swp x0 (i := l) (j := a) (by omega) (by omega) rfl rfl fun h2 x2 w2 => ?_
    exact y h2 x2 (w0.trans w2)
  have c3 : ¬ k > l := by omega
  rw [if_neg c3] at y
  refine w_swp x0 (i := k) (j := l) (by omega) (by omega) rfl rfl fun h2 x2 w2 => ?_
  have hs2 : (swp d0 k l).size = d.size := by rw [swp_size]; exact hs0
  have w02 := w0.trans w2
  generalize swp d0 k l = d2 at x2 y hs2
  clear x0 w0 w2 hs0
  rw [ia1 k (by omega), is1 l (by omega) (by omega)]
  refine w_loop (fun z => (z.2 + 1 - z.1).toNat) (fun z h' => ∃ (i j : Nat) (e : Array Int), z = ((i : Int), (j : Int)) ∧ a < i ∧ i ≤ j + 2 ∧ j < b ∧ a ≤ j ∧ e.size = d.size ∧ BufI h' s e ∧ partLoop ltInt a i j e = partLoop ltInt a (k + 1) (l - 1) d2 ∧ Wrote s h h') ?_ ⟨k + 1, l - 1, d2, rfl, by omega, by omega, by omega, by omega, hs2, x2, rfl, w02⟩
  rintro rec _ h1 ⟨i, j, e, rfl, hi, hij, hj, haj, he, x1, eq1, w1⟩ more
  refine w_loop (fun z => j + 1 - z.toNat) (fun z h' => h1 = h' ∧ ∃ i' : Nat, z = (i' : Int) ∧ i ≤ i' ∧ i' ≤ max i (j + 1) ∧ scanUp (fun x => ltInt x e[a]!) e j i' = scanUp (fun x => ltInt x e[a]!) e j i) ?_ ⟨rfl, i, rfl, Nat.le_refl _, Nat.le_max_left _ _, rfl⟩
  rintro rec2 _ _ ⟨rfl, k2, rfl, hik, hkj, eqs⟩ more2
  refine w_joinV (decide (k2 ≤ j) && ltInt e[k2]! e[a]!) (fun c hc => w_if' (fun c2 => ?_) fun c2 => ?_) ?_
  · have c2 : (k2 : Int) ≤ (j : Int) := c2
    have c2 : k2 ≤ j := by omega
    refine rdB x1 (i := k2) (i' := a) (by omega) (by omega) rfl rfl (w_less ?_)
    rw [decide_eq_true c2, Bool.true_and] at hc
    exact hc
  · have c2 : ¬ (k2 : Int) ≤ (j : Int) := c2
    have c2 : ¬ k2 ≤ j := by omega
    rw [decide_eq_false c2, Bool.false_and] at hc
    exact hc
  rw [scanUp] at eqs
  refine w_if (fun c2 => ?_) fun c2 => ?_
  · rw [if_pos c2] at eqs
    rw [Bool.and_eq_true, decide_eq_true_eq] at c2
    rw [ia1 k2 (by omega)]
    exact more2 _ _ ⟨rfl, k2 + 1, rfl, by omega, by omega, eqs⟩ (by simp only [Int.toNat_natCast]; omega)
  rw [if_neg (by rw [c2]; simp)] at eqs
  clear more2 rec2 c2
  rw [partLoop, ← eqs] at eq1
  refine w_loop (fun z => z.toNat) (fun z h' => h1 = h' ∧ ∃ j' : Nat, z = (j' : Int) ∧ j' ≤ j ∧ min j (k2 - 1) ≤ j' ∧ scanDown (fun x => !ltInt x e[a]!) e k2 j' = scanDown (fun x => !ltInt x e[a]!) e k2 j) ?_ ⟨rfl, j, rfl, Nat.le_refl _, Nat.min_le_left _ _, rfl⟩
  rintro rec3 _ _ ⟨rfl, l2, rfl, hlj, hlk2, eqd⟩ more3
  refine w_joinV (decide (k2 ≤ l2) && !ltInt e[l2]! e[a]!) (fun c hc => w_if' (fun c2 => ?_) fun c2 => ?_) ?_
  · have c2 : k2 ≤ l2 := by omega
    refine rdB x1 (i := l2) (i' := a) (by omega) (by omega) rfl rfl (w_less ?_)
    rw [decide_eq_true c2, Bool.true_and] at hc
    exact hc
  · have c2 : ¬ k2 ≤ l2 := by omega
    rw [decide_eq_false c2, Bool.false_and] at hc
    exact hc
  refine w_if (fun c2 => ?_) fun c2 => ?_
  · rw [Bool.and_eq_true, decide_eq_true_eq] at c2
    rw [scanDown_go (by omega) c2.1 c2.2] at eqd
    rw [is1 l2 (by omega) (by omega)]
    exact more3 _ _ ⟨rfl, l2 - 1, rfl, by omega, by omega, eqd⟩ (by omega)
  have c2 : ¬ (k2 ≤ l2 ∧ (!ltInt e[l2]! e[a]!) = true) := fun q => by rw [q.2, decide_eq_true q.1] at c2; cases c2
  rw [scanDown_stop c2] at eqd
  rw [← eqd] at eq1
  clear more3 rec3
  refine w_if' (fun c3 => ?_) fun c3 => ?_
  · have c3 : k2 > l2 := by omega
    rw [if_pos c3] at eq1
    rw [← eq1] at y
    refine w_swp x1 (i := l2) (j := a) (by omega) (by omega) rfl rfl fun h2 x2 w2 => ?_
    exact y h2 x2 (w1.trans w2)
  have c3 : ¬ k2 > l2 := by omega
  rw [if_neg c3, dif_pos (by omega)] at eq1
  refine w_swp x1 (i := k2) (j := l2) (by omega) (by omega) rfl rfl fun h2 x2 w2 => ?_
  rw [ia1 k2 (by omega), is1 l2 (by omega) (by omega)]
  exact more _ _ ⟨k2 + 1, l2 - 1, _, rfl, by omega, by omega, by omega, by omega, by rw [swp_size]; exact he, x2, eq1, w1.trans w2⟩ (by show (((l2 - 1 : Nat) : Int) + 1 - ((k2 + 1 : Nat) : Int)).toNat < ((j : Int) + 1 - (i : Int)).toNat; omega)
end
theorem bitsLen_shift {x k : Nat} (h : 2 ^ k ≤ x) : bitsLen x = bitsLen (x / 2 ^ k) + k := by
  have key : ∀ m, k ≤ m → (x < 2 ^ m ↔ x / 2 ^ k < 2 ^ (m - k)) := fun m hm => by
    rw [Nat.div_lt_iff_lt_mul (Nat.two_pow_pos k), ← Nat.pow_add, Nat.sub_add_cancel hm]
  apply Nat.le_antisymm
  · rw [bitsLen_le_iff, key _ (by omega), Nat.add_sub_cancel]
    exact lt_two_pow_bitsLen _
  · have hk : k ≤ bitsLen x := by
      rcases Nat.lt_or_ge (bitsLen x) k with q | q
      · have h1 := lt_two_pow_bitsLen x
        have h2 : 2 ^ bitsLen x ≤ 2 ^ k := Nat.pow_le_pow_right (by decide) (by omega)
        omega
      · exact q
    have : bitsLen (x / 2 ^ k) ≤ bitsLen x - k := by
      rw [bitsLen_le_iff, ← key _ hk]
      exact lt_two_pow_bitsLen _
    omega
theorem wrap_u8 (x : Int) : IntKind.u8.wrap x = x % 256 := by
  unfold IntKind.wrap
  simp [IntKind.bits, IntKind.signed]
def tabOK (s : ByteArray) : Bool := (List.range 256).all fun x => s.data.toList[x]? == some (UInt8.ofNat (bitsLen x))
theorem bitsLen8 {x : Nat} (h : x < 256) : bitsLen x ≤ 8 := (bitsLen_le_iff x 8).2 h
section
variable {h : H}
theorem w_tab {s : ByteArray} (ht : tabOK s = true) {x : Nat} (hx : x < 256) {k : Int → H → Prop} (y : k ((bitsLen x : Nat) : Int) h) : mByte s (x : Int) k h := by
  unfold tabOK at ht
  rw [List.all_eq_true] at ht
  have := ht x (List.mem_range.2 hx)
  rw [beq_iff_eq] at this
  have hlt := lt_of_get this
  rw [List.getElem?_eq_getElem hlt] at this
  have e := Option.some.inj this
  have hs : x < s.size := by simpa using hlt
  have hb : (UInt8.ofNat (bitsLen x)).toNat = bitsLen x := by
    have := bitsLen8 hx
    rw [UInt8.toNat_ofNat']; exact Nat.mod_eq_of_lt (by omega)
  refine ⟨((UInt8.ofNat (bitsLen x)).toNat : Nat), ⟨UInt8.ofNat (bitsLen x), by omega, ?_, rfl⟩, by rw [hb]; exact y⟩
  rw [Int.toNat_natCast, ← e]
  show s.data[x]? = _
  rw [← Array.getElem?_toList, List.getElem?_eq_getElem hlt]
set_option maxRecDepth 100000 in
theorem t_Len64 {x : Nat} (hx : x < 2 ^ 64) {K : Int → H → Prop} (y : K ((bitsLen x : Nat) : Int) h) : m_math_bits_Len64 (x : Int) K h := by
  unfold m_math_bits_Len64
  refine w_joinP (fun z h' => h = h' ∧ ∃ (u n : Nat), z = ((u : Int), (n : Int)) ∧ u < 2 ^ 32 ∧ n ≤ 32 ∧ bitsLen x = bitsLen u + n) (fun j hj => w_if' (fun c => ?_) fun c => ?_) ?_
  · have e : iShr .u64 (x : Int) 32 = ((x / 2 ^ 32 : Nat) : Int) := u_shr (n := 32) (by omega)
    rw [e]
    exact hj _ _ ⟨rfl, x / 2 ^ 32, 32, rfl, by omega, by omega, bitsLen_shift (by omega)⟩
  · exact hj _ _ ⟨rfl, x, 0, rfl, by omega, by omega, rfl⟩
  rintro _ _ ⟨rfl, u, n, rfl, hu, hn, e1⟩
  refine w_joinP (fun z h' => h = h' ∧ ∃ (v m : Nat), z = ((v : Int), (m : Int)) ∧ v < 2 ^ 16 ∧ m ≤ 48 ∧ bitsLen x = bitsLen v + m) (fun j hj => w_if' (fun c => ?_) fun c => ?_) ?_
  · have c : (65536 : Int) ≤ (u : Int) := c
    have e : iShr .u64 (u : Int) 16 = ((u / 2 ^ 16 : Nat) : Int) := u_shr (n := 16) (by omega)
    have a : iAdd .i64 (n : Int) 16 = ((n + 16 : Nat) : Int) := ia n 16 (by omega)
    show j (iShr .u64 (u : Int) 16, iAdd .i64 (n : Int) 16) h
    rw [e, a]
    exact hj _ _ ⟨rfl, u / 2 ^ 16, n + 16, rfl, by omega, by omega, by rw [e1, bitsLen_shift (x := u) (k := 16) (by omega)]; omega⟩
  · have c : ¬ (65536 : Int) ≤ (u : Int) := c
    exact hj _ _ ⟨rfl, u, n, rfl, by omega, by omega, e1⟩
  rintro _ _ ⟨rfl, v, m, rfl, hv, hm, e2⟩
  refine w_joinP (fun z h' => h = h' ∧ ∃ (w q : Nat), z = ((w : Int), (q : Int)) ∧ w < 2 ^ 8 ∧ q ≤ 56 ∧ bitsLen x = bitsLen w + q) (fun j hj => w_if' (fun c => ?_) fun c => ?_) ?_
  · have c : (256 : Int) ≤ (v : Int) := c
    have e : iShr .u64 (v : Int) 8 = ((v / 2 ^ 8 : Nat) : Int) := u_shr (n := 8) (by omega)
    have a : iAdd .i64 (m : Int) 8 = ((m + 8 : Nat) : Int) := ia m 8 (by omega)
    show j (iShr .u64 (v : Int) 8, iAdd .i64 (m : Int) 8) h
    rw [e, a]
    exact hj _ _ ⟨rfl, v / 2 ^ 8, m + 8, rfl, by omega, by omega, by rw [e2, bitsLen_shift (x := v) (k := 8) (by omega)]; omega⟩
  · have c : ¬ (256 : Int) ≤ (v : Int) := c
    exact hj _ _ ⟨rfl, v, m, rfl, by omega, by omega, e2⟩
  rintro _ _ ⟨rfl, w, q, rfl, hw, hq, e3⟩
  have hl := bitsLen8 (x := w) hw
  have e4 : IntKind.wrap .i64 ((bitsLen w : Nat) : Int) = ((bitsLen w : Nat) : Int) := i64_eq (by omega) (by omega)
  have fin : ∀ tb : ByteArray, tabOK tb = true → mByte tb (w : Int) (fun x7 => K (iAdd .i64 (q : Int) (IntKind.wrap .i64 x7))) h := fun tb ht => w_tab ht hw (by
    rw [e4, ia q (bitsLen w) (by omega)]
    rw [e3, Nat.add_comm] at y
    exact y)
  have e5 : IntKind.wrap .u8 (w : Int) = (w : Int) := by
    rw [wrap_u8]; omega
  show mByte _ (IntKind.wrap .u8 (w : Int)) (fun x7 => K (iAdd .i64 (q : Int) (IntKind.wrap .i64 x7))) h
  rw [e5]
  exact fin _ (by kernel_rfl)
theorem w_Len {x : Nat} (hx : x < 2 ^ 62) {K : Int → H → Prop} (y : K ((bitsLen x : Nat) : Int) h) : mPure (m_math_bits_Len (IntKind.wrap .u64 (x : Int))) K h := by
  refine w_pure ((bitsLen x : Nat) : Int) (fun h' k' q => ?_) y
  unfold m_math_bits_Len
  rw [u_wrap (by omega)]
  exact w_pure ((bitsLen x : Nat) : Int) (fun h'' k'' q' => t_Len64 (by omega) q') q
def CellU (c0 : Nat) (h : H) : Prop := ∃ (v : Int) (t : TypeId), h c0 = some (.cells #[Value.int .u64 v] t (0, 0))
theorem t_xor {c0 : Nat} (hc : CellU c0 h) {K : Int → H → Prop} (y : ∀ (r : Nat) h', r < 2 ^ 64 → CellU c0 h' → But (· = c0) h h' → (∀ c, h' c = none → h c = none) → K (r : Int) h') : m_slices_xorshift_Next (some ⟨c0, 0, none⟩) K h := by
  unfold m_slices_xorshift_Next
  obtain ⟨v, t, hv⟩ := hc
  have rd : ∀ {g : H} {u : Int}, g c0 = some (.cells #[Value.int .u64 u] t (0, 0)) → At g ⟨c0, 0, none⟩ (cInt .u64 u) := fun e => At.own (l1 := []) (l3 := []) e rfl
  refine w_deref (w_deref (w_load (rd hv) (w_load (rd hv) (w_deref (w_store (l1 := []) (l2 := cInt .u64 v) (l3 := []) rfl hv rfl rfl ?_)))))
  refine w_deref (w_deref (w_load (rd (upd_same _ _ _)) (w_load (rd (upd_same _ _ _)) (w_deref (w_store (l1 := []) (l2 := cInt .u64 _) (l3 := []) rfl (upd_same _ _ _) rfl rfl ?_)))))
  refine w_deref (w_deref (w_load (rd (upd_same _ _ _)) (w_load (rd (upd_same _ _ _)) (w_deref (w_store (l1 := []) (l2 := cInt .u64 _) (l3 := []) rfl (upd_same _ _ _) rfl rfl ?_)))))
  refine w_deref (w_load (rd (upd_same _ _ _)) ?_)
  rw [upd_upd, upd_upd]
  have rng : ∀ z w : Int, ∃ r : Nat, iXor .u64 z w = (r : Int) ∧ r < 2 ^ 64 := fun z w => by
    unfold iXor
    rw [wrap_u64]
    exact ⟨(((BitVec.ofInt IntKind.u64.bits z ^^^ BitVec.ofInt IntKind.u64.bits w).toNat : Int) % 18446744073709551616).toNat, by omega, by omega⟩
  suffices z : ∀ A B : Int, K (iXor .u64 A B) (upd h c0 (.cells ([] ++ [Value.int .u64 (iXor .u64 A B)] ++ []).toArray t (0, 0))) from z _ _
  intro A B
  obtain ⟨r, hr, hlt⟩ := rng A B
  rw [hr]
  exact y r _ hlt ⟨r, t, upd_same _ _ _⟩ (But.upd rfl) fun c e => (upd_none.1 e).2
variable {s : Sl} {d : Array Int}
theorem t_breakPatterns {a b : Nat} (x : BufI h s d) (hab : a ≤ b) (hb : b ≤ d.size) (hn : d.size ≤ 2 ^ 40) {K : Unit → H → Prop} (y : ∀ e h', PermIn a b d e → BufI h' s e → Wrote s h h' → K () h') : m_slices_breakPatternsOrdered_int s (a : Int) (b : Int) K h := by
  unfold m_slices_breakPatternsOrdered_int
  rw [is_ b a (by omega) hab]
  refine w_if' (fun c => ?_) fun c => y d h (permIn_refl d a b) x (.refl _ _)
  have c : 8 ≤ b - a := by omega
  refine w_newQ (fun c0 h0 => (∃ t, h0 c0 = some (.cells ([] ++ cInt .u64 0 ++ []).toArray t (0, 0))) ∧ Keeps h h0) (fun c0 hc0 => ⟨⟨_, upd_same _ _ _⟩, .new hc0⟩) fun c0 h0 hc0 ⟨⟨t, hv⟩, k0⟩ => ?_
  have nf : ¬ s.foot c0 := fun f => by
    obtain ⟨A, hA, e⟩ := f
    rcases x.at_ with ⟨q, _⟩ | ⟨B, z, fz, q, hB, _⟩
    · rw [q] at hA; cases hA
    · rw [q] at hA; cases hA; subst e; rw [hc0] at hB; cases hB
  refine w_store (l1 := []) (l2 := cInt .u64 0) (l3 := []) rfl hv rfl rfl ?_
  have x1 : BufI (upd h0 c0 (.cells ([] ++ [Value.int .u64 (IntKind.wrap .u64 ((b - a : Nat) : Int))] ++ []).toArray t (0, 0))) s d := (x.keep k0).but (But.upd (F := (· = c0)) rfl) fun A hA e => nf ⟨A, hA, e⟩
  have w1 : Wrote s h (upd h0 c0 (.cells ([] ++ [Value.int .u64 (IntKind.wrap .u64 ((b - a : Nat) : Int))] ++ []).toArray t (0, 0))) := ⟨.of (k0.but (But.upd (F := (· = c0)) rfl) fun n e => by subst e; exact hc0), fun c e => k0.fresh (upd_none.1 e).2⟩
  have cl1 : CellU c0 (upd h0 c0 (.cells ([] ++ [Value.int .u64 (IntKind.wrap .u64 ((b - a : Nat) : Int))] ++ []).toArray t (0, 0))) := ⟨_, t, upd_same _ _ _⟩
  generalize upd h0 c0 (.cells ([] ++ [Value.int .u64 (IntKind.wrap .u64 ((b - a : Nat) : Int))] ++ []).toArray t (0, 0)) = h1 at x1 w1 cl1 ⊢
  have hl8 : bitsLen (b - a) < 62 := Nat.lt_succ_of_le ((bitsLen_le_iff _ 61).2 (by omega))
  have hp := two_pow_bitsLen_le (n := b - a) (by omega)
  generalize hL : bitsLen (b - a) = L at hl8 hp
  refine w_pure (iShl .u64 1 (L : Int)) (fun h' k' q => ?_) ?_
  · unfold m_slices_nextPowerOfTwo
    refine w_Len (by omega) ?_
    rw [hL]
    exact w_nn (by omega) q
  have q4 : (b - a) / 4 ≤ b - a := Nat.div_le_self _ _
  have q4' : 4 * ((b - a) / 4) ≤ b - a := Nat.mul_div_le _ _
  have q48 : 2 ≤ (b - a) / 4 := by omega
  have e4 : iQuo .i64 ((b - a : Nat) : Int) 4 = (((b - a) / 4 : Nat) : Int) := iq (b - a) 4 (by omega)
  generalize (b - a) / 4 = q at q4 q4' q48 e4
  have m2 : iMul .i64 (q : Int) 2 = ((q * 2 : Nat) : Int) := (i64_eq (x := (q : Int) * 2) (by omega) (by omega)).trans (by omega)
  rw [e4, m2, ia a (q * 2) (by omega), is1 (a + q * 2) (by omega) (by omega), ia1 (a + q * 2) (by omega)]
  refine w_loop (fun z => a + q * 2 + 2 - z.toNat) (fun z h' => ∃ (i : Nat) (e : Array Int), z = (i : Int) ∧ a + q * 2 ≤ i + 1 ∧ i ≤ a + q * 2 + 2 ∧ PermIn a b d e ∧ BufI h' s e ∧ CellU c0 h' ∧ Wrote s h h') ?_ ⟨a + q * 2 - 1, d, rfl, by omega, by omega, permIn_refl d a b, x1, cl1, w1⟩
  rintro rec _ h2 ⟨i, e, rfl, hi1, hi2, pe, x2, cl2, w2⟩ more
  refine w_if' (fun c2 => ?_) fun c2 => y e h2 pe x2 w2
  have c2 : i ≤ a + q * 2 + 1 := by omega
  refine t_xor cl2 fun r h3 hr cl3 b3 d3 => ?_
  have x3 : BufI h3 s e := x2.but b3 fun A hA z => nf ⟨A, hA, z⟩
  have w3 : Wrote s h h3 := ⟨w2.but.trans b3 fun n z => .inr (by subst z; exact hc0), fun c z => w2.dom c (d3 c z)⟩
  rw [u_low hr (by omega)]
  have hm : r % 2 ^ L < 2 ^ L := Nat.mod_lt _ (Nat.two_pow_pos _)
  generalize r % 2 ^ L = m at hm
  have wm : IntKind.wrap .i64 (m : Int) = (m : Int) := i64_eq (by omega) (by omega)
  rw [wm]
  refine w_joinP (fun z h' => h3 = h' ∧ ∃ m' : Nat, z = (m' : Int) ∧ m' < b - a) (fun j hj => w_if' (fun c3 => ?_) fun c3 => ?_) ?_
  · rw [is_ m (b - a) (by omega) (by omega)]
    exact hj _ _ ⟨rfl, m - (b - a), rfl, by omega⟩
  · exact hj _ _ ⟨rfl, m, rfl, by omega⟩
  rintro _ _ ⟨rfl, m', rfl, hm'⟩
  have es : e.size = d.size := pe.1
  have em := ia a m' (by omega)
  rw [em]
  refine w_swp x3 (i := i) (j := a + m') (by omega) (by omega) rfl rfl fun h4 x4 w4 => ?_
  rw [ia1 i (by omega)]
  have cl4 : CellU c0 h4 := by
    obtain ⟨v, t, e⟩ := cl3
    exact ⟨v, t, w4.but _ _ e nf⟩
  exact more _ _ ⟨i + 1, _, rfl, by omega, by omega, permIn_trans _ _ _ a b pe (swp_permIn e a b i (a + m') (by omega) (by omega) (by omega) (by omega) (by omega)), x4, cl4, w3.trans w4⟩ (by simp only [Int.toNat_natCast]; omega)
theorem t_pdq_n : ∀ (n : Nat) {h : H} {d : Array Int} {a b : Nat}, b - a < n → BufI h s d → a ≤ b → b ≤ d.size → d.size ≤ 2 ^ 40 → Go.Sort.Below ltInt a b d → ∀ {limit : Int} {K : Unit → H → Prop},
    (∀ e h', PermIn a b d e → SortedIn ltInt a b e → BufI h' s e → Wrote s h h' → K () h') → m_slices_pdqsortOrdered_int_n n s (a : Int) (b : Int) limit K h := by
  intro n
  induction n with
  | zero => intro h d a b hn; omega
  | succ n ih =>
    intro h d a0 b0 hn x hab0 hb0 hsz hB0 limit K y
    show m_slices_pdqsortOrdered_int_s (m_slices_pdqsortOrdered_int_n n) s (a0 : Int) (b0 : Int) limit K h
    unfold m_slices_pdqsortOrdered_int_s
    refine w_loop (fun z => (z.2.1 - z.1).toNat) (fun z h' => ∃ (a b : Nat) (lim : Int) (wb wp : Bool) (e : Array Int), z = ((a : Int), (b : Int), lim, wb, wp) ∧ a ≤ b ∧ b - a ≤ b0 - a0 ∧ b ≤ e.size ∧ e.size = d.size ∧ Go.Sort.Below ltInt a b e ∧ BufI h' s e ∧ Wrote s h h' ∧ ∀ R, PermIn a b e R → SortedIn ltInt a b R → PermIn a0 b0 d R ∧ SortedIn ltInt a0 b0 R) ?_
      ⟨a0, b0, limit, true, true, d, rfl, hab0, Nat.le_refl _, hb0, rfl, hB0, x, .refl _ _, fun R h1 h2 => ⟨h1, h2⟩⟩
    clear x hab0 hb0 hB0
    rintro rec _ h1 ⟨a, b, lim, wb, wp, e, rfl, hab, hlen, hb, he, hB, x1, w1, fin⟩ more
    have fin' : ∀ (R : Array Int) (h' : H), PermIn a b e R → SortedIn ltInt a b R → BufI h' s R → Wrote s h h' → K () h' := fun R h' p q r w => y R h' (fin R p q).1 (fin R p q).2 r w
    show mIf (decide ((iSub .i64 (b : Int) (a : Int)) ≤ 12)) _ _ h1
    rw [is_ b a (by omega) hab]
    refine w_if' (fun c => ?_) fun c => ?_
    · refine t_insertion x1 hb (by omega) (fun h2 x2 w2 => ?_) hab
      have := insertionSort_holds swo_ltInt e a b hab hb
      exact fin' _ h2 this.1 this.2 x2 (w1.trans w2)
    have c : 12 < b - a := by omega
    refine w_if' (fun c2 => ?_) fun c2 => ?_
    · refine t_heapSort x1 hab hb (by omega) fun h2 x2 w2 => ?_
      have := heapSort_holds swo_ltInt e a b hab hb
      exact fin' _ h2 this.1 this.2 x2 (w1.trans w2)
    refine w_joinP (fun _ h' => ∃ e1, PermIn a b e e1 ∧ BufI h' s e1 ∧ Wrote s h h') (fun j hj => w_if (fun c3 => ?_) fun c3 => ?_) ?_
    · refine t_breakPatterns x1 hab hb (by omega) fun e1 h2 p1 x2 w2 => ?_
      exact hj _ _ ⟨e1, p1, x2, w1.trans w2⟩
    · exact hj _ _ ⟨e, permIn_refl e a b, x1, w1⟩
    rintro lim2 h2 ⟨e1, p1, x2, w2⟩
    refine t_choosePivot x2 (by omega) (by rw [p1.1]; exact hb) (by rw [p1.1]; omega) fun p hint h3 hp1 hp2 x3 k3 => ?_
    have w3 : Wrote s h h3 := ⟨w2.but.trans (.of k3) fun _ f => .inl f, fun c z => w2.dom c (k3.fresh z)⟩
    refine w_joinP (fun z h' => ∃ (p' : Nat) (t : Int) (e2 : Array Int), z = ((p' : Int), t) ∧ a ≤ p' ∧ p' < b ∧ PermIn a b e e2 ∧ BufI h' s e2 ∧ Wrote s h h') (fun j hj => w_if' (fun c3 => ?_) fun c3 => ?_) ?_
    · refine t_reverse x3 (by omega) (by rw [p1.1]; exact hb) (by rw [p1.1]; omega) fun h4 x4 w4 => ?_
      have hp1' : (a : Int) ≤ (p : Int) := by omega
      show j (iSub .i64 (iSub .i64 (b : Int) 1) (iSub .i64 (p : Int) (a : Int)), 1) h4
      rw [is1 b (by omega) (by omega), is_ p a (by omega) hp1, is_ (b - 1) (p - a) (by omega) (by omega)]
      exact hj _ _ ⟨b - 1 - (p - a), 1, _, rfl, by omega, by omega, permIn_trans _ _ _ a b p1 (reverseRange_holds e1 a b hab (by rw [p1.1]; exact hb)), x4, w3.trans w4⟩
    · exact hj _ _ ⟨p, hint, e1, rfl, hp1, hp2, p1, x3, w3⟩
    clear x3 x2 w2 w3 p1 k3 hp1 hp2 x1 w1
    rintro _ h4 ⟨p', t, e2, rfl, hp1, hp2, p2, x4, w4⟩
    refine w_joinP (fun _ h' => ∃ e3, PermIn a b e e3 ∧ BufI h' s e3 ∧ Wrote s h h') (fun j hj => w_if (fun c3 => ?_) fun c3 => ?_) ?_
    · refine t_partialIns x4 (by omega) (by rw [p2.1]; exact hb) (by rw [p2.1]; omega) fun h5 x5 w5 => ?_
      have q := partialInsertionSort_holds swo_ltInt e2 a b (by omega) (by rw [p2.1]; exact hb) (hB.perm hb p2)
      refine w_if (fun c4 => ?_) fun c4 => ?_
      · exact fin' _ h5 (permIn_trans _ _ _ a b p2 q.1) (q.2 c4) x5 (w4.trans w5)
      · exact hj () h5 ⟨_, permIn_trans _ _ _ a b p2 q.1, x5, w4.trans w5⟩
    · exact hj () h4 ⟨e2, p2, x4, w4⟩
    clear x4 w4 p2
    rintro _ h5 ⟨e3, p3, x5, w5⟩
    have hb3 : b ≤ e3.size := by rw [p3.1]; exact hb
    have hB3 := hB.perm hb p3
    have hs3 : e3.size = d.size := by rw [p3.1]; exact he
    refine w_joinP (fun z h' => h5 = h' ∧ (z = true → 0 < a ∧ ltInt e3[a - 1]! e3[p']! = false)) (fun j hj => w_if' (fun c3 => ?_) fun c3 => ?_) ?_
    · have c3 : 0 < a := by have c3 : (0 : Int) < (a : Int) := c3; omega
      show mIdx s (iSub .i64 (a : Int) 1) 1 _ h5
      rw [is1 a (by omega) c3]
      refine rdB x5 (i := a - 1) (i' := p') (by omega) (by omega) rfl rfl (w_less ?_)
      exact hj _ _ ⟨rfl, fun q => ⟨c3, by rwa [Bool.not_eq_true'] at q⟩⟩
    · exact hj _ _ ⟨rfl, fun q => by cases q⟩
    rintro z _ ⟨rfl, hz⟩
    refine w_if (fun c3 => ?_) fun c3 => ?_
    · obtain ⟨ha0, hnl⟩ := hz c3
      refine t_partEq x5 hp1 hp2 hb3 (by omega) fun h6 x6 w6 => ?_
      obtain ⟨r1, r2, r3, r4, r5⟩ := round_eq swo_ltInt (partitionEqual_holds ltInt) (mid := (partitionEqual ltInt e3 a b p').1) (d4 := (partitionEqual ltInt e3 a b p').2) ha0 hp1 hp2 hb3 hB3 hnl rfl
      refine more _ _ ⟨(partitionEqual ltInt e3 a b p').1, b, lim2, wb, wp, _, rfl, r2, by omega, by rw [r3]; exact hb3, by rw [r3]; exact hs3, r4, x6, w5.trans w6, fun R q1 q2 => ?_⟩ (by show ((b : Int) - (((partitionEqual ltInt e3 a b p').1 : Nat) : Int)).toNat < ((b : Int) - (a : Int)).toNat; omega)
      exact fin R (permIn_trans _ _ _ a b p3 (r5 R q1 q2).1) (r5 R q1 q2).2
    refine t_partition x5 hp1 hp2 hb3 (by omega) fun h6 x6 w6 => ?_
    obtain ⟨r1, r2, r3, r4, r5, r6, r7⟩ := round_part swo_ltInt (partition_holds ltInt) (mid := (partition ltInt e3 a b p').1) (ap := (partition ltInt e3 a b p').2.1) (d4 := (partition ltInt e3 a b p').2.2) hp1 hp2 hb3 hB3 rfl
    have w56 := w5.trans w6
    generalize (partition ltInt e3 a b p').1 = mid at r1 r2 r4 r5 r6 r7
    generalize (partition ltInt e3 a b p').2.1 = ap
    generalize (partition ltInt e3 a b p').2.2 = e4 at x6 r3 r4 r5 r6 r7
    show mIf (decide ((iSub .i64 (mid : Int) (a : Int)) < (iSub .i64 (b : Int) (mid : Int)))) _ _ h6
    rw [is_ mid a (by omega) r1, is_ b mid (by omega) (by omega)]
    refine w_if' (fun c4 => ?_) fun c4 => ?_
    · refine ih (d := e4) (a := a) (b := mid) (by omega) x6 r1 (by omega) (by omega) r4 fun e5 h7 q1 q2 x7 w7 => ?_
      obtain ⟨s1, s2⟩ := r6 e5 q1 q2
      show rec (iAdd .i64 (mid : Int) 1, (b : Int), lim2, _, ap) h7
      rw [ia1 mid (by omega)]
      refine more _ _ ⟨mid + 1, b, lim2, _, ap, e5, rfl, r2, by omega, by rw [q1.1, r3]; exact hb3, by rw [q1.1, r3]; exact hs3, s1, x7, w56.trans w7, fun R t1 t2 => ?_⟩ (by show ((b : Int) - ((mid + 1 : Nat) : Int)).toNat < ((b : Int) - (a : Int)).toNat; omega)
      exact fin R (permIn_trans _ _ _ a b p3 (s2 R t1 t2).1) (s2 R t1 t2).2
    · show m_slices_pdqsortOrdered_int_n n s (iAdd .i64 (mid : Int) 1) (b : Int) lim2 _ h6
      rw [ia1 mid (by omega)]
      refine ih (d := e4) (a := mid + 1) (b := b) (by omega) x6 r2 (by omega) (by omega) r5 fun e5 h7 q1 q2 x7 w7 => ?_
      obtain ⟨s1, s2⟩ := r7 e5 q1 q2
      refine more _ _ ⟨a, mid, lim2, _, ap, e5, rfl, r1, by omega, by rw [q1.1]; omega, by rw [q1.1, r3]; exact hs3, s1, x7, w56.trans w7, fun R t1 t2 => ?_⟩ (by show ((mid : Int) - (a : Int)).toNat < ((b : Int) - (a : Int)).toNat; omega)
      exact fin R (permIn_trans _ _ _ a b p3 (s2 R t1 t2).1) (s2 R t1 t2).2
theorem t_Sort {zs : List Int} (x : Buf (cInt .i64) 1 N_int h s zs) (hn : zs.length ≤ 2 ^ 40) {K : Unit → H → Prop} (y : ∀ h', Buf (cInt .i64) 1 N_int h' s (zs.mergeSort fun x y => decide (x ≤ y)) → Wrote s h h' → K () h') : m_slices_Sort_int_int s K h := by
  unfold m_slices_Sort_int_int
  have hl := x.len
  rw [hl]
  refine w_Len (by omega) ?_
  have x0 : BufI h s zs.toArray := x
  unfold m_slices_pdqsortOrdered_int
  refine ⟨zs.length + 1, t_pdq_n (zs.length + 1) (d := zs.toArray) (a := 0) (b := zs.length) (by omega) x0 (Nat.zero_le _) (by simp) (by simpa using hn) (.inl rfl) fun e h' p1 p2 x1 w1 => ?_⟩
  refine y h' ?_ w1
  have hsz : zs.length = zs.toArray.size := by simp
  rw [hsz] at p1 p2
  have h1 := sorted_unique_holds (lt := ltInt) swo_ltInt (fun x y h1 h2 => by
    unfold ltInt at h1 h2
    rw [decide_eq_false_iff_not] at h1 h2
    omega) zs.toArray e p1 p2
  have h2 : (fun x y : Int => !ltInt y x) = fun x y => decide (x ≤ y) := by
    funext x y
    unfold ltInt
    rw [Bool.eq_iff_iff]
    simp
  rw [h2] at h1
  have h1 : e.toList = zs.mergeSort fun x y => decide (x ≤ y) := h1
  rw [← h1]; exact x1
end
end Go.Proofs.YtcclfjhnpeappaaGreat.K
namespace Go.Proofs.YtcclfjhnpeappaaGreat.K
open Go Go.Proofs
def m_quota_New (a0 : Int) (a1 : Int) (K : (Option Addr × Int) → H → Prop) : H → Prop :=
 mIf ((((decide (a0 < 1)) || (decide (256 < a0))) || (decide (a1 < 1))) || (decide (256 < a1))) (
 K (none, 16)
 ) (
 mMakeMap fun m1 =>
 mNew 188 #[(Value.int .i64 a0), (Value.int .i64 a1), (Value.map m1)] fun ad2 =>
 K ((some ad2), 0)
 )
def x_quota_New : Cx Tryz.prog := ⟨tys, [], [], [], mixed⟩
def h_quota_New : Hint := (.seq .d (.seq (.seq (.reg (.run [3, 7, 11] (.sel 8 11 3584 (.run [15, 19, 23] .nil) (.run [15, 19, 23] .nil) (.run [27] (.sel 12 15 57344 (.run [31, 35, 39] .nil) (.run [31, 35, 39] .nil) (.run [43] (.sel 16 19 917504 (.run [47, 51, 55] .nil) (.run [47, 51, 55] .nil) .nil))))))) .d) .d))
def s_quota_New : Spec Tryz.prog := mkSpec x_quota_New 73 Tryz.f73 [(tInt .i64), (tInt .i64)] [tPtr, (tInt .i64)] false h_quota_New (fun a => m_quota_New a.1 a.2) (fun a K h => by kernel_rfl) callee73 rfl
def m_quota_Quota_Of (a0 : Option Addr) (a1 : Int) (K : (Int) → H → Prop) : H → Prop :=
 mDeref a0 fun ad1 =>
 mLoad cMap (ad1.add 2) fun x2 =>
 mLookup (eqV Tryz.prog 40 3) (Value.int .i64) 0 x2 (Value.int .i64 a1) fun r3 =>
 K r3.1
def x_quota_Quota_Of : Cx Tryz.prog := ⟨tys, [], [], [], mixed⟩
def h_quota_Quota_Of : Hint := .d
def s_quota_Quota_Of : Spec Tryz.prog := mkSpec x_quota_Quota_Of 35 Tryz.f35 [tPtr, (tInt .i64)] [(tInt .i64)] false h_quota_Quota_Of (fun a => m_quota_Quota_Of a.1 a.2) (fun a K h => by kernel_rfl) callee35 rfl
def m_quota_Quota_Sub (a0 : Option Addr) (a1 : Int) (a2 : Int) (K : (Int) → H → Prop) : H → Prop :=
 mJoin (fun (s2 : Bool) =>
 mIf s2 (
 K 20
 ) (
 mDeref a0 fun ad4 =>
 mLoad cMap (ad4.add 2) fun x5 =>
 mLookup (eqV Tryz.prog 40 3) (Value.int .i64) 0 x5 (Value.int .i64 a1) fun r6 =>
 mMapSet (eqV Tryz.prog 40 3) x5 (Value.int .i64 a1) (Value.int .i64 (iSub .i64 r6.1 a2)) <|
 mDeref a0 fun ad7 =>
 mLoad cMap (ad7.add 2) fun x8 =>
 mLookup (eqV Tryz.prog 40 3) (Value.int .i64) 0 x8 (Value.int .i64 a1) fun r9 =>
 mIf (decide (r9.1 = 0)) (
 mDeref a0 fun ad10 =>
 mLoad cMap (ad10.add 2) fun x11 =>
 mMapDel (eqV Tryz.prog 40 3) x11 (Value.int .i64 a1) <|
 K 0
 ) (
 K 0
 )
 )
 ) (fun j3 =>
 mIf (decide (a2 < 0)) (
 j3 true
 ) (
 m_quota_Quota_Of a0 a1 fun r12 =>
 j3 (decide (r12 < a2))
 ))
def x_quota_Quota_Sub : Cx Tryz.prog := ⟨tys, [s_quota_Quota_Of], [], [], mixed⟩
def h_quota_Quota_Sub : Hint := (.seq .d (.seq (.seq (.reg (.run [3, 7, 11] (.join [.slot 15 tBool] 64512 [] (.split 9 (.run [15, 19, 23, 27, 31, 35] .nil) (.run [15, 19, 23, 27, 31, 35] .nil)) .nil))) .d) .d))
def s_quota_Quota_Sub : Spec Tryz.prog := mkSpec x_quota_Quota_Sub 146 Tryz.f146 [tPtr, (tInt .i64), (tInt .i64)] [(tInt .i64)] false h_quota_Quota_Sub (fun a => m_quota_Quota_Sub a.1 a.2.1 a.2.2) (fun a K h => by kernel_rfl) callee146 rfl
def m_quota_Quota_All (a0 : Option Addr) (K : (Int) → H → Prop) : H → Prop :=
 mDeref a0 fun ad1 =>
 mLoad cMap (ad1.add 2) fun x2 =>
 mRange x2 fun it3 =>
 mLoop (fun (rec5 : Int → H → Prop) (s4 : Int) =>
 mNext it3 fun n6 =>
 mIf n6.1 (
 mEntry (Value.int .i64) (Value.int .i64) it3 fun e7 =>
 rec5 (iAdd .i64 s4 e7.2)
 ) (
 K s4
 )
 ) 0
def x_quota_Quota_All : Cx Tryz.prog := ⟨tys, [], [], [(13, 3, 3)], mixed⟩
def h_quota_Quota_All : Hint := (.seq .d (.seq .d (.seq (.seq .d (.blk (.loop [.slot 3 (tInt .i64)] 260136 [] .d))) .d)))
def s_quota_Quota_All : Spec Tryz.prog := mkSpec x_quota_Quota_All 71 Tryz.f71 [tPtr] [(tInt .i64)] false h_quota_Quota_All (fun a => m_quota_Quota_All a) (fun a K h => by kernel_rfl) callee71 rfl
def m_quota_Quota_May (a0 : Option Addr) (a1 : Int) (K : (Int) → H → Prop) : H → Prop :=
 mDeref a0 fun ad1 =>
 mJoin (fun (s2 : Int × Int) =>
 mIf (decide (s2.2 ≤ s2.1)) (
 K 9
 ) (
 mDeref a0 fun ad8 =>
 mJoin (fun (s9 : Int × Int) =>
 mIf (decide (s9.2 ≤ s9.1)) (
 K 10
 ) (
 K 0
 )
 ) (fun j10 =>
 mBoth (
 m_quota_Quota_All a0 fun r11 =>
 mLoad (cInt .i64) (ad8.add 1) fun x12 =>
 j10 (r11, x12)
 ) (
 mLoad (cInt .i64) (ad8.add 1) fun x13 =>
 m_quota_Quota_All a0 fun r14 =>
 j10 (r14, x13)
 ))
 )
 ) (fun j3 =>
 mBoth (
 m_quota_Quota_Of a0 a1 fun r4 =>
 mLoad (cInt .i64) (ad1.add 0) fun x5 =>
 j3 (r4, x5)
 ) (
 mLoad (cInt .i64) (ad1.add 0) fun x6 =>
 m_quota_Quota_Of a0 a1 fun r7 =>
 j3 (r7, x6)
 ))
def x_quota_Quota_May : Cx Tryz.prog := ⟨tys, [s_quota_Quota_Of, s_quota_Quota_All], [], [], mixed⟩
def h_quota_Quota_May : Hint := (.seq .d (.seq (.blk (.seq (.reg (.run [0, 4, 12, 16, 20] (.join [.slot 8 (tInt .i64), .slot 12 (tInt .i64)] 4352 [] (.both 2 6 (.run [26] .nil) (.run [11] .nil)) (.run [28, 32] .nil)))) (.cond .d (.seq (.reg (.run [0, 8, 12, 16] (.join [.slot 16 (tInt .i64), .slot 20 (tInt .i64)] 1114112 [] (.both 1 5 (.run [22] .nil) (.run [7] .nil)) (.run [24, 28] .nil)))) .d)))) .d))
def s_quota_Quota_May : Spec Tryz.prog := mkSpec x_quota_Quota_May 167 Tryz.f167 [tPtr, (tInt .i64)] [(tInt .i64)] false h_quota_Quota_May (fun a => m_quota_Quota_May a.1 a.2) (fun a K h => by kernel_rfl) callee167 rfl
def m_quota_Quota_Add (a0 : Option Addr) (a1 : Int) (K : (Int) → H → Prop) : H → Prop :=
 m_quota_Quota_May a0 a1 fun r1 =>
 mIf (decide (r1 = 0)) (
 mDeref a0 fun ad2 =>
 mLoad cMap (ad2.add 2) fun x3 =>
 mLookup (eqV Tryz.prog 40 3) (Value.int .i64) 0 x3 (Value.int .i64 a1) fun r4 =>
 mMapSet (eqV Tryz.prog 40 3) x3 (Value.int .i64 a1) (Value.int .i64 (iAdd .i64 r4.1 1)) <|
 K r1
 ) (
 K r1
 )
def x_quota_Quota_Add : Cx Tryz.prog := ⟨tys, [s_quota_Quota_May], [], [], mixed⟩
def h_quota_Quota_Add : Hint := .d
def s_quota_Quota_Add : Spec Tryz.prog := mkSpec x_quota_Quota_Add 92 Tryz.f92 [tPtr, (tInt .i64)] [(tInt .i64)] false h_quota_Quota_Add (fun a => m_quota_Quota_Add a.1 a.2) (fun a K h => by kernel_rfl) callee92 rfl
end Go.Proofs.YtcclfjhnpeappaaGreat.K
namespace Go.Proofs.YtcclfjhnpeappaaGreat.K
open Go
theorem keyI {t : TypeId} (hu : Tryz.prog.underlying t = some (.int .i64)) : KeyEq (eqV Tryz.prog 40 t) (Value.int .i64) := fun a b => by
  show eqV Tryz.prog (39 + 1) t _ _ = _
  rw [eqV.eq_2, hu]
  rfl
structure QuotaAt (h : H) (p b : Nat) (each all : Int) (l : List (Int × Int)) : Prop where
  cell : h p = some (.cells (S_quota_Quota.cells ⟨each, all, some b⟩).toArray N_quota_Quota (0, 0))
  map : MapOf (Value.int .i64) (Value.int .i64) h b l
  ne : p ≠ b
  once : Once l
  pos : ∀ q ∈ l, 1 ≤ q.2
  bnd : asum l ≤ 256
theorem QuotaAt.keep {h h' : H} {p b : Nat} {each all : Int} {l : List (Int × Int)} (x : QuotaAt h p b each all l) (k : Keeps h h') : QuotaAt h' p b each all l := ⟨k _ _ x.cell, x.map.keep k, x.ne, x.once, x.pos, x.bnd⟩
theorem QuotaAt.but {h h' : H} {F : Nat → Prop} {p b : Nat} {each all : Int} {l : List (Int × Int)} (x : QuotaAt h p b each all l) (k : But F h h') (f1 : ¬ F p) (f2 : ¬ F b) : QuotaAt h' p b each all l := ⟨k _ _ x.cell f1, x.map.but k f2, x.ne, x.once, x.pos, x.bnd⟩
def qcnt (l : List (Int × Int)) (k : Int) : Int := (alook l k).getD 0
section
variable {h : H} {p b : Nat} {each all : Int} {l : List (Int × Int)}
theorem QuotaAt.f0 (x : QuotaAt h p b each all l) : At h ((⟨p, 0, none⟩ : Addr).add 0) (cInt .i64 each) := At.own (l1 := []) (l3 := (S_quota_Quota.cells ⟨each, all, some b⟩).drop 1) x.cell rfl
theorem QuotaAt.f1 (x : QuotaAt h p b each all l) : At h ((⟨p, 0, none⟩ : Addr).add 1) (cInt .i64 all) := At.own (l1 := (S_quota_Quota.cells ⟨each, all, some b⟩).take 1) (l3 := (S_quota_Quota.cells ⟨each, all, some b⟩).drop 2) x.cell rfl
theorem QuotaAt.f2 (x : QuotaAt h p b each all l) : At h ((⟨p, 0, none⟩ : Addr).add 2) (cMap (some b)) := At.own (l1 := (S_quota_Quota.cells ⟨each, all, some b⟩).take 2) (l3 := []) x.cell rfl
theorem qcnt_nonneg (x : ∀ q ∈ l, 1 ≤ q.2) (k : Int) : 0 ≤ qcnt l k := by
  unfold qcnt
  cases e : alook l k with
  | none => exact Int.le_refl _
  | some v => have h : (1 : Int) ≤ v := x _ (alook_mem e); show (0 : Int) ≤ v; omega
theorem qcnt_le (x : ∀ q ∈ l, 1 ≤ q.2) (k : Int) : qcnt l k ≤ asum l := by
  have := asum_del k l
  have h2 := asum_nonneg (l := adel l k) fun q hq => x q (adel_sub k l q hq)
  unfold qcnt
  omega
theorem t_QNew {each all : Int} {K : Option Addr × Int → H → Prop} (bad : (each < 1 ∨ 256 < each ∨ all < 1 ∨ 256 < all) → K (none, 16) h)
    (good : 1 ≤ each → each ≤ 256 → 1 ≤ all → all ≤ 256 → ∀ p b h', QuotaAt h' p b each all [] → Keeps h h' → h p = none → h b = none → K (some ⟨p, 0, none⟩, 0) h') : m_quota_New each all K h := by
  unfold m_quota_New
  refine w_if (fun c => bad ?_) fun c => ?_
  · simp only [Bool.or_eq_true, decide_eq_true_eq] at c; omega
  · simp only [Bool.or_eq_false_iff, decide_eq_false_iff_not] at c
    refine w_makeMap (Value.int .i64) (Value.int .i64) fun b h1 f1 x1 k1 => w_new fun p fp => ?_
    have hb : ∃ o, h1 b = some o := by obtain ⟨_, _, e, _⟩ := x1.ex; exact ⟨_, e⟩
    refine good (by omega) (by omega) (by omega) (by omega) p b _ ⟨upd_same _ _ _, x1.keep (.new fp), fun e => ?_, List.nodup_nil, fun q hq => (by cases hq), by decide⟩ (k1.trans (.new fp)) (k1.fresh fp) f1
    subst e; obtain ⟨o, e⟩ := hb; rw [fp] at e; cases e
theorem t_QOf (x : QuotaAt h p b each all l) {k : Int} {K : Int → H → Prop} (y : K (qcnt l k) h) : m_quota_Quota_Of (some ⟨p, 0, none⟩) k K h := by
  unfold m_quota_Quota_Of
  exact w_deref (w_load x.f2 (w_lookup (keyI (by kernel_rfl)) x.map y))
theorem t_QAll (x : QuotaAt h p b each all l) {K : Int → H → Prop} (y : ∀ h', Keeps h h' → K (asum l) h') : m_quota_Quota_All (some ⟨p, 0, none⟩) K h := by
  unfold m_quota_Quota_All
  refine w_deref (w_load x.f2 (w_range x.map fun it h1 f1 it1 k1 => ?_))
  have hne : it.block ≠ b := fun e => by
    obtain ⟨_, _, z, _⟩ := x.map.ex
    rw [e, z] at f1; cases f1
  refine w_for l.length (fun j s h' => ∃ rest at_, IterOf (Value.int .i64) (Value.int .i64) h' it b l rest at_ ∧ rest.length + j = l.length ∧ s + asum rest = asum l ∧ 0 ≤ s ∧ (∀ q ∈ rest, 1 ≤ q.2) ∧ But (· = it.block) h1 h') ?_ ⟨l, none, it1, rfl, by omega, Int.le_refl _, x.pos, .refl _ _⟩
  rintro rec j s h2 hj ⟨rest, at_, it2, hl, hs, hs0, hp, b2⟩ more
  refine w_next it2 hne (fun e => w_ifF rfl ?_) fun q rest' h3 pm it3 b3 d3 => w_ifT rfl (w_entry it3 ?_)
  · subst e
    have : s = asum l := by simpa [asum] using hs
    subst this
    exact y h2 (k1.but b2 fun n e => by subst e; exact f1)
  · have e1 := asum_perm pm
    have e2 := pm.length_eq
    have hp' : ∀ z ∈ q :: rest', 1 ≤ z.2 := fun z hz => hp z (pm.symm.subset hz)
    have h0 := asum_nonneg fun z hz => hp' z (List.mem_cons_of_mem _ hz)
    have h1q := hp' q (List.mem_cons_self ..)
    have hb := x.bnd
    simp only [asum, List.length_cons] at e1 e2
    refine more _ _ (by omega) ⟨rest', some q, it3, by omega, ?_, ?_, fun z hz => hp' z (List.mem_cons_of_mem _ hz), b2.trans b3 fun _ f => .inl f⟩
    · rw [iAdd_eq (by omega) (by omega)]; omega
    · rw [iAdd_eq (by omega) (by omega)]; omega
def mayOf (each all : Int) (l : List (Int × Int)) (k : Int) : Int := if each ≤ qcnt l k then 9 else if all ≤ asum l then 10 else 0
theorem t_QMay (x : QuotaAt h p b each all l) {k : Int} {K : Int → H → Prop} (y : ∀ h', Keeps h h' → K (mayOf each all l k) h') : m_quota_Quota_May (some ⟨p, 0, none⟩) k K h := by
  unfold m_quota_Quota_May
  unfold mayOf at y
  refine w_deref (w_joinV (qcnt l k, each) (fun j hj => w_both (t_QOf x (w_load x.f0 hj)) (w_load x.f0 (t_QOf x hj))) ?_)
  refine w_if' (fun c => ?_) fun c => ?_
  · have c : each ≤ qcnt l k := c
    simp only [if_pos c] at y
    exact y h (.refl _)
  have c : ¬ each ≤ qcnt l k := c
  simp only [if_neg c] at y
  refine w_deref (w_joinP (fun z h' => z = (asum l, all) ∧ Keeps h h') (fun j hj => w_both (t_QAll x fun h' k' => w_load (x.keep k').f1 (hj _ _ ⟨rfl, k'⟩)) (w_load x.f1 (t_QAll x fun h' k' => hj _ _ ⟨rfl, k'⟩))) ?_)
  rintro _ h' ⟨rfl, k'⟩
  refine w_if' (fun c2 => ?_) fun c2 => ?_
  · have c2 : all ≤ asum l := c2
    simp only [if_pos c2] at y
    exact y h' k'
  · have c2 : ¬ all ≤ asum l := c2
    simp only [if_neg c2] at y
    exact y h' k'
def addL (each all : Int) (l : List (Int × Int)) (k : Int) : List (Int × Int) := if mayOf each all l k = 0 then aset l k (qcnt l k + 1) else l
theorem may_zero {each all : Int} {l : List (Int × Int)} {k : Int} (h : mayOf each all l k = 0) : qcnt l k < each ∧ asum l < all := by
  unfold mayOf at h
  split at h
  · cases h
  · split at h
    · cases h
    · omega
structure Chg (b : Nat) (h h' : H) : Prop where
  but : But (· = b) h h'
  dom : ∀ c, h' c = none → h c = none
theorem Chg.refl (b : Nat) (h : H) : Chg b h h := ⟨.refl _ _, fun _ e => e⟩
theorem Chg.keeps {b : Nat} {h h' : H} (k : Keeps h h') : Chg b h h' := ⟨.of k, fun _ e => k.fresh e⟩
theorem Chg.trans {b : Nat} {h h1 h2 : H} (x : Chg b h h1) (y : Chg b h1 h2) : Chg b h h2 := ⟨x.but.trans y.but fun _ f => .inl f, fun c e => x.dom c (y.dom c e)⟩
theorem QuotaAt.set (x : QuotaAt h p b each all l) {h' : H} {k v : Int} (m : MapOf (Value.int .i64) (Value.int .i64) h' b (aset l k v)) (bt : But (· = b) h h') (hv : 1 ≤ v) (hs : asum l - qcnt l k + v ≤ 256) : QuotaAt h' p b each all (aset l k v) :=
  ⟨bt _ _ x.cell x.ne, m, x.ne, x.once.set _ _, fun q hq => (aset_mem k v l q hq).elim (fun e => by rw [e]; exact hv) (x.pos q), by rw [asum_set]; exact hs⟩
theorem t_QAdd (x : QuotaAt h p b each all l) (ha : all ≤ 256) {k : Int} {K : Int → H → Prop} (y : ∀ h', QuotaAt h' p b each all (addL each all l k) → Chg b h h' → K (mayOf each all l k) h') : m_quota_Quota_Add (some ⟨p, 0, none⟩) k K h := by
  unfold m_quota_Quota_Add
  refine t_QMay x fun h1 k1 => ?_
  have x1 := x.keep k1
  unfold addL at y
  refine w_if' (fun c => ?_) fun c => ?_
  · simp only [if_pos c] at y
    obtain ⟨m1, m2⟩ := may_zero c
    have c0 := qcnt_nonneg x.pos k
    have c1 := qcnt_le x.pos k
    have hb := x.bnd
    refine w_deref (w_load x1.f2 (w_lookup (keyI (by kernel_rfl)) x1.map ?_))
    show mMapSet _ _ _ (Value.int .i64 (iAdd .i64 (qcnt l k) 1)) _ h1
    rw [iAdd_eq (by omega) (by omega)]
    refine w_mapSet (keyI (by kernel_rfl)) x1.map rfl rfl fun h2 mp b2 d2 => ?_
    exact y h2 (x1.set mp b2 (by omega) (by omega)) ((Chg.keeps k1).trans ⟨b2, d2⟩)
  · simp only [if_neg c] at y
    exact y h1 x1 (.keeps k1)
def subOk (l : List (Int × Int)) (k n : Int) : Bool := decide (0 ≤ n) && decide (n ≤ qcnt l k)
def subL (l : List (Int × Int)) (k n : Int) : List (Int × Int) := if subOk l k n = true then (if qcnt l k - n = 0 then adel l k else aset l k (qcnt l k - n)) else l
theorem adel_aset {k v : Int} : ∀ l : List (Int × Int), adel (aset l k v) k = adel l k := by
  intro l
  induction l with
  | nil => simp [aset, aidx, adel]
  | cons p r ih =>
    obtain ⟨a, w⟩ := p
    rw [aset_cons, adel_cons]
    by_cases e : k = a
    · rw [if_pos e, if_pos e, adel_cons, if_pos rfl]
    · rw [if_neg e, if_neg e, adel_cons, if_neg e, ih]
theorem t_QSub (x : QuotaAt h p b each all l) {k n : Int} {K : Int → H → Prop} (y : ∀ h', QuotaAt h' p b each all (subL l k n) → Chg b h h' → K (if subOk l k n = true then 0 else 20) h') : m_quota_Quota_Sub (some ⟨p, 0, none⟩) k n K h := by
  unfold m_quota_Quota_Sub
  unfold subL at y
  have c0 := qcnt_nonneg x.pos k
  have c1 := qcnt_le x.pos k
  have hb := x.bnd
  refine w_joinV (!subOk l k n) (fun j hj => w_if' (fun c => ?_) fun c => ?_) ?_
  · unfold subOk at hj
    rw [decide_eq_false (by omega : ¬ 0 ≤ n)] at hj
    exact hj
  · refine t_QOf x ?_
    have e : decide (qcnt l k < n) = !subOk l k n := by
      unfold subOk
      rw [decide_eq_true (by omega : 0 ≤ n), Bool.true_and]
      rw [Bool.eq_iff_iff]; simp
    rw [e]; exact hj
  refine w_if (fun c => ?_) fun c => ?_
  · rw [Bool.not_eq_true'] at c
    rw [c] at y
    exact y h x (.refl _ _)
  rw [Bool.not_eq_false'] at c
  rw [c] at y
  simp only [if_true] at y
  have c' := c
  unfold subOk at c'
  rw [Bool.and_eq_true, decide_eq_true_eq, decide_eq_true_eq] at c'
  refine w_deref (w_load x.f2 (w_lookup (keyI (by kernel_rfl)) x.map ?_))
  show mMapSet _ _ _ (Value.int .i64 (iSub .i64 (qcnt l k) n)) _ h
  rw [iSub_eq (by omega) (by omega)]
  refine w_mapSet (keyI (by kernel_rfl)) x.map rfl rfl fun h2 mp b2 d2 => ?_
  have g2 : At h2 ((⟨p, 0, none⟩ : Addr).add 2) (cMap (some b)) := x.f2.but b2 fun e => x.ne (by rw [add_block] at e; exact e)
  refine w_deref (w_load g2 (w_lookup (keyI (by kernel_rfl)) mp ?_))
  have hlk : (alook (aset l k (qcnt l k - n)) k).getD 0 = qcnt l k - n := by rw [alook_set, if_pos rfl]; rfl
  show mIf (decide ((alook (aset l k (qcnt l k - n)) k).getD 0 = 0)) _ _ h2
  rw [hlk]
  refine w_if' (fun c2 => ?_) fun c2 => ?_
  · simp only [if_pos c2] at y
    refine w_deref (w_load g2 (w_mapDel (keyI (by kernel_rfl)) mp rfl fun h3 mp3 b3 d3 => ?_))
    rw [adel_aset] at mp3
    refine y h3 ⟨b3 _ _ (b2 _ _ x.cell x.ne) x.ne, mp3, x.ne, x.once.del k, fun q hq => x.pos q (adel_sub k l q hq), ?_⟩ ((⟨b2, d2⟩ : Chg b h h2).trans ⟨b3, d3⟩)
    rw [asum_del]
    show asum l - qcnt l k ≤ 256
    omega
  · simp only [if_neg c2] at y
    exact y h2 (x.set mp b2 (by omega) (by omega)) ⟨b2, d2⟩
end
section
variable {h : H} {p b : Nat} {each all : Int} {l : List (Int × Int)}
theorem cnt_set (k v k' : Int) (l : List (Int × Int)) : qcnt (aset l k v) k' = if k' = k then v else qcnt l k' := by
  unfold qcnt
  rw [alook_set]
  split <;> rfl
theorem cnt_del (k k' : Int) {l : List (Int × Int)} (x : Once l) : qcnt (adel l k) k' = if k' = k then 0 else qcnt l k' := by
  unfold qcnt
  rw [alook_del k k' l x]
  split <;> rfl
theorem subL_eq {l : List (Int × Int)} {k n : Int} (ho : Once l) (e : subOk l k n = true) : asum (subL l k n) = asum l - n ∧ ∀ k', qcnt (subL l k n) k' = if k' = k then qcnt l k - n else qcnt l k' := by
  unfold subL
  rw [if_pos e]
  split
  · rename_i z
    refine ⟨by rw [asum_del]; show asum l - qcnt l k = _; omega, fun k' => ?_⟩
    rw [cnt_del k k' ho, z]
  · refine ⟨by rw [asum_set]; show asum l - qcnt l k + (qcnt l k - n) = _; omega, fun k' => cnt_set _ _ _ _⟩
end
end Go.Proofs.YtcclfjhnpeappaaGreat.K
namespace Go.Proofs.YtcclfjhnpeappaaGreat.K
open Go Go.Proofs
def m_ref12_New (a0 : Int) (a1 : Int) (K : (Option Addr × Int) → H → Prop) : H → Prop :=
 mIf ((((decide (a0 < 1)) || (decide (256 < a0))) || (decide (a1 < 1))) || (decide (256 < a1))) (
 K (none, 16)
 ) (
 mNew 153 #[(Value.int .i64 a0), (Value.int .i64 a1), (Sl.val Sl.nil)] fun ad1 =>
 K ((some ad1), 0)
 )
def x_ref12_New : Cx Tryz.prog := ⟨tys, [], [], [], mixed⟩
def h_ref12_New : Hint := (.seq .d (.seq (.seq (.reg (.run [3, 7, 11] (.sel 8 11 3584 (.run [15, 19, 23] .nil) (.run [15, 19, 23] .nil) (.run [27] (.sel 12 15 57344 (.run [31, 35, 39] .nil) (.run [31, 35, 39] .nil) (.run [43] (.sel 16 19 917504 (.run [47, 51, 55] .nil) (.run [47, 51, 55] .nil) .nil))))))) .d) .d))
def s_ref12_New : Spec Tryz.prog := mkSpec x_ref12_New 76 Tryz.f76 [(tInt .i64), (tInt .i64)] [tPtr, (tInt .i64)] false h_ref12_New (fun a => m_ref12_New a.1 a.2) (fun a K h => by kernel_rfl) callee76 rfl
def m_ref12_Quota_Of (a0 : Option Addr) (a1 : Int) (K : (Int) → H → Prop) : H → Prop :=
 mLoop (fun (rec2 : (Int × Int) → H → Prop) (s1 : Int × Int) =>
 mDeref a0 fun ad3 =>
 mLoad cSl (ad3.add 2) fun x4 =>
 mIf (decide (s1.2 < (x4.len : Int))) (
 mDeref a0 fun ad5 =>
 mLoad cSl (ad5.add 2) fun x6 =>
 mIdx x6 s1.2 1 fun ad7 =>
 mLoad (cInt .i64) ad7 fun x8 =>
 mIf (decide (x8 = a1)) (
 rec2 ((iAdd .i64 s1.1 1), (iAdd .i64 s1.2 1))
 ) (
 rec2 (s1.1, (iAdd .i64 s1.2 1))
 )
 ) (
 K s1.1
 )
 ) (0, 0)
def x_ref12_Quota_Of : Cx Tryz.prog := ⟨tys, [], [], [], mixed⟩
def h_ref12_Quota_Of : Hint := (.seq .d (.seq .d (.seq (.seq .d (.blk (.loop [.slot 5 (tInt .i64), .slot 6 (tInt .i64)] 134217696 [] .d))) .d)))
def s_ref12_Quota_Of : Spec Tryz.prog := mkSpec x_ref12_Quota_Of 37 Tryz.f37 [tPtr, (tInt .i64)] [(tInt .i64)] false h_ref12_Quota_Of (fun a => m_ref12_Quota_Of a.1 a.2) (fun a K h => by kernel_rfl) callee37 rfl
def m_ref12_Quota_May (a0 : Option Addr) (a1 : Int) (K : (Int) → H → Prop) : H → Prop :=
 mDeref a0 fun ad1 =>
 mJoin (fun (s2 : Int × Int) =>
 mIf (decide (s2.2 ≤ s2.1)) (
 K 9
 ) (
 mDeref a0 fun ad8 =>
 mDeref a0 fun ad9 =>
 mLoad cSl (ad8.add 2) fun x10 =>
 mLoad (cInt .i64) (ad9.add 1) fun x11 =>
 mIf (decide (x11 ≤ (x10.len : Int))) (
 K 10
 ) (
 K 0
 )
 )
 ) (fun j3 =>
 mBoth (
 m_ref12_Quota_Of a0 a1 fun r4 =>
 mLoad (cInt .i64) (ad1.add 0) fun x5 =>
 j3 (r4, x5)
 ) (
 mLoad (cInt .i64) (ad1.add 0) fun x6 =>
 m_ref12_Quota_Of a0 a1 fun r7 =>
 j3 (r7, x6)
 ))
def x_ref12_Quota_May : Cx Tryz.prog := ⟨tys, [s_ref12_Quota_Of], [], [], mixed⟩
def h_ref12_Quota_May : Hint := (.seq .d (.seq (.seq (.reg (.run [0, 4, 12, 16, 20] (.join [.slot 7 (tInt .i64), .slot 11 (tInt .i64)] 2176 [] (.both 2 6 (.run [26] .nil) (.run [11] .nil)) (.run [28] .nil)))) .d) (.seq (.seq (.reg (.run [0, 4, 8, 20, 24, 28, 14, 16, 34, 36] .nil)) .d) .d)))
def s_ref12_Quota_May : Spec Tryz.prog := mkSpec x_ref12_Quota_May 94 Tryz.f94 [tPtr, (tInt .i64)] [(tInt .i64)] false h_ref12_Quota_May (fun a => m_ref12_Quota_May a.1 a.2) (fun a K h => by kernel_rfl) callee94 rfl
def m_ref12_Quota_Add (a0 : Option Addr) (a1 : Int) (K : (Int) → H → Prop) : H → Prop :=
 m_ref12_Quota_May a0 a1 fun r1 =>
 mIf (decide (r1 = 0)) (
 mDeref a0 fun ad2 =>
 mLoad cSl (ad2.add 2) fun x3 =>
 mApp 3 1 8 #[(Value.int .i64 0)] 1 [(Value.int .i64 a1)] x3 fun s4 =>
 mDeref a0 fun ad5 =>
 mStore (ad5.add 2) [(Sl.val s4)] <|
 K r1
 ) (
 K r1
 )
def x_ref12_Quota_Add : Cx Tryz.prog := ⟨tys, [s_ref12_Quota_May], [17], [], mixed⟩
def h_ref12_Quota_Add : Hint := .d
def s_ref12_Quota_Add : Spec Tryz.prog := mkSpec x_ref12_Quota_Add 93 Tryz.f93 [tPtr, (tInt .i64)] [(tInt .i64)] false h_ref12_Quota_Add (fun a => m_ref12_Quota_Add a.1 a.2) (fun a K h => by kernel_rfl) callee93 rfl
end Go.Proofs.YtcclfjhnpeappaaGreat.K
namespace Go.Proofs.YtcclfjhnpeappaaGreat.K
open Go
structure RefQ (h : H) (r : Nat) (each most : Int) (s : Sl) (L : List Int) : Prop where
  cell : h r = some (.cells (S_ref12_Quota.cells ⟨each, most, s⟩).toArray N_ref12_Quota (0, 0))
  buf : Buf (cInt .i64) 1 N_int h s L
  ne : ¬ s.foot r
  len : L.length ≤ 256
def rmayOf (each most : Int) (L : List Int) (k : Int) : Int := if each ≤ (L.count k : Int) then 9 else if most ≤ (L.length : Int) then 10 else 0
section
variable {h : H} {r : Nat} {each most : Int} {s : Sl} {L : List Int}
theorem RefQ.but {h' : H} {F : Nat → Prop} (x : RefQ h r each most s L) (k : But F h h') (f1 : ¬ F r) (f2 : ∀ c, s.foot c → ¬ F c) : RefQ h' r each most s L :=
  ⟨k _ _ x.cell f1, x.buf.but k fun a ha => f2 _ ⟨a, ha, rfl⟩, x.ne, x.len⟩
theorem RefQ.keep {h' : H} (x : RefQ h r each most s L) (k : Keeps h h') : RefQ h' r each most s L := ⟨k _ _ x.cell, x.buf.keep k, x.ne, x.len⟩
theorem RefQ.f0 (x : RefQ h r each most s L) : At h ((⟨r, 0, none⟩ : Addr).add 0) (cInt .i64 each) := At.own (l1 := []) (l3 := (S_ref12_Quota.cells ⟨each, most, s⟩).drop 1) x.cell rfl
theorem RefQ.f1 (x : RefQ h r each most s L) : At h ((⟨r, 0, none⟩ : Addr).add 1) (cInt .i64 most) := At.own (l1 := (S_ref12_Quota.cells ⟨each, most, s⟩).take 1) (l3 := (S_ref12_Quota.cells ⟨each, most, s⟩).drop 2) x.cell rfl
theorem RefQ.f2 (x : RefQ h r each most s L) : At h ((⟨r, 0, none⟩ : Addr).add 2) (cSl s) := At.own (l1 := (S_ref12_Quota.cells ⟨each, most, s⟩).take 2) (l3 := []) x.cell rfl
theorem t_QRNew {each most : Int} {K : Option Addr × Int → H → Prop} (bad : (each < 1 ∨ 256 < each ∨ most < 1 ∨ 256 < most) → K (none, 16) h)
    (good : 1 ≤ each → each ≤ 256 → 1 ≤ most → most ≤ 256 → ∀ r h', RefQ h' r each most Sl.nil [] → Keeps h h' → h r = none → K (some ⟨r, 0, none⟩, 0) h') : m_ref12_New each most K h := by
  unfold m_ref12_New
  refine w_if (fun c => bad ?_) fun c => ?_
  · simp only [Bool.or_eq_true, decide_eq_true_eq] at c; omega
  · simp only [Bool.or_eq_false_iff, decide_eq_false_iff_not] at c
    exact w_new fun r fr => good (by omega) (by omega) (by omega) (by omega) r _ ⟨upd_same _ _ _, Buf.nil, (fun ⟨a, ha, _⟩ => by cases ha), by decide⟩ (.new fr) fr
theorem t_QROf (x : RefQ h r each most s L) {k : Int} {K : Int → H → Prop} (y : K (L.count k : Int) h) : m_ref12_Quota_Of (some ⟨r, 0, none⟩) k K h := by
  unfold m_ref12_Quota_Of
  have hl := x.buf.len
  have hL := x.len
  refine w_for L.length (fun j z h' => z = ((((L.take j).count k : Nat) : Int), (j : Int)) ∧ h = h') ?_ ⟨rfl, rfl⟩
  rintro rec j _ _ hj ⟨rfl, rfl⟩ more
  refine w_deref (w_load x.f2 (w_if' (fun c => ?_) fun c => ?_))
  · have c : (j : Int) < (s.len : Int) := c
    have e : L[j]? = some L[j] := List.getElem?_eq_getElem (by omega)
    have hct : ((L.take j).count k) ≤ j := by
      have h1 := List.count_le_length (a := k) (l := L.take j)
      rw [List.length_take] at h1; omega
    refine w_deref (w_load x.f2 (w_get ci_len x.buf.arr e rfl (v' := L[j]) rfl ?_))
    have et : (L.take (j + 1)).count k = (L.take j).count k + if L[j] = k then 1 else 0 := by
      rw [List.take_add_one, e, Option.toList_some, List.count_append, List.count_singleton]
      by_cases q : L[j] = k
      · rw [if_pos q, if_pos (by simpa using q)]
      · rw [if_neg q, if_neg (by simpa using q)]
    show mIf (decide (L[j] = k)) (rec (iAdd .i64 (((L.take j).count k : Nat) : Int) 1, iAdd .i64 (j : Int) 1)) (rec ((((L.take j).count k : Nat) : Int), iAdd .i64 (j : Int) 1)) h
    rw [ia1 j (by omega), ia1 ((L.take j).count k) (by omega)]
    refine w_if' (fun c2 => ?_) fun c2 => ?_
    · rw [if_pos c2] at et
      exact more _ _ (by omega) ⟨by rw [et], rfl⟩
    · rw [if_neg c2] at et
      exact more _ _ (by omega) ⟨by rw [et]; rfl, rfl⟩
  · have c : ¬ (j : Int) < (s.len : Int) := c
    obtain rfl : j = L.length := by omega
    rw [List.take_length]
    exact y
theorem t_QRMay (x : RefQ h r each most s L) {k : Int} {K : Int → H → Prop} (y : K (rmayOf each most L k) h) : m_ref12_Quota_May (some ⟨r, 0, none⟩) k K h := by
  unfold m_ref12_Quota_May
  unfold rmayOf at y
  have hl := x.buf.len
  refine w_deref (w_joinV ((L.count k : Int), each) (fun j hj => w_both (t_QROf x (w_load x.f0 hj)) (w_load x.f0 (t_QROf x hj))) ?_)
  refine w_if' (fun c => ?_) fun c => ?_
  · have c : each ≤ (L.count k : Int) := c
    rw [if_pos c] at y; exact y
  have c : ¬ each ≤ (L.count k : Int) := c
  rw [if_neg c] at y
  refine w_deref (w_deref (w_load x.f2 (w_load x.f1 (w_if' (fun c2 => ?_) fun c2 => ?_))))
  · rw [if_pos (by omega)] at y; exact y
  · rw [if_neg (by omega)] at y; exact y
theorem t_RAdd (x : RefQ h r each most s L) (hm : most ≤ 256) {k : Int} {K : Int → H → Prop}
    (y : ∀ s' L' h', (L' = if rmayOf each most L k = 0 then L ++ [k] else L) → RefQ h' r each most s' L' → But (fun c => c = r ∨ s.foot c) h h' → (∀ c, s'.foot c → s.foot c ∨ h c = none) → (∀ c, h' c = none → h c = none) → K (rmayOf each most L k) h') : m_ref12_Quota_Add (some ⟨r, 0, none⟩) k K h := by
  unfold m_ref12_Quota_Add
  have hL := x.len
  refine t_QRMay x (w_if' (fun c => ?_) fun c => ?_)
  · refine w_deref (w_load x.f2 ?_)
    refine w_app (by_ := 8) ci_len rfl x.buf [k] rfl rfl (.inl (by simp only [List.length_singleton]; omega)) fun s2 h2 bu2 b2 f2 d2 => ?_
    have c2 : h2 r = some (.cells (S_ref12_Quota.cells ⟨each, most, s⟩).toArray N_ref12_Quota (0, 0)) := b2 _ _ x.cell x.ne
    have nr : ¬ s2.foot r := fun f => (f2 r f).elim x.ne fun e => by rw [x.cell] at e; cases e
    have hlt : (L.length : Int) < most := by
      unfold rmayOf at c
      split at c
      · cases c
      · split at c
        · cases c
        · omega
    refine w_deref (w_store (l1 := (S_ref12_Quota.cells ⟨each, most, s⟩).take 2) (l2 := cSl s) (l3 := []) rfl c2 rfl rfl ?_)
    refine y s2 (L ++ [k]) _ (by rw [if_pos c]) ⟨upd_same _ _ _, bu2.but (But.upd (F := (· = r)) rfl) fun a ha e => nr ⟨a, ha, e⟩, nr, by simp; omega⟩ ?_ f2 fun c e => d2 c (upd_none.1 e).2
    exact (b2.mono fun n f => .inr f).trans (But.upd (F := (· = r)) rfl) fun n e => .inl (.inl e)
  · exact y s L h (by rw [if_neg c]) x (.refl _ _) (fun c f => .inl f) fun _ e => e
end
def RelQ (l : List (Int × Int)) (L : List Int) : Prop := (∀ k, qcnt l k = (L.count k : Int)) ∧ asum l = (L.length : Int)
theorem RelQ.code {each all : Int} {l : List (Int × Int)} {L : List Int} (x : RelQ l L) (k : Int) : mayOf each all l k = rmayOf each all L k := by
  unfold mayOf rmayOf
  rw [x.1 k, x.2]
theorem RelQ.add {each all : Int} {l : List (Int × Int)} {L : List Int} (x : RelQ l L) (k : Int) : RelQ (addL each all l k) (if rmayOf each all L k = 0 then L ++ [k] else L) := by
  unfold addL
  rw [x.code k]
  split
  · refine ⟨fun k' => ?_, ?_⟩
    · rw [cnt_set, List.count_append, x.1 k, List.count_singleton]
      by_cases e : k' = k
      · subst e; simp
      · rw [if_neg e, x.1 k', if_neg (by simpa using fun z => e z.symm)]; simp
    · rw [asum_set, List.length_append, x.2]
      show (L.length : Int) - qcnt l k + (qcnt l k + 1) = _
      simp; omega
  · exact x
def dropN (k : Int) : List Int → Int → List Int
  | [], _ => []
  | x :: r, n => if x = k ∧ 0 < n then dropN k r (n - 1) else x :: dropN k r n
theorem qcnt_cons (x : Int) (t : List Int) (k : Int) : (((x :: t).count k : Nat) : Int) = (t.count k : Int) + (if x = k then 1 else 0) := by
  rw [List.count_cons]
  by_cases q : x = k
  · rw [if_pos q, if_pos (by simpa using q)]; simp
  · rw [if_neg q, if_neg (by simpa using q)]; simp
theorem dropN_count (k : Int) : ∀ (L : List Int) (n : Int), 0 ≤ n → n ≤ (L.count k : Int) → (∀ k', ((dropN k L n).count k' : Int) = if k' = k then (L.count k : Int) - n else (L.count k' : Int)) ∧ ((dropN k L n).length : Int) = (L.length : Int) - n := by
  intro L
  induction L with
  | nil =>
    intro n h0 h1
    have : n = 0 := by simp at h1; omega
    subst this
    refine ⟨fun k' => ?_, rfl⟩
    split <;> simp [dropN]
  | cons x r ih =>
    intro n h0 h1
    rw [qcnt_cons] at h1
    unfold dropN
    by_cases c : x = k ∧ 0 < n
    · rw [if_pos c]
      rw [if_pos c.1] at h1
      obtain ⟨a, b⟩ := ih (n - 1) (by omega) (by omega)
      refine ⟨fun k' => ?_, by rw [b, List.length_cons]; omega⟩
      rw [a, qcnt_cons, qcnt_cons, if_pos c.1]
      by_cases e : k' = k
      · rw [if_pos e, if_pos e]; omega
      · rw [if_neg e, if_neg e, if_neg (fun z => e (z.symm.trans c.1))]; omega
    · rw [if_neg c]
      have hn : n ≤ (r.count k : Int) := by
        by_cases e : x = k
        · have : ¬ 0 < n := fun z => c ⟨e, z⟩
          omega
        · rw [if_neg e] at h1; omega
      obtain ⟨a, b⟩ := ih n h0 hn
      refine ⟨fun k' => ?_, by rw [List.length_cons, List.length_cons]; omega⟩
      rw [qcnt_cons, qcnt_cons, qcnt_cons, a]
      by_cases e : k' = k
      · rw [if_pos e, if_pos e, e]; omega
      · rw [if_neg e, if_neg e]
def rsubOk (L : List Int) (k n : Int) : Bool := decide (0 ≤ n) && decide (n ≤ (L.count k : Int))
theorem RelQ.subOk {l : List (Int × Int)} {L : List Int} (x : RelQ l L) (k n : Int) : subOk l k n = rsubOk L k n := by
  unfold K.subOk rsubOk
  rw [x.1 k]
theorem RelQ.sub {l : List (Int × Int)} {L : List Int} (x : RelQ l L) (ho : Once l) (k n : Int) : RelQ (subL l k n) (if rsubOk L k n = true then dropN k L n else L) := by
  cases e : rsubOk L k n with
  | false =>
    have : subL l k n = l := by unfold subL; rw [x.subOk, e]; rfl
    rw [this]; exact x
  | true =>
    have e' : K.subOk l k n = true := by rw [x.subOk, e]
    obtain ⟨h1, h2⟩ := subL_eq ho e'
    unfold rsubOk at e
    rw [Bool.and_eq_true, decide_eq_true_eq, decide_eq_true_eq] at e
    obtain ⟨a, b⟩ := dropN_count k L n e.1 e.2
    rw [if_pos rfl]
    refine ⟨fun k' => ?_, by rw [h1, b, x.2]⟩
    rw [h2, a, x.1 k, x.1 k']
end Go.Proofs.YtcclfjhnpeappaaGreat.K
namespace Go.Proofs.YtcclfjhnpeappaaGreat.K
open Go Go.Proofs
def m_arena_New (a0 : Int) (K : (Option Addr × Int) → H → Prop) : H → Prop :=
 mIf ((decide (a0 < 0)) || (decide (256 < a0))) (
 K (none, 16)
 ) (
 mJoin (fun (s1 : Sl × Sl) =>
 mNew 258 #[(Sl.val s1.1), (Sl.val s1.2)] fun ad7 =>
 K ((some ad7), 0)
 ) (fun j2 =>
 mBoth (
 mMake 263 64 #[(Value.int .u8 0), (Value.int .u8 0), (Value.int .u8 0), (Value.int .u8 0), (Value.int .u8 0), (Value.int .u8 0), (Value.int .u8 0), (Value.int .u8 0), (Value.int .u8 0), (Value.int .u8 0), (Value.int .u8 0), (Value.int .u8 0), (Value.int .u8 0), (Value.int .u8 0), (Value.int .u8 0), (Value.int .u8 0), (Value.int .u8 0), (Value.int .u8 0), (Value.int .u8 0), (Value.int .u8 0), (Value.int .u8 0), (Value.int .u8 0), (Value.int .u8 0), (Value.int .u8 0), (Value.int .u8 0), (Value.int .u8 0), (Value.int .u8 0), (Value.int .u8 0), (Value.int .u8 0), (Value.int .u8 0), (Value.int .u8 0), (Value.int .u8 0), (Value.int .u8 0), (Value.int .u8 0), (Value.int .u8 0), (Value.int .u8 0), (Value.int .u8 0), (Value.int .u8 0), (Value.int .u8 0), (Value.int .u8 0), (Value.int .u8 0), (Value.int .u8 0), (Value.int .u8 0), (Value.int .u8 0), (Value.int .u8 0), (Value.int .u8 0), (Value.int .u8 0), (Value.int .u8 0), (Value.int .u8 0), (Value.int .u8 0), (Value.int .u8 0), (Value.int .u8 0), (Value.int .u8 0), (Value.int .u8 0), (Value.int .u8 0), (Value.int .u8 0), (Value.int .u8 0), (Value.int .u8 0), (Value.int .u8 0), (Value.int .u8 0), (Value.int .u8 0), (Value.int .u8 0), (Value.int .u8 0), (Value.int .u8 0)] a0 a0 fun s3 =>
 mMake 4 1 #[(Value.bool false)] a0 a0 fun s4 =>
 j2 (s3, s4)
 ) (
 mMake 4 1 #[(Value.bool false)] a0 a0 fun s5 =>
 mMake 263 64 #[(Value.int .u8 0), (Value.int .u8 0), (Value.int .u8 0), (Value.int .u8 0), (Value.int .u8 0), (Value.int .u8 0), (Value.int .u8 0), (Value.int .u8 0), (Value.int .u8 0), (Value.int .u8 0), (Value.int .u8 0), (Value.int .u8 0), (Value.int .u8 0), (Value.int .u8 0), (Value.int .u8 0), (Value.int .u8 0), (Value.int .u8 0), (Value.int .u8 0), (Value.int .u8 0), (Value.int .u8 0), (Value.int .u8 0), (Value.int .u8 0), (Value.int .u8 0), (Value.int .u8 0), (Value.int .u8 0), (Value.int .u8 0), (Value.int .u8 0), (Value.int .u8 0), (Value.int .u8 0), (Value.int .u8 0), (Value.int .u8 0), (Value.int .u8 0), (Value.int .u8 0), (Value.int .u8 0), (Value.int .u8 0), (Value.int .u8 0), (Value.int .u8 0), (Value.int .u8 0), (Value.int .u8 0), (Value.int .u8 0), (Value.int .u8 0), (Value.int .u8 0), (Value.int .u8 0), (Value.int .u8 0), (Value.int .u8 0), (Value.int .u8 0), (Value.int .u8 0), (Value.int .u8 0), (Value.int .u8 0), (Value.int .u8 0), (Value.int .u8 0), (Value.int .u8 0), (Value.int .u8 0), (Value.int .u8 0), (Value.int .u8 0), (Value.int .u8 0), (Value.int .u8 0), (Value.int .u8 0), (Value.int .u8 0), (Value.int .u8 0), (Value.int .u8 0), (Value.int .u8 0), (Value.int .u8 0), (Value.int .u8 0)] a0 a0 fun s6 =>
 j2 (s6, s5)
 ))
 )
def x_arena_New : Cx Tryz.prog := ⟨tys, [], [], [], mixed⟩
def h_arena_New : Hint := (.seq .d (.seq (.seq (.reg (.run [3, 7, 11] (.sel 6 9 896 (.run [15, 19, 23] .nil) (.run [15, 19, 23] .nil) .nil))) .d) (.seq (.reg (.run [0, 8] (.join [.slot 11 tSl, .slot 13 tSl] 10240 [] (.both 1 3 (.run [15] .nil) (.run [7] .nil)) (.run [16, 22, 24, 28] .nil)))) .d)))
def s_arena_New : Spec Tryz.prog := mkSpec x_arena_New 143 Tryz.f143 [(tInt .i64)] [tPtr, (tInt .i64)] false h_arena_New (fun a => m_arena_New a) (fun a K h => by kernel_rfl) callee143 rfl
def m_arena_Arena_is (a0 : Option Addr) (a1 : Int) (K : (Bool) → H → Prop) : H → Prop :=
 mJoin (fun (s3 : Bool) =>
 mIf s3 (
 mDeref a0 fun ad9 =>
 mLoad cSl (ad9.add 1) fun x10 =>
 mIdx x10 a1 1 fun ad11 =>
 mLoad cBool ad11 fun x12 =>
 K x12
 ) (
 K false
 )
 ) (fun j4 =>
 mIf (decide (0 ≤ a1)) (
 mDeref a0 fun ad13 =>
 mLoad cSl (ad13.add 1) fun x14 =>
 j4 (decide (a1 < (x14.len : Int)))
 ) (
 j4 false
 ))
def x_arena_Arena_is : Cx Tryz.prog := ⟨tys, [], [], [], mixed⟩
def h_arena_Arena_is : Hint := (.seq .d (.seq (.reg (.run [3, 7, 11] (.join [.slot 15 tBool] 65280 [] (.split 7 (.run [15, 19, 23, 27, 31, 35, 39, 43] .nil) (.run [15, 19, 23, 27, 31, 35, 39, 43] .nil)) (.run [47] (.split 16 (.run [51, 55, 59, 63, 67, 71, 75, 79, 83] .nil) (.run [51, 55, 59, 63, 67, 71, 75, 79, 83] .nil)))))) .d))
def s_arena_Arena_is : Spec Tryz.prog := mkSpec x_arena_Arena_is 215 Tryz.f215 [tPtr, (tInt .i64)] [tBool] false h_arena_Arena_is (fun a => m_arena_Arena_is a.1 a.2) (fun a K h => by kernel_rfl) callee215 rfl
def m_arena_Arena_Give (a0 : Option Addr) (a1 : Sl) (K : (Int) → H → Prop) : H → Prop :=
 mLoop (fun (rec2 : Int → H → Prop) (s1 : Int) =>
 mIf (decide (s1 < (a1.len : Int))) (
 mIdx a1 s1 1 fun ad3 =>
 mLoad (cInt .i64) ad3 fun x4 =>
 m_arena_Arena_is a0 x4 fun r5 =>
 mJoin (fun (s8 : Bool) =>
 mIf s8 (
 K 20
 ) (
 rec2 (iAdd .i64 s1 1)
 )
 ) (fun j9 =>
 mIf (!r5) (
 j9 true
 ) (
 mCut a1 0 s1 1 fun s10 =>
 m_slices_Contains_int_int s10 x4 fun r11 =>
 j9 r11
 ))
 ) (
 mLoop (fun (rec13 : Int → H → Prop) (s12 : Int) =>
 mIf (decide (s12 < (a1.len : Int))) (
 mIdx a1 s12 1 fun ad14 =>
 mLoad (cInt .i64) ad14 fun x15 =>
 mDeref a0 fun ad16 =>
 mLoad cSl (ad16.add 1) fun x17 =>
 mIdx x17 x15 1 fun ad18 =>
 mStore ad18 [(Value.bool false)] <|
 rec13 (iAdd .i64 s12 1)
 ) (
 K 0
 )
 ) 0
 )
 ) 0
def x_arena_Arena_Give : Cx Tryz.prog := ⟨tys, [s_slices_Contains_int_int, s_arena_Arena_is], [], [], mixed⟩
def h_arena_Arena_Give : Hint := (.seq .d (.seq (.seq .d (.blk (.loop [.slot 11 (tInt .i64)] 268433520 [] (.seq .d (.seq .d (.seq (.blk (.seq .d (.seq (.reg (.run [3, 7, 11, 15, 19] (.join [.slot 26 tBool] 132120576 [] (.split 20 (.run [23, 27, 31, 35, 39, 43] .nil) (.run [23, 27, 31, 35, 39, 43] .nil)) .nil))) .d))) .d)))))) (.seq (.seq .d (.blk (.loop [.slot 30 (tInt .i64)] 2197949513984 [] .d))) .d)))
def s_arena_Arena_Give : Spec Tryz.prog := mkSpec x_arena_Arena_Give 189 Tryz.f189 [tPtr, tSl] [(tInt .i64)] false h_arena_Arena_Give (fun a => m_arena_Arena_Give a.1 a.2) (fun a K h => by kernel_rfl) callee189 rfl
def m_arena_Arena_place (a0 : Option Addr) (a1 : Int) (a2 : Int) (a3 : Int) (K : (Int) → H → Prop) : H → Prop :=
 m_arena_Arena_is a0 a1 fun r1 =>
 mIf (!r1) (
 K 20
 ) (
 mIf ((((decide (a2 < 0)) || (decide (a3 < 0))) || (decide (64 < a3))) || (decide ((iSub .i64 64 a3) < a2))) (
 K 5
 ) (
 K 0
 )
 )
def x_arena_Arena_place : Cx Tryz.prog := ⟨tys, [s_arena_Arena_is], [], [], mixed⟩
def h_arena_Arena_place : Hint := (.seq .d (.seq (.blk (.seq .d (.cond .d (.seq (.reg (.run [3, 7, 11] (.sel 17 20 1835008 (.run [15, 19, 23] .nil) (.run [15, 19, 23] .nil) (.run [27] (.sel 21 24 29360128 (.run [31, 35, 39] .nil) (.run [31, 35, 39] .nil) (.run [43] (.sel 25 30 2080374784 (.run [47, 51, 55, 59, 63] .nil) (.run [47, 51, 55, 59, 63] .nil) (.run [67] .nil)))))))) .d)))) .d))
def s_arena_Arena_place : Spec Tryz.prog := mkSpec x_arena_Arena_place 193 Tryz.f193 [tPtr, (tInt .i64), (tInt .i64), (tInt .i64)] [(tInt .i64)] false h_arena_Arena_place (fun a => m_arena_Arena_place a.1 a.2.1 a.2.2.1 a.2.2.2) (fun a K h => by kernel_rfl) callee193 rfl
def m_arena_Arena_Write (a0 : Option Addr) (a1 : Int) (a2 : Int) (a3 : Sl) (K : (Int) → H → Prop) : H → Prop :=
 m_arena_Arena_place a0 a1 a2 (a3.len : Int) fun r1 =>
 mIf (!decide (r1 = 0)) (
 K r1
 ) (
 mDeref a0 fun ad2 =>
 mLoad cSl (ad2.add 0) fun x3 =>
 mIdx x3 a1 64 fun ad4 =>
 mCut (⟨some ad4, 64, 64⟩ : Sl) a2 (64 : Int) 1 fun s5 =>
 mCopy 1 s5 a3 fun _ =>
 K 0
 )
def x_arena_Arena_Write : Cx Tryz.prog := ⟨tys, [s_arena_Arena_place], [], [], mixed⟩
def h_arena_Arena_Write : Hint := .d
def s_arena_Arena_Write : Spec Tryz.prog := mkSpec x_arena_Arena_Write 154 Tryz.f154 [tPtr, (tInt .i64), (tInt .i64), tSl] [(tInt .i64)] false h_arena_Arena_Write (fun a => m_arena_Arena_Write a.1 a.2.1 a.2.2.1 a.2.2.2) (fun a K h => by kernel_rfl) callee154 rfl
def m_arena_Arena_Taken (a0 : Option Addr) (K : (Sl) → H → Prop) : H → Prop :=
 mDeref a0 fun ad1 =>
 mLoad cSl (ad1.add 1) fun x2 =>
 mLoop (fun (rec4 : (Sl × Int) → H → Prop) (s3 : Sl × Int) =>
 mIf (decide (s3.2 < (x2.len : Int))) (
 mIdx x2 s3.2 1 fun ad5 =>
 mLoad cBool ad5 fun x6 =>
 mIf x6 (
 mApp 3 1 8 #[(Value.int .i64 0)] 1 [(Value.int .i64 s3.2)] s3.1 fun s7 =>
 rec4 (s7, (iAdd .i64 s3.2 1))
 ) (
 rec4 (s3.1, (iAdd .i64 s3.2 1))
 )
 ) (
 K s3.1
 )
 ) (Sl.nil, 0)
def x_arena_Arena_Taken : Cx Tryz.prog := ⟨tys, [], [19], [], mixed⟩
def h_arena_Arena_Taken : Hint := (.seq .d (.seq .d (.seq (.seq .d (.blk (.loop [.slot 3 tSl, .slot 11 (tInt .i64)] 4192312 [] .d))) .d)))
def s_arena_Arena_Taken : Spec Tryz.prog := mkSpec x_arena_Arena_Taken 198 Tryz.f198 [tPtr] [tSl] false h_arena_Arena_Taken (fun a => m_arena_Arena_Taken a) (fun a K h => by kernel_rfl) callee198 rfl
def m_arena_Arena_Free (a0 : Option Addr) (K : (Int) → H → Prop) : H → Prop :=
 mDeref a0 fun ad1 =>
 mJoin (fun (s2 : Int × Int) =>
 K (iSub .i64 s2.1 s2.2)
 ) (fun j3 =>
 mBoth (
 mLoad cSl (ad1.add 1) fun x4 =>
 m_arena_Arena_Taken a0 fun r5 =>
 j3 ((x4.len : Int), (r5.len : Int))
 ) (
 m_arena_Arena_Taken a0 fun r6 =>
 mLoad cSl (ad1.add 1) fun x7 =>
 j3 ((x7.len : Int), (r6.len : Int))
 ))
def x_arena_Arena_Free : Cx Tryz.prog := ⟨tys, [s_arena_Arena_Taken], [], [], mixed⟩
def h_arena_Arena_Free : Hint := (.seq .d (.seq (.reg (.run [0, 4, 8, 20] (.join [.slot 7 (tInt .i64), .slot 10 (tInt .i64)] 1728 [] (.both 3 6 (.run [16, 27, 28] .nil) (.run [28, 14, 16] .nil)) (.run [32, 36] .nil)))) .d))
def s_arena_Arena_Free : Spec Tryz.prog := mkSpec x_arena_Arena_Free 171 Tryz.f171 [tPtr] [(tInt .i64)] false h_arena_Arena_Free (fun a => m_arena_Arena_Free a) (fun a K h => by kernel_rfl) callee171 rfl
def m_arena_Arena_Take (a0 : Option Addr) (a1 : Int) (K : (Sl × Int) → H → Prop) : H → Prop :=
 mIf (decide (a1 < 0)) (
 K (Sl.nil, 6)
 ) (
 m_arena_Arena_Free a0 fun r1 =>
 mIf (decide (r1 < a1)) (
 K (Sl.nil, 8)
 ) (
 mDeref a0 fun ad2 =>
 mLoad cSl (ad2.add 0) fun x3 =>
 mLoop (fun (rec5 : (Sl × Int) → H → Prop) (s4 : Sl × Int) =>
 mIf (decide (s4.2 < (x3.len : Int))) (
 mIf (decide ((s4.1.len : Int) = a1)) (
 K (s4.1, 0)
 ) (
 mDeref a0 fun ad6 =>
 mLoad cSl (ad6.add 1) fun x7 =>
 mIdx x7 s4.2 1 fun ad8 =>
 mLoad cBool ad8 fun x9 =>
 mIf x9 (
 rec5 (s4.1, (iAdd .i64 s4.2 1))
 ) (
 mJoin (fun (_s10 : Unit) =>
 mDeref a0 fun ad12 =>
 mLoad cSl (ad12.add 1) fun x13 =>
 mIdx x13 s4.2 1 fun ad14 =>
 mStore ad14 [(Value.bool true)] <|
 mApp 3 1 8 #[(Value.int .i64 0)] 1 [(Value.int .i64 s4.2)] s4.1 fun s15 =>
 rec5 (s15, (iAdd .i64 s4.2 1))
 ) (fun j11 =>
 mDeref a0 fun ad16 =>
 mLoad cSl (ad16.add 0) fun x17 =>
 mIdx x17 s4.2 64 fun ad18 =>
 mLoad S_arena_page.cells ad18 fun x19 =>
 mIf (!((decide (x19.xe0 = 0)) && ((decide (x19.xe1 = 0)) && ((decide (x19.xe2 = 0)) && ((decide (x19.xe3 = 0)) && ((decide (x19.xe4 = 0)) && ((decide (x19.xe5 = 0)) && ((decide (x19.xe6 = 0)) && ((decide (x19.xe7 = 0)) && ((decide (x19.xe8 = 0)) && ((decide (x19.xe9 = 0)) && ((decide (x19.xe10 = 0)) && ((decide (x19.xe11 = 0)) && ((decide (x19.xe12 = 0)) && ((decide (x19.xe13 = 0)) && ((decide (x19.xe14 = 0)) && ((decide (x19.xe15 = 0)) && ((decide (x19.xe16 = 0)) && ((decide (x19.xe17 = 0)) && ((decide (x19.xe18 = 0)) && ((decide (x19.xe19 = 0)) && ((decide (x19.xe20 = 0)) && ((decide (x19.xe21 = 0)) && ((decide (x19.xe22 = 0)) && ((decide (x19.xe23 = 0)) && ((decide (x19.xe24 = 0)) && ((decide (x19.xe25 = 0)) && ((decide (x19.xe26 = 0)) && ((decide (x19.xe27 = 0)) && ((decide (x19.xe28 = 0)) && ((decide (x19.xe29 = 0)) && ((decide (x19.xe30 = 0)) && ((decide (x19.xe31 = 0)) && ((decide (x19.xe32 = 0)) && ((decide (x19.xe33 = 0)) && ((decide (x19.xe34 = 0)) && ((decide (x19.xe35 = 0)) && ((decide (x19.xe36 = 0)) && ((decide (x19.xe37 = 0)) && ((decide (x19.xe38 = 0)) && ((decide (x19.xe39 = 0)) && ((decide (x19.xe40 = 0)) && ((decide (x19.xe41 = 0)) && ((decide (x19.xe42 = 0)) && ((decide (x19.xe43 = 0)) && ((decide (x19.xe44 = 0)) && ((decide (x19.xe45 = 0)) && ((decide (x19.xe46 = 0)) && ((decide (x19.xe47 = 0)) && ((decide (x19.xe48 = 0)) && ((decide (x19.xe49 = 0)) && ((decide (x19.xe50 = 0)) && ((decide (x19.xe51 = 0)) && ((decide (x19.xe52 = 0)) && ((decide (x19.xe53 = 0)) && ((decide (x19.xe54 = 0)) && ((decide (x19.xe55 = 0)) && ((decide (x19.xe56 = 0)) && ((decide (x19.xe57 = 0)) && ((decide (x19.xe58 = 0)) && ((decide (x19.xe59 = 0)) && ((decide (x19.xe60 = 0)) && ((decide (x19.xe61 = 0)) && ((decide (x19.xe62 = 0)) && ((decide (x19.xe63 = 0)) && true))))))))))))))))))))))))))))))))))))))))))))))))))))))))))))))))) (
 mDeref a0 fun ad20 =>
 mLoad cSl (ad20.add 0) fun x21 =>
 mIdx x21 s4.2 64 fun ad22 =>
 mCut (⟨some ad22, 64, 64⟩ : Sl) 0 (64 : Int) 1 fun s23 =>
 mClear #[(Value.int .u8 0)] s23 <|
 j11 ()
 ) (
 j11 ()
 )
 )
 )
 )
 ) (
 K (s4.1, 0)
 )
 ) (Sl.nil, 0)
 )
 )
def x_arena_Arena_Take : Cx Tryz.prog := ⟨tys, [s_arena_Arena_Free], [59], [], mixed⟩
def h_arena_Arena_Take : Hint := (.seq .d (.seq .d (.seq .d (.seq (.seq .d (.blk (.loop [.slot 6 tSl, .slot 21 (tInt .i64)] 4611686018425290944 [] (.seq .d (.seq .d (.seq (.blk (.seq .d (.seq .d (.seq .d (.join [] 2251765453946880 [] .d .d))))) .d)))))) .d))))
def s_arena_Arena_Take : Spec Tryz.prog := mkSpec x_arena_Arena_Take 157 Tryz.f157 [tPtr, (tInt .i64)] [tSl, (tInt .i64)] false h_arena_Arena_Take (fun a => m_arena_Arena_Take a.1 a.2) (fun a K h => by kernel_rfl) callee157 rfl
def m_arena_Arena_Read (a0 : Option Addr) (a1 : Int) (a2 : Int) (a3 : Int) (K : (Sl × Int) → H → Prop) : H → Prop :=
 m_arena_Arena_place a0 a1 a2 a3 fun r1 =>
 mIf (!decide (r1 = 0)) (
 K (Sl.nil, r1)
 ) (
 mDeref a0 fun ad2 =>
 mLoad cSl (ad2.add 0) fun x3 =>
 mIdx x3 a1 64 fun ad4 =>
 mLoad S_arena_page.cells ad4 fun x5 =>
 mNew 263 #[(Value.int .u8 0), (Value.int .u8 0), (Value.int .u8 0), (Value.int .u8 0), (Value.int .u8 0), (Value.int .u8 0), (Value.int .u8 0), (Value.int .u8 0), (Value.int .u8 0), (Value.int .u8 0), (Value.int .u8 0), (Value.int .u8 0), (Value.int .u8 0), (Value.int .u8 0), (Value.int .u8 0), (Value.int .u8 0), (Value.int .u8 0), (Value.int .u8 0), (Value.int .u8 0), (Value.int .u8 0), (Value.int .u8 0), (Value.int .u8 0), (Value.int .u8 0), (Value.int .u8 0), (Value.int .u8 0), (Value.int .u8 0), (Value.int .u8 0), (Value.int .u8 0), (Value.int .u8 0), (Value.int .u8 0), (Value.int .u8 0), (Value.int .u8 0), (Value.int .u8 0), (Value.int .u8 0), (Value.int .u8 0), (Value.int .u8 0), (Value.int .u8 0), (Value.int .u8 0), (Value.int .u8 0), (Value.int .u8 0), (Value.int .u8 0), (Value.int .u8 0), (Value.int .u8 0), (Value.int .u8 0), (Value.int .u8 0), (Value.int .u8 0), (Value.int .u8 0), (Value.int .u8 0), (Value.int .u8 0), (Value.int .u8 0), (Value.int .u8 0), (Value.int .u8 0), (Value.int .u8 0), (Value.int .u8 0), (Value.int .u8 0), (Value.int .u8 0), (Value.int .u8 0), (Value.int .u8 0), (Value.int .u8 0), (Value.int .u8 0), (Value.int .u8 0), (Value.int .u8 0), (Value.int .u8 0), (Value.int .u8 0)] fun ad6 =>
 mStore ad6 [(Value.int .u8 x5.xe0), (Value.int .u8 x5.xe1), (Value.int .u8 x5.xe2), (Value.int .u8 x5.xe3), (Value.int .u8 x5.xe4), (Value.int .u8 x5.xe5), (Value.int .u8 x5.xe6), (Value.int .u8 x5.xe7), (Value.int .u8 x5.xe8), (Value.int .u8 x5.xe9), (Value.int .u8 x5.xe10), (Value.int .u8 x5.xe11), (Value.int .u8 x5.xe12), (Value.int .u8 x5.xe13), (Value.int .u8 x5.xe14), (Value.int .u8 x5.xe15), (Value.int .u8 x5.xe16), (Value.int .u8 x5.xe17), (Value.int .u8 x5.xe18), (Value.int .u8 x5.xe19), (Value.int .u8 x5.xe20), (Value.int .u8 x5.xe21), (Value.int .u8 x5.xe22), (Value.int .u8 x5.xe23), (Value.int .u8 x5.xe24), (Value.int .u8 x5.xe25), (Value.int .u8 x5.xe26), (Value.int .u8 x5.xe27), (Value.int .u8 x5.xe28), (Value.int .u8 x5.xe29), (Value.int .u8 x5.xe30), (Value.int .u8 x5.xe31), (Value.int .u8 x5.xe32), (Value.int .u8 x5.xe33), (Value.int .u8 x5.xe34), (Value.int .u8 x5.xe35), (Value.int .u8 x5.xe36), (Value.int .u8 x5.xe37), (Value.int .u8 x5.xe38), (Value.int .u8 x5.xe39), (Value.int .u8 x5.xe40), (Value.int .u8 x5.xe41), (Value.int .u8 x5.xe42), (Value.int .u8 x5.xe43), (Value.int .u8 x5.xe44), (Value.int .u8 x5.xe45), (Value.int .u8 x5.xe46), (Value.int .u8 x5.xe47), (Value.int .u8 x5.xe48), (Value.int .u8 x5.xe49), (Value.int .u8 x5.xe50), (Value.int .u8 x5.xe51), (Value.int .u8 x5.xe52), (Value.int .u8 x5.xe53), (Value.int .u8 x5.xe54), (Value.int .u8 x5.xe55), (Value.int .u8 x5.xe56), (Value.int .u8 x5.xe57), (Value.int .u8 x5.xe58), (Value.int .u8 x5.xe59), (Value.int .u8 x5.xe60), (Value.int .u8 x5.xe61), (Value.int .u8 x5.xe62), (Value.int .u8 x5.xe63)] <|
 mCut (⟨some ad6, 64, 64⟩ : Sl) a2 (iAdd .i64 a2 a3) 1 fun s7 =>
 m_slices_Clone_byte_byte s7 fun r8 =>
 K (r8, 0)
 )
def x_arena_Arena_Read : Cx Tryz.prog := ⟨tys, [s_slices_Clone_byte_byte, s_arena_Arena_place], [], [], mixed⟩
def h_arena_Arena_Read : Hint := .d
def s_arena_Arena_Read : Spec Tryz.prog := mkSpec x_arena_Arena_Read 173 Tryz.f173 [tPtr, (tInt .i64), (tInt .i64), (tInt .i64)] [tSl, (tInt .i64)] false h_arena_Arena_Read (fun a => m_arena_Arena_Read a.1 a.2.1 a.2.2.1 a.2.2.2) (fun a K h => by kernel_rfl) callee173 rfl
def m_store_New (a0 : Int) (a1 : Int) (K : (Option Addr × Int) → H → Prop) : H → Prop :=
 mIf ((((decide (a0 < 1)) || (decide (64 < a0))) || (decide (a1 < 1))) || (decide (256 < a1))) (
 K (none, 16)
 ) (
 m_arena_New a1 fun r1 =>
 mIf (!decide (r1.2 = 0)) (
 K (none, r1.2)
 ) (
 mMakeMap fun m2 =>
 mNew 173 #[(Value.int .i64 a0), (Value.int .i64 1), (Value.map m2), (Value.pointer r1.1)] fun ad3 =>
 K ((some ad3), 0)
 )
 )
def x_store_New : Cx Tryz.prog := ⟨tys, [s_arena_New], [], [], mixed⟩
def h_store_New : Hint := (.seq .d (.seq (.seq (.reg (.run [3, 7, 11] (.sel 10 13 14336 (.run [15, 19, 23] .nil) (.run [15, 19, 23] .nil) (.run [27] (.sel 14 17 229376 (.run [31, 35, 39] .nil) (.run [31, 35, 39] .nil) (.run [43] (.sel 18 21 3670016 (.run [47, 51, 55] .nil) (.run [47, 51, 55] .nil) .nil))))))) .d) .d))
def s_store_New : Spec Tryz.prog := mkSpec x_store_New 74 Tryz.f74 [(tInt .i64), (tInt .i64)] [tPtr, (tInt .i64)] false h_store_New (fun a => m_store_New a.1 a.2) (fun a K h => by kernel_rfl) callee74 rfl
def m_store_Store_Destroy (a0 : Option Addr) (a1 : Int) (K : (Int) → H → Prop) : H → Prop :=
 mDeref a0 fun ad1 =>
 mLoad cMap (ad1.add 2) fun x2 =>
 mLookup (eqV Tryz.prog 40 3) S_store_object.val (⟨0, Sl.nil⟩ : S_store_object) x2 (Value.int .i64 a1) fun r3 =>
 mIf (!r3.2) (
 K 20
 ) (
 mDeref a0 fun ad4 =>
 mLoad cPtr (ad4.add 3) fun x5 =>
 m_arena_Arena_Give x5 r3.1.xpages fun _ =>
 mDeref a0 fun ad7 =>
 mLoad cMap (ad7.add 2) fun x8 =>
 mMapDel (eqV Tryz.prog 40 3) x8 (Value.int .i64 a1) <|
 K 0
 )
def x_store_Store_Destroy : Cx Tryz.prog := ⟨tys, [s_arena_Arena_Give], [5], [], mixed⟩
def h_store_Store_Destroy : Hint := (.seq .d (.seq .d (.seq .d (.seq (.reg (.run [0, 4, 8, 16, 21, 14, 27] .nil)) .d))))
def s_store_Store_Destroy : Spec Tryz.prog := mkSpec x_store_Store_Destroy 147 Tryz.f147 [tPtr, (tInt .i64)] [(tInt .i64)] false h_store_Store_Destroy (fun a => m_store_Store_Destroy a.1 a.2) (fun a K h => by kernel_rfl) callee147 rfl
def m_store_Store_ranged (a0 : Option Addr) (a1 : Int) (a2 : Int) (a3 : Int) (K : (S_store_object × Int) → H → Prop) : H → Prop :=
 mDeref a0 fun ad1 =>
 mLoad cMap (ad1.add 2) fun x2 =>
 mLookup (eqV Tryz.prog 40 3) S_store_object.val (⟨0, Sl.nil⟩ : S_store_object) x2 (Value.int .i64 a1) fun r3 =>
 mIf (!r3.2) (
 K ((⟨0, Sl.nil⟩ : S_store_object), 20)
 ) (
 mIf (((((decide (a2 < 0)) || (decide (a3 < 0))) || (decide (1024 < a3))) || (decide (r3.1.xsize < a2))) || (decide ((iSub .i64 r3.1.xsize a2) < a3))) (
 K ((⟨0, Sl.nil⟩ : S_store_object), 5)
 ) (
 K (r3.1, 0)
 )
 )
def x_store_Store_ranged : Cx Tryz.prog := ⟨tys, [], [8, 10], [], mixed⟩
def h_store_Store_ranged : Hint := (.seq .d (.seq .d (.seq .d (.seq (.seq (.reg (.run [3, 7, 11] (.sel 26 29 939524096 (.run [15, 19, 23] .nil) (.run [15, 19, 23] .nil) (.run [27] (.sel 30 33 15032385536 (.run [31, 35, 39] .nil) (.run [31, 35, 39] .nil) (.run [43] (.sel 34 39 1065151889408 (.run [47, 51, 55, 59, 63] .nil) (.run [47, 51, 55, 59, 63] .nil) (.run [67] (.sel 40 47 279275953455104 (.run [71, 75, 79, 83, 87, 91, 95] .nil) (.run [71, 75, 79, 83, 87, 91, 95] .nil) .nil))))))))) .d) .d))))
def s_store_Store_ranged : Spec Tryz.prog := mkSpec x_store_Store_ranged 151 Tryz.f151 [tPtr, (tInt .i64), (tInt .i64), (tInt .i64)] [S_store_object.ty, (tInt .i64)] false h_store_Store_ranged (fun a => m_store_Store_ranged a.1 a.2.1 a.2.2.1 a.2.2.2) (fun a K h => by kernel_rfl) callee151 rfl
def m_store_object_pieces (a0 : S_store_object) (a1 : Int) (a2 : Int) (a3 : PV) (K : (Unit) → H → Prop) : H → Prop :=
 mLoop (fun (rec2 : Int → H → Prop) (s1 : Int) =>
 mIf (decide (s1 < a2)) (
 mIdx a0.xpages (iQuo .i64 (iAdd .i64 a1 s1) 64) 1 fun ad3 =>
 mLoad (cInt .i64) ad3 fun x4 =>
 mCallV (T := Unit) Tryz.prog (fun _ => Value.tuple #[]) a3.1 [(Value.int .i64 x4), (Value.int .i64 (iRem .i64 (iAdd .i64 a1 s1) 64)), (Value.int .i64 s1), (Value.int .i64 (iMin (iSub .i64 64 (iRem .i64 (iAdd .i64 a1 s1) 64)) (iSub .i64 a2 s1)))] fun _ =>
 rec2 (iAdd .i64 s1 (iMin (iSub .i64 64 (iRem .i64 (iAdd .i64 a1 s1) 64)) (iSub .i64 a2 s1)))
 ) (
 K ()
 )
 ) 0
def x_store_object_pieces : Cx Tryz.prog := ⟨tys, [], [4], [], mixed⟩
def h_store_object_pieces : Hint := (.seq .d (.seq .d (.blk (.loop [.slot 8 (tInt .i64)] 1099511627520 [] .d))))
def s_store_object_pieces : Spec Tryz.prog := mkSpec x_store_object_pieces 152 Tryz.f152 [S_store_object.ty, (tInt .i64), (tInt .i64), tPV] [] false h_store_object_pieces (fun a => m_store_object_pieces a.1 a.2.1 a.2.2.1 a.2.2.2) (fun a K h => by kernel_rfl) callee152 rfl
def m_store_Store_Write_1 (a0 : Int) (a1 : Int) (a2 : Int) (a3 : Int) (a4 : Addr) (a5 : Addr) (K : (Unit) → H → Prop) : H → Prop :=
 mLoad cPtr a4 fun x1 =>
 mDeref x1 fun ad2 =>
 mLoad cPtr (ad2.add 3) fun x3 =>
 mLoad cSl a5 fun x4 =>
 mCut x4 a2 (iAdd .i64 a2 a3) 1 fun s5 =>
 m_arena_Arena_Write x3 a0 a1 s5 fun _ =>
 K ()
def x_store_Store_Write_1 : Cx Tryz.prog := ⟨tys, [s_arena_Arena_Write], [], [], mixed⟩
def h_store_Store_Write_1 : Hint := (.reg (.run [16, 20, 28, 32, 36, 40, 2, 4, 8, 14, 26, 44, 51] .nil))
def s_store_Store_Write_1 : Spec Tryz.prog := mkSpec x_store_Store_Write_1 153 Tryz.f153 [(tInt .i64), (tInt .i64), (tInt .i64), (tInt .i64), tAdr, tAdr] [] false h_store_Store_Write_1 (fun a => m_store_Store_Write_1 a.1 a.2.1 a.2.2.1 a.2.2.2.1 a.2.2.2.2.1 a.2.2.2.2.2) (fun a K h => by kernel_rfl) callee153 rfl
def m_store_Store_Write (a0 : Option Addr) (a1 : Int) (a2 : Int) (a3 : Sl) (K : (Int) → H → Prop) : H → Prop :=
 mNew 69 #[(Value.pointer a0)] fun ad1 =>
 mNew 39 #[(Sl.val a3)] fun ad2 =>
 mLoad cPtr ad1 fun x3 =>
 mLoad cSl ad2 fun x4 =>
 m_store_Store_ranged x3 a1 a2 (x4.len : Int) fun r5 =>
 mIf (!decide (r5.2 = 0)) (
 K r5.2
 ) (
 mLoad cSl ad2 fun x6 =>
 m_store_object_pieces r5.1 a2 (x6.len : Int) (⟨Value.func (.func 153) #[] #[(Value.pointer (some ad1)), (Value.pointer (some ad2))], rfl, rfl⟩ : PV) fun _ =>
 K 0
 )
def x_store_Store_Write : Cx Tryz.prog := ⟨tys, [s_store_Store_ranged, s_store_object_pieces], [9], [], mixed⟩
def h_store_Store_Write : Hint := .d
def s_store_Store_Write : Spec Tryz.prog := mkSpec x_store_Store_Write 86 Tryz.f86 [tPtr, (tInt .i64), (tInt .i64), tSl] [(tInt .i64)] false h_store_Store_Write (fun a => m_store_Store_Write a.1 a.2.1 a.2.2.1 a.2.2.2) (fun a K h => by kernel_rfl) callee86 rfl
def m_store_paged (a0 : Int) (K : (Int) → H → Prop) : H → Prop :=
 K (iQuo .i64 (iSub .i64 (iAdd .i64 a0 64) 1) 64)
def x_store_paged : Cx Tryz.prog := ⟨tys, [], [], [], mixed⟩
def h_store_paged : Hint := .d
def s_store_paged : Spec Tryz.prog := mkSpec x_store_paged 158 Tryz.f158 [(tInt .i64)] [(tInt .i64)] true h_store_paged (fun a => m_store_paged a) (fun a K h => by kernel_rfl) callee158 rfl
def m_store_Store_May (a0 : Option Addr) (a1 : Int) (K : (Int) → H → Prop) : H → Prop :=
 mIf ((decide (a1 < 0)) || (decide (4096 < a1))) (
 K 6
 ) (
 mDeref a0 fun ad1 =>
 mDeref a0 fun ad2 =>
 mLoad cMap (ad1.add 2) fun x3 =>
 mMapLen x3 fun n4 =>
 mLoad (cInt .i64) (ad2.add 0) fun x5 =>
 mJoin (fun (s8 : Bool) =>
 mIf s8 (
 K 7
 ) (
 mPure (m_store_paged a1) fun r10 =>
 mDeref a0 fun ad11 =>
 mLoad cPtr (ad11.add 3) fun x12 =>
 m_arena_Arena_Free x12 fun r13 =>
 mIf (decide (r13 < r10)) (
 K 8
 ) (
 K 0
 )
 )
 ) (fun j9 =>
 mIf (decide (x5 ≤ n4)) (
 j9 true
 ) (
 mDeref a0 fun ad14 =>
 mLoad (cInt .i64) (ad14.add 1) fun x15 =>
 j9 (decide (4611686018427387904 < x15))
 ))
 )
def x_store_Store_May : Cx Tryz.prog := ⟨tys, [s_store_paged, s_arena_Arena_Free], [], [], mixed⟩
def h_store_Store_May : Hint := (.seq .d (.seq (.blk (.seq (.reg (.run [3, 7, 11] (.sel 8 11 3584 (.run [15, 19, 23] .nil) (.run [15, 19, 23] .nil) (.run [27] .nil)))) (.cond .d (.seq (.reg (.run [0, 4, 8, 20, 24, 28, 14, 18, 34, 36, 40] (.join [.slot 29 tBool] 1056964608 [] (.split 23 (.run [44, 48, 52, 56, 60, 64] .nil) (.run [44, 48, 52, 58, 60, 64] .nil)) (.run [68] .nil)))) (.cond .d (.seq (.reg (.run [0, 4, 8, 12, 16, 22, 27, 28, 32] .nil)) .d)))))) .d))
def s_store_Store_May : Spec Tryz.prog := mkSpec x_store_Store_May 156 Tryz.f156 [tPtr, (tInt .i64)] [(tInt .i64)] false h_store_Store_May (fun a => m_store_Store_May a.1 a.2) (fun a K h => by kernel_rfl) callee156 rfl
def m_store_Store_Create (a0 : Option Addr) (a1 : Int) (K : (Int × Int) → H → Prop) : H → Prop :=
 m_store_Store_May a0 a1 fun r1 =>
 mIf (!decide (r1 = 0)) (
 K (0, r1)
 ) (
 mDeref a0 fun ad2 =>
 mPure (m_store_paged a1) fun r3 =>
 mLoad cPtr (ad2.add 3) fun x4 =>
 m_arena_Arena_Take x4 r3 fun r5 =>
 mIf (!decide (r5.2 = 0)) (
 K (0, r5.2)
 ) (
 mDeref a0 fun ad6 =>
 mLoad (cInt .i64) (ad6.add 1) fun x7 =>
 mDeref a0 fun ad8 =>
 mLoad cMap (ad8.add 2) fun x9 =>
 mMapSet (eqV Tryz.prog 40 3) x9 (Value.int .i64 x7) (S_store_object.val (⟨a1, r5.1⟩ : S_store_object)) <|
 mDeref a0 fun ad10 =>
 mLoad (cInt .i64) (ad10.add 1) fun x11 =>
 mDeref a0 fun ad12 =>
 mStore (ad12.add 1) [(Value.int .i64 (iAdd .i64 x11 1))] <|
 K (x7, 0)
 )
 )
def x_store_Store_Create : Cx Tryz.prog := ⟨tys, [s_store_Store_May, s_arena_Arena_Take, s_store_paged], [], [], mixed⟩
def h_store_Store_Create : Hint := (.seq .d (.seq .d (.seq (.reg (.run [0, 4, 8, 16, 20, 14, 27, 28, 32, 36, 40, 44] .nil)) .d)))
def s_store_Store_Create : Spec Tryz.prog := mkSpec x_store_Store_Create 88 Tryz.f88 [tPtr, (tInt .i64)] [(tInt .i64), (tInt .i64)] false h_store_Store_Create (fun a => m_store_Store_Create a.1 a.2) (fun a K h => by kernel_rfl) callee88 rfl
def m_store_Store_Ids (a0 : Option Addr) (K : (Sl) → H → Prop) : H → Prop :=
 mDeref a0 fun ad1 =>
 mLoad cMap (ad1.add 2) fun x2 =>
 mRange x2 fun it3 =>
 mLoop (fun (rec5 : Sl → H → Prop) (s4 : Sl) =>
 mNext it3 fun n6 =>
 mIf n6.1 (
 mEntry (Value.int .i64) S_store_object.val it3 fun e7 =>
 mApp 3 1 8 #[(Value.int .i64 0)] 1 [(Value.int .i64 e7.1)] s4 fun s8 =>
 rec5 s8
 ) (
 m_slices_Sort_int_int s4 fun _ =>
 K s4
 )
 ) Sl.nil
def x_store_Store_Ids : Cx Tryz.prog := ⟨tys, [s_slices_Sort_int_int], [16], [(12, 3, 185)], mixed⟩
def h_store_Store_Ids : Hint := (.seq .d (.seq .d (.seq (.seq .d (.blk (.loop [.slot 3 tSl] 261144 [] .d))) .d)))
def s_store_Store_Ids : Spec Tryz.prog := mkSpec x_store_Store_Ids 28 Tryz.f28 [tPtr] [tSl] false h_store_Store_Ids (fun a => m_store_Store_Ids a) (fun a K h => by kernel_rfl) callee28 rfl
def m_store_Store_Size (a0 : Option Addr) (a1 : Int) (K : (Int × Bool) → H → Prop) : H → Prop :=
 mDeref a0 fun ad1 =>
 mLoad cMap (ad1.add 2) fun x2 =>
 mLookup (eqV Tryz.prog 40 3) S_store_object.val (⟨0, Sl.nil⟩ : S_store_object) x2 (Value.int .i64 a1) fun r3 =>
 K (r3.1.xsize, r3.2)
def x_store_Store_Size : Cx Tryz.prog := ⟨tys, [], [6], [], mixed⟩
def h_store_Store_Size : Hint := .d
def s_store_Store_Size : Spec Tryz.prog := mkSpec x_store_Store_Size 34 Tryz.f34 [tPtr, (tInt .i64)] [(tInt .i64), tBool] false h_store_Store_Size (fun a => m_store_Store_Size a.1 a.2) (fun a K h => by kernel_rfl) callee34 rfl
def m_store_Store_Free (a0 : Option Addr) (K : (Int) → H → Prop) : H → Prop :=
 mDeref a0 fun ad1 =>
 mLoad cPtr (ad1.add 3) fun x2 =>
 m_arena_Arena_Free x2 fun r3 =>
 K r3
def x_store_Store_Free : Cx Tryz.prog := ⟨tys, [s_arena_Arena_Free], [], [], mixed⟩
def h_store_Store_Free : Hint := .d
def s_store_Store_Free : Spec Tryz.prog := mkSpec x_store_Store_Free 100 Tryz.f100 [tPtr] [(tInt .i64)] false h_store_Store_Free (fun a => m_store_Store_Free a) (fun a K h => by kernel_rfl) callee100 rfl
def m_store_Store_Next (a0 : Option Addr) (K : (Int) → H → Prop) : H → Prop :=
 mDeref a0 fun ad1 =>
 mLoad (cInt .i64) (ad1.add 1) fun x2 =>
 K x2
def x_store_Store_Next : Cx Tryz.prog := ⟨tys, [], [], [], mixed⟩
def h_store_Store_Next : Hint := .d
def s_store_Store_Next : Spec Tryz.prog := mkSpec x_store_Store_Next 102 Tryz.f102 [tPtr] [(tInt .i64)] false h_store_Store_Next (fun a => m_store_Store_Next a) (fun a K h => by kernel_rfl) callee102 rfl
def m_store_Store_Read_1 (a0 : Int) (a1 : Int) (_a2 : Int) (a3 : Int) (a4 : Addr) (a5 : Addr) (K : (Unit) → H → Prop) : H → Prop :=
 mLoad cPtr a4 fun x1 =>
 mDeref x1 fun ad2 =>
 mLoad cPtr (ad2.add 3) fun x3 =>
 m_arena_Arena_Read x3 a0 a1 a3 fun r4 =>
 mLoad cSl a5 fun x5 =>
 mAppend 5 1 1 #[(Value.int .u8 0)] x5 r4.1 fun s6 =>
 mStore a5 [(Sl.val s6)] <|
 K ()
def x_store_Store_Read_1 : Cx Tryz.prog := ⟨tys, [s_arena_Arena_Read], [], [], mixed⟩
def h_store_Store_Read_1 : Hint := .d
def s_store_Store_Read_1 : Spec Tryz.prog := mkSpec x_store_Store_Read_1 172 Tryz.f172 [(tInt .i64), (tInt .i64), (tInt .i64), (tInt .i64), tAdr, tAdr] [] false h_store_Store_Read_1 (fun a => m_store_Store_Read_1 a.1 a.2.1 a.2.2.1 a.2.2.2.1 a.2.2.2.2.1 a.2.2.2.2.2) (fun a K h => by kernel_rfl) callee172 rfl
def m_store_Store_Read (a0 : Option Addr) (a1 : Int) (a2 : Int) (a3 : Int) (K : (Sl × Int) → H → Prop) : H → Prop :=
 mNew 69 #[(Value.pointer a0)] fun ad1 =>
 mLoad cPtr ad1 fun x2 =>
 m_store_Store_ranged x2 a1 a2 a3 fun r3 =>
 mIf (!decide (r3.2 = 0)) (
 K (Sl.nil, r3.2)
 ) (
 mNew 39 #[(Sl.val Sl.nil)] fun ad4 =>
 m_store_object_pieces r3.1 a2 a3 (⟨Value.func (.func 172) #[] #[(Value.pointer (some ad1)), (Value.pointer (some ad4))], rfl, rfl⟩ : PV) fun _ =>
 mLoad cSl ad4 fun x6 =>
 K (x6, 0)
 )
def x_store_Store_Read : Cx Tryz.prog := ⟨tys, [s_store_Store_ranged, s_store_object_pieces], [10], [], mixed⟩
def h_store_Store_Read : Hint := .d
def s_store_Store_Read : Spec Tryz.prog := mkSpec x_store_Store_Read 105 Tryz.f105 [tPtr, (tInt .i64), (tInt .i64), (tInt .i64)] [tSl, (tInt .i64)] false h_store_Store_Read (fun a => m_store_Store_Read a.1 a.2.1 a.2.2.1 a.2.2.2) (fun a K h => by kernel_rfl) callee105 rfl
end Go.Proofs.YtcclfjhnpeappaaGreat.K
namespace Go.Proofs.YtcclfjhnpeappaaGreat.K
open Go
def Pg : Type := {l : List UInt8 // l.length = 64}
instance : DecidableEq Pg := inferInstanceAs (DecidableEq {l : List UInt8 // l.length = 64})
def pgC (x : Pg) : List Value := flat cU8 x.1
theorem pg_len (x : Pg) : (pgC x).length = 64 := by unfold pgC; rw [flat_len u8_len, x.2]
def pg0 : Pg := ⟨List.replicate 64 0, by rw [List.length_replicate]⟩
theorem uncons {l : List UInt8} {n : Nat} (h : l.length = n + 1) : ∃ a r, l = a :: r ∧ r.length = n := by
  cases l with
  | nil => cases h
  | cons a r => exact ⟨a, r, rfl, by simpa using h⟩
def allz : List Int → Bool
  | [] => true
  | a :: r => decide (a = 0) && allz r
def pints (x : S_arena_page) : List Int := [x.xe0, x.xe1, x.xe2, x.xe3, x.xe4, x.xe5, x.xe6, x.xe7, x.xe8, x.xe9, x.xe10, x.xe11, x.xe12, x.xe13, x.xe14, x.xe15, x.xe16, x.xe17, x.xe18, x.xe19, x.xe20, x.xe21, x.xe22, x.xe23, x.xe24, x.xe25, x.xe26, x.xe27, x.xe28, x.xe29, x.xe30, x.xe31, x.xe32, x.xe33, x.xe34, x.xe35, x.xe36, x.xe37, x.xe38, x.xe39, x.xe40, x.xe41, x.xe42, x.xe43, x.xe44, x.xe45, x.xe46, x.xe47, x.xe48, x.xe49, x.xe50, x.xe51, x.xe52, x.xe53, x.xe54, x.xe55, x.xe56, x.xe57, x.xe58, x.xe59, x.xe60, x.xe61, x.xe62, x.xe63]
theorem page_of : ∀ v : Pg, ∃ x : S_arena_page, S_arena_page.cells x = pgC v ∧ pints x = v.1.map fun b => (b.toNat : Int) := by
  intro ⟨l, h⟩
  show ∃ x : S_arena_page, S_arena_page.cells x = flat cU8 l ∧ pints x = l.map fun b => (b.toNat : Int)
  obtain ⟨a0, l0, rfl, h0⟩ := uncons h
  obtain ⟨a1, l1, rfl, h1⟩ := uncons h0
  obtain ⟨a2, l2, rfl, h2⟩ := uncons h1
  obtain ⟨a3, l3, rfl, h3⟩ := uncons h2
  obtain ⟨a4, l4, rfl, h4⟩ := uncons h3
  obtain ⟨a5, l5, rfl, h5⟩ := uncons h4
  obtain ⟨a6, l6, rfl, h6⟩ := uncons h5
  obtain ⟨a7, l7, rfl, h7⟩ := uncons h6
  obtain ⟨a8, l8, rfl, h8⟩ := uncons h7
  obtain ⟨a9, l9, rfl, h9⟩ := uncons h8
  obtain ⟨a10, l10, rfl, h10⟩ := uncons h9
  obtain ⟨a11, l11, rfl, h11⟩ := uncons h10
  obtain ⟨a12, l12, rfl, h12⟩ := uncons h11
  obtain ⟨a13, l13, rfl, h13⟩ := uncons h12
  obtain ⟨a14, l14, rfl, h14⟩ := uncons h13
  obtain ⟨a15, l15, rfl, h15⟩ := uncons h14
  obtain ⟨a16, l16, rfl, h16⟩ := uncons h15
  obtain ⟨a17, l17, rfl, h17⟩ := uncons h16
  obtain ⟨a18, l18, rfl, h18⟩ := uncons h17
  obtain ⟨a19, l19, rfl, h19⟩ := uncons h18
  obtain ⟨a20, l20, rfl, h20⟩ := uncons h19
  obtain ⟨a21, l21, rfl, h21⟩ := uncons h20
  obtain ⟨a22, l22, rfl, h22⟩ := uncons h21
  obtain ⟨a23, l23, rfl, h23⟩ := uncons h22
  obtain ⟨a24, l24, rfl, h24⟩ := uncons h23
  obtain ⟨a25, l25, rfl, h25⟩ := uncons h24
  obtain ⟨a26, l26, rfl, h26⟩ := uncons h25
  obtain ⟨a27, l27, rfl, h27⟩ := uncons h26
  obtain ⟨a28, l28, rfl, h28⟩ := uncons h27
  obtain ⟨a29, l29, rfl, h29⟩ := uncons h28
  obtain ⟨a30, l30, rfl, h30⟩ := uncons h29
  obtain ⟨a31, l31, rfl, h31⟩ := uncons h30
  obtain ⟨a32, l32, rfl, h32⟩ := uncons h31
  obtain ⟨a33, l33, rfl, h33⟩ := uncons h32
  obtain ⟨a34, l34, rfl, h34⟩ := uncons h33
  obtain ⟨a35, l35, rfl, h35⟩ := uncons h34
  obtain ⟨a36, l36, rfl, h36⟩ := uncons h35
  obtain ⟨a37, l37, rfl, h37⟩ := uncons h36
  obtain ⟨a38, l38, rfl, h38⟩ := uncons h37
  obtain ⟨a39, l39, rfl, h39⟩ := uncons h38
  obtain ⟨a40, l40, rfl, h40⟩ := uncons h39
  obtain ⟨a41, l41, rfl, h41⟩ := uncons h40
  obtain ⟨a42, l42, rfl, h42⟩ := uncons h41
  obtain ⟨a43, l43, rfl, h43⟩ := uncons h42
  obtain ⟨a44, l44, rfl, h44⟩ := uncons h43
  obtain ⟨a45, l45, rfl, h45⟩ := uncons h44
  obtain ⟨a46, l46, rfl, h46⟩ := uncons h45
  obtain ⟨a47, l47, rfl, h47⟩ := uncons h46
  obtain ⟨a48, l48, rfl, h48⟩ := uncons h47
  obtain ⟨a49, l49, rfl, h49⟩ := uncons h48
  obtain ⟨a50, l50, rfl, h50⟩ := uncons h49
  obtain ⟨a51, l51, rfl, h51⟩ := uncons h50
  obtain ⟨a52, l52, rfl, h52⟩ := uncons h51
  obtain ⟨a53, l53, rfl, h53⟩ := uncons h52
  obtain ⟨a54, l54, rfl, h54⟩ := uncons h53
  obtain ⟨a55, l55, rfl, h55⟩ := uncons h54
  obtain ⟨a56, l56, rfl, h56⟩ := uncons h55
  obtain ⟨a57, l57, rfl, h57⟩ := uncons h56
  obtain ⟨a58, l58, rfl, h58⟩ := uncons h57
  obtain ⟨a59, l59, rfl, h59⟩ := uncons h58
  obtain ⟨a60, l60, rfl, h60⟩ := uncons h59
  obtain ⟨a61, l61, rfl, h61⟩ := uncons h60
  obtain ⟨a62, l62, rfl, h62⟩ := uncons h61
  obtain ⟨a63, l63, rfl, h63⟩ := uncons h62
  obtain rfl := List.length_eq_zero_iff.1 h63
  exact ⟨⟨a0.toNat, a1.toNat, a2.toNat, a3.toNat, a4.toNat, a5.toNat, a6.toNat, a7.toNat, a8.toNat, a9.toNat, a10.toNat, a11.toNat, a12.toNat, a13.toNat, a14.toNat, a15.toNat, a16.toNat, a17.toNat, a18.toNat, a19.toNat, a20.toNat, a21.toNat, a22.toNat, a23.toNat, a24.toNat, a25.toNat, a26.toNat, a27.toNat, a28.toNat, a29.toNat, a30.toNat, a31.toNat, a32.toNat, a33.toNat, a34.toNat, a35.toNat, a36.toNat, a37.toNat, a38.toNat, a39.toNat, a40.toNat, a41.toNat, a42.toNat, a43.toNat, a44.toNat, a45.toNat, a46.toNat, a47.toNat, a48.toNat, a49.toNat, a50.toNat, a51.toNat, a52.toNat, a53.toNat, a54.toNat, a55.toNat, a56.toNat, a57.toNat, a58.toNat, a59.toNat, a60.toNat, a61.toNat, a62.toNat, a63.toNat⟩, rfl, rfl⟩
theorem allz_iff : ∀ l : List UInt8, allz (l.map fun b => (b.toNat : Int)) = decide (l = List.replicate l.length 0) := by
  intro l
  induction l with
  | nil => rfl
  | cons a r ih =>
    show (decide ((a.toNat : Int) = 0) && allz (r.map fun b => (b.toNat : Int))) = _
    rw [ih, List.length_cons, List.replicate_succ, Bool.eq_iff_iff, Bool.and_eq_true, decide_eq_true_eq, decide_eq_true_eq, decide_eq_true_eq, List.cons.injEq]
    refine and_congr ⟨fun e => ?_, fun e => by rw [e]; rfl⟩ Iff.rfl
    have : a.toNat = 0 := by omega
    exact UInt8.toNat_inj.1 this
theorem page_zero {v : Pg} {x : S_arena_page} (e : pints x = v.1.map fun b => (b.toNat : Int)) : allz (pints x) = decide (v = pg0) := by
  rw [e, allz_iff, v.2, Bool.eq_iff_iff, decide_eq_true_eq, decide_eq_true_eq]
  exact ⟨fun q => Subtype.ext q, fun q => by rw [q]; rfl⟩
def tkN (tk : List Bool) (n : Nat) : List Nat := (List.range n).filter fun i => tk[i]?.getD false
def frN (tk : List Bool) (n : Nat) : List Nat := (List.range n).filter fun i => !(tk[i]?.getD true)
theorem tkN_succ (tk : List Bool) (n : Nat) : tkN tk (n + 1) = tkN tk n ++ (if tk[n]?.getD false = true then [n] else []) := by
  unfold tkN
  rw [List.range_succ, List.filter_append, List.filter_cons, List.filter_nil]
theorem frN_succ (tk : List Bool) (n : Nat) : frN tk (n + 1) = frN tk n ++ (if (!(tk[n]?.getD true)) = true then [n] else []) := by
  unfold frN
  rw [List.range_succ, List.filter_append, List.filter_cons, List.filter_nil]
theorem tk_fr (tk : List Bool) : ∀ n, n ≤ tk.length → (tkN tk n).length + (frN tk n).length = n := by
  intro n
  induction n with
  | zero => intro _; rfl
  | succ n ih =>
    intro h
    have := ih (by omega)
    have e : tk[n]? = some tk[n] := List.getElem?_eq_getElem (by omega)
    rw [tkN_succ, frN_succ, e]
    cases tk[n] <;> simp <;> omega
theorem mem_fr {tk : List Bool} {n i : Nat} : i ∈ frN tk n ↔ i < n ∧ tk[i]? = some false := by
  unfold frN
  rw [List.mem_filter, List.mem_range]
  refine and_congr Iff.rfl ?_
  cases tk[i]? with
  | none => simp
  | some b => cases b <;> simp
theorem mem_tk {tk : List Bool} {n i : Nat} : i ∈ tkN tk n ↔ i < n ∧ tk[i]? = some true := by
  unfold tkN
  rw [List.mem_filter, List.mem_range]
  refine and_congr Iff.rfl ?_
  cases tk[i]? with
  | none => simp
  | some b => cases b <;> simp
theorem fr_nodup (tk : List Bool) (n : Nat) : (frN tk n).Nodup := List.nodup_range.sublist List.filter_sublist
theorem tk_nodup (tk : List Bool) (n : Nat) : (tkN tk n).Nodup := List.nodup_range.sublist List.filter_sublist
def frees (tk : List Bool) : Nat := tk.length - (tkN tk tk.length).length
theorem frees_eq (tk : List Bool) : frees tk = (frN tk tk.length).length := by
  have := tk_fr tk tk.length (Nat.le_refl _)
  unfold frees; omega
def ints (l : List Nat) : List Int := l.map fun i : Nat => (i : Int)
structure ArenaAt (h : H) (p : Nat) (sp st : Sl) (pgs : List Pg) (tk : List Bool) : Prop where
  cell : h p = some (.cells (S_arena_Arena.cells ⟨sp, st⟩).toArray N_arena_Arena (0, 0))
  pages : Buf pgC 64 N_arena_page h sp pgs
  taken : Buf cBool 1 N_bool h st tk
  len : tk.length = pgs.length
  small : pgs.length ≤ 256
structure AChg (sp st : Sl) (h h' : H) : Prop where
  but : But (fun c => sp.foot c ∨ st.foot c) h h'
  dom : ∀ c, h' c = none → h c = none
section
variable {h : H} {p : Nat} {sp st : Sl} {pgs : List Pg} {tk : List Bool}
theorem AChg.keeps {h' : H} (k : Keeps h h') : AChg sp st h h' := ⟨.of k, fun _ e => k.fresh e⟩
theorem ArenaAt.keep {h' : H} (x : ArenaAt h p sp st pgs tk) (k : Keeps h h') : ArenaAt h' p sp st pgs tk := ⟨k _ _ x.cell, x.pages.keep k, x.taken.keep k, x.len, x.small⟩
theorem ArenaAt.f0 (x : ArenaAt h p sp st pgs tk) : At h ((⟨p, 0, none⟩ : Addr).add 0) (cSl sp) := At.own (l1 := []) (l3 := (S_arena_Arena.cells ⟨sp, st⟩).drop 1) x.cell rfl
theorem ArenaAt.f1 (x : ArenaAt h p sp st pgs tk) : At h ((⟨p, 0, none⟩ : Addr).add 1) (cSl st) := At.own (l1 := (S_arena_Arena.cells ⟨sp, st⟩).take 1) (l3 := []) x.cell rfl
theorem ArenaAt.setP (x : ArenaAt h p sp st pgs tk) {h' : H} {pgs' : List Pg} (b : Buf pgC 64 N_arena_page h' sp pgs') (l : pgs'.length = pgs.length) (k : But sp.foot h h') : ArenaAt h' p sp st pgs' tk :=
  ⟨k _ _ x.cell fun f => (x.pages.typed f).ne (.of x.cell) (by decide) rfl, b, x.taken.but k fun a ha f => (x.pages.typed f).ne (x.taken.typed ⟨a, ha, rfl⟩) (by decide) rfl, by rw [l]; exact x.len, by rw [l]; exact x.small⟩
theorem ArenaAt.setT (x : ArenaAt h p sp st pgs tk) {h' : H} {tk' : List Bool} (b : Buf cBool 1 N_bool h' st tk') (l : tk'.length = tk.length) (k : But st.foot h h') : ArenaAt h' p sp st pgs tk' :=
  ⟨k _ _ x.cell fun f => (x.taken.typed f).ne (.of x.cell) (by decide) rfl, x.pages.but k fun a ha f => (x.taken.typed f).ne (x.pages.typed ⟨a, ha, rfl⟩) (by decide) rfl, b, by rw [l]; exact x.len, x.small⟩
theorem ArenaAt.other (x : ArenaAt h p sp st pgs tk) {h' : H} {F : Nat → Prop} (k : But F h h') (f : ∀ c, F c → c ≠ p ∧ ¬ sp.foot c ∧ ¬ st.foot c) : ArenaAt h' p sp st pgs tk :=
  ⟨k _ _ x.cell fun q => (f _ q).1 rfl, x.pages.but k fun a ha q => (f _ q).2.1 ⟨a, ha, rfl⟩, x.taken.but k fun a ha q => (f _ q).2.2 ⟨a, ha, rfl⟩, x.len, x.small⟩
theorem t_ANew {n : Nat} (hn : n ≤ 256) {K : Option Addr × Int → H → Prop} (y : ∀ p sp st h', ArenaAt h' p sp st (List.replicate n pg0) (List.replicate n false) → Keeps h h' → h p = none → (∀ c, sp.foot c → h c = none) → (∀ c, st.foot c → h c = none) → K (some ⟨p, 0, none⟩, 0) h') : m_arena_New (n : Int) K h := by
  unfold m_arena_New
  refine w_ifF (by rw [decide_eq_false (by omega), decide_eq_false (by omega)]; rfl) ?_
  refine w_joinP (fun z h' => Buf pgC 64 N_arena_page h' z.1 (List.replicate n pg0) ∧ Buf cBool 1 N_bool h' z.2 (List.replicate n false) ∧ Keeps h h' ∧ (∀ c, z.1.foot c → h c = none) ∧ (∀ c, z.2.foot c → h c = none)) (fun j hj => w_both ?_ ?_) ?_
  · refine w_make (by_ := 64) pg_len pg0 rfl rfl rfl (by omega) (by omega) fun s1 h1 b1 k1 f1 _ => w_make (by_ := 1) cb_len false rfl rfl rfl (by omega) (by omega) fun s2 h2 b2 k2 f2 _ => ?_
    exact hj _ _ ⟨b1.keep k2, b2, k1.trans k2, f1, fun c f => k1.fresh (f2 c f)⟩
  · refine w_make (by_ := 1) cb_len false rfl rfl rfl (by omega) (by omega) fun s1 h1 b1 k1 f1 _ => w_make (by_ := 64) pg_len pg0 rfl rfl rfl (by omega) (by omega) fun s2 h2 b2 k2 f2 _ => ?_
    exact hj _ _ ⟨b2, b1.keep k2, k1.trans k2, fun c f => k1.fresh (f2 c f), f1⟩
  · rintro ⟨s1, s2⟩ h1 ⟨b1, b2, k, f1, f2⟩
    refine w_new fun p hp => ?_
    exact y p s1 s2 _ ⟨upd_same _ _ _, b1.keep (.new hp), b2.keep (.new hp), by simp, by simpa using hn⟩ (k.trans (.new hp)) (k.fresh hp) f1 f2
theorem t_ATaken (x : ArenaAt h p sp st pgs tk) {K : Sl → H → Prop} (y : ∀ s h', Buf (cInt .i64) 1 N_int h' s (ints (tkN tk tk.length)) → Keeps h h' → (∀ c, s.foot c → h c = none) → K s h') : m_arena_Arena_Taken (some ⟨p, 0, none⟩) K h := by
  unfold m_arena_Arena_Taken
  have hl := x.taken.len
  have h1 := x.len
  have h2 := x.small
  refine w_deref (w_load x.f1 ?_)
  refine w_for tk.length (fun j s h' => s.2 = (j : Int) ∧ Buf (cInt .i64) 1 N_int h' s.1 (ints (tkN tk j)) ∧ (∀ c, s.1.foot c → h c = none) ∧ Keeps h h') ?_ ⟨rfl, Buf.nil, fun c ⟨a, ha, _⟩ => (by cases ha), .refl _⟩
  rintro rec j ⟨s, _⟩ h' hj ⟨rfl, bu, fr, k⟩ more
  refine w_if' (fun c => ?_) fun c => ?_
  · have c : (j : Int) < (st.len : Int) := c
    have e : tk[j]? = some tk[j] := List.getElem?_eq_getElem (by omega)
    refine w_get cb_len (x.keep k).taken.arr e rfl (v' := tk[j]) rfl (w_if (fun d => ?_) fun d => ?_)
    · refine w_app (by_ := 8) ci_len rfl bu [(j : Int)] rfl rfl (.inl ?_) fun s2 h2 bu2 b2 f2 d2 => ?_
      · have hl : (ints (tkN tk j)).length ≤ j := by
          have := tk_fr tk j hj
          unfold ints; rw [List.length_map]; omega
        simp only [List.length_singleton]; omega
      · show rec (s2, iAdd .i64 (j : Int) 1) h2
        rw [ia1 j (by omega)]
        refine more _ _ (by omega) ⟨rfl, ?_, fun c f => (f2 c f).elim (fr c) fun q => k.fresh q, k.but b2 fun n f => fr n f⟩
        have d : tk[j] = true := d
        rw [tkN_succ, e, d]
        unfold ints
        rw [List.map_append]
        exact bu2
    · show rec (s, iAdd .i64 (j : Int) 1) h'
      rw [ia1 j (by omega)]
      refine more _ _ (by omega) ⟨rfl, ?_, fr, k⟩
      have d : tk[j] = false := d
      rw [tkN_succ, e, d]
      simpa using bu
  · have c : ¬ (j : Int) < (st.len : Int) := c
    obtain rfl : j = tk.length := by omega
    exact y s h' bu k fr
theorem t_AFree (x : ArenaAt h p sp st pgs tk) {K : Int → H → Prop} (y : ∀ h', Keeps h h' → K ((frees tk : Nat) : Int) h') : m_arena_Arena_Free (some ⟨p, 0, none⟩) K h := by
  unfold m_arena_Arena_Free
  have hl := x.taken.len
  have hc := tk_fr tk tk.length (Nat.le_refl _)
  have h1 := x.len
  have h2 := x.small
  refine w_deref (w_joinP (fun z h' => z = ((tk.length : Int), ((tkN tk tk.length).length : Int)) ∧ Keeps h h') (fun j hj => w_both (w_load x.f1 (t_ATaken x fun s h' b k _ => hj _ _ ⟨?_, k⟩)) (t_ATaken x fun s h' b k _ => w_load (x.keep k).f1 (hj _ _ ⟨?_, k⟩))) ?_)
  · have := b.len; unfold ints at this; rw [List.length_map] at this; rw [hl, this]
  · have := b.len; unfold ints at this; rw [List.length_map] at this; rw [hl, this]
  · rintro _ h' ⟨rfl, k⟩
    show K (iSub .i64 (tk.length : Int) ((tkN tk tk.length).length : Int)) h'
    rw [is_ _ _ (by omega) (by omega)]
    exact y h' k
theorem t_Ais (x : ArenaAt h p sp st pgs tk) {i : Nat} (hi : tk[i]? = some true) {K : Bool → H → Prop} (y : K true h) : m_arena_Arena_is (some ⟨p, 0, none⟩) (i : Int) K h := by
  unfold m_arena_Arena_is
  have hl := x.taken.len
  have hlt := lt_of_get hi
  refine w_joinV true (fun j hj => w_ifT (decide_eq_true (by omega)) (w_deref (w_load x.f1 ?_))) (w_ifT rfl (w_deref (w_load x.f1 (w_get cb_len x.taken.arr hi rfl (v' := true) rfl y))))
  show j (decide ((i : Int) < (st.len : Int))) h
  rw [decide_eq_true (by omega)]; exact hj
theorem t_place (x : ArenaAt h p sp st pgs tk) {i off n : Nat} (hi : tk[i]? = some true) (hn : off + n ≤ 64) {K : Int → H → Prop} (y : K 0 h) : m_arena_Arena_place (some ⟨p, 0, none⟩) (i : Int) (off : Int) (n : Int) K h := by
  unfold m_arena_Arena_place
  refine t_Ais x hi (w_ifF rfl (w_ifF ?_ y))
  rw [iSub_eq (by omega) (by omega), decide_eq_false (by omega), decide_eq_false (by omega), decide_eq_false (by omega), decide_eq_false (by omega)]
  rfl
structure Took (tk tk' : List Bool) (pgs pgs' : List Pg) (ps : List Nat) : Prop where
  tk : ∀ i : Nat, tk'[i]? = if i ∈ ps then some true else tk[i]?
  pg : ∀ i : Nat, pgs'[i]? = if i ∈ ps then some pg0 else pgs[i]?
theorem t_ATake (x : ArenaAt h p sp st pgs tk) {n : Nat} {K : Sl × Int → H → Prop} (hn : n ≤ frees tk)
    (y : ∀ s h' ps pgs' tk', ArenaAt h' p sp st pgs' tk' → Buf (cInt .i64) 1 N_int h' s (ints ps) → (∀ c, s.foot c → h c = none) → AChg sp st h h' → ps.length = n → ps.Nodup → (∀ i ∈ ps, tk[i]? = some false) → Took tk tk' pgs pgs' ps → K (s, 0) h') : m_arena_Arena_Take (some ⟨p, 0, none⟩) (n : Int) K h := by
  unfold m_arena_Arena_Take
  have hl := x.taken.len
  have hp := x.pages.len
  have h1 := x.len
  have h2 := x.small
  have hfr : frees tk ≤ tk.length := by unfold frees; omega
  refine w_ifF (decide_eq_false (by omega)) (t_AFree x fun h0 k0 => w_ifF (decide_eq_false (by omega)) (w_deref (w_load (x.keep k0).f0 ?_)))
  refine w_for pgs.length (fun j s h' => s.2 = (j : Int) ∧ ∃ pgs' tk', ArenaAt h' p sp st pgs' tk' ∧ Buf (cInt .i64) 1 N_int h' s.1 (ints (frN tk j)) ∧ (∀ c, s.1.foot c → h c = none) ∧ AChg sp st h h' ∧ (frN tk j).length ≤ n ∧ Took tk tk' pgs pgs' (frN tk j)) ?_ ⟨rfl, pgs, tk, x.keep k0, Buf.nil, fun c ⟨a, ha, _⟩ => (by cases ha), .keeps k0, Nat.zero_le _, fun i => by simp [frN], fun i => by simp [frN]⟩
  rintro rec j ⟨s, _⟩ h' hj ⟨rfl, pgs', tk', x', bu, fr, ch, le, tkk⟩ more
  have bl := bu.len
  unfold ints at bl; rw [List.length_map] at bl
  refine w_if' (fun c => ?_) fun c => ?_
  · have c : (j : Int) < (sp.len : Int) := c
    have hjl : j < tk.length := by omega
    refine w_if' (fun d => ?_) fun d => ?_
    · have d : (s.len : Int) = (n : Int) := d
      exact y s h' _ pgs' tk' x' bu fr ch (by omega) (fr_nodup _ _) (fun i hi => (mem_fr.1 hi).2) tkk
    have d : ¬ (s.len : Int) = (n : Int) := d
    have hnm : j ∉ frN tk j := fun q => by have := (mem_fr.1 q).1; omega
    have et : tk[j]? = some tk[j] := List.getElem?_eq_getElem hjl
    have et' : tk'[j]? = some tk[j] := by rw [tkk.tk j, if_neg hnm, et]
    refine w_deref (w_load x'.f1 (w_get cb_len x'.taken.arr et' rfl (v' := tk[j]) rfl (w_if (fun g => ?_) fun g => ?_)))
    · have g : tk[j] = true := g
      show rec (s, iAdd .i64 (j : Int) 1) h'
      have e : frN tk (j + 1) = frN tk j := by rw [frN_succ, et, g]; simp
      rw [ia1 j (by omega)]
      exact more _ _ (by omega) ⟨rfl, pgs', tk', x', by rw [e]; exact bu, fr, ch, by rw [e]; exact le, by rw [e]; exact tkk⟩
    have g : tk[j] = false := g
    have hjp : j < pgs'.length := by have := x'.len; have := lt_of_get et'; omega
    have ep : pgs'[j]? = some pgs'[j] := List.getElem?_eq_getElem hjp
    refine w_joinP (fun _ h2 => Buf pgC 64 N_arena_page h2 sp (pgs'.set j pg0) ∧ But sp.foot h' h2 ∧ ∀ c, h2 c = none → h' c = none) (fun jj hjj => w_deref (w_load x'.f0 (w_idx pg_len x'.pages.arr ep rfl fun a1 _ g1 => ?_))) ?_
    · obtain ⟨v, hv, pv⟩ := page_of pgs'[j]
      rw [← hv] at g1
      refine w_load g1 (w_if (fun z => ?_) fun z => ?_)
      · refine w_deref (w_load x'.f0 (w_idx pg_len x'.pages.arr ep rfl fun a2 i2 g2 => w_cut (lo := 0) (hi := 64) rfl rfl (by omega) (Nat.le_refl _) ?_))
        refine .inr ⟨by show (64 : Nat) - 0 ≠ 0; omega, a2, ?_, ?_⟩
        · show (if (64 : Nat) = 0 then some a2 else (some a2).map (·.add (0 * 1))) = some a2
          rw [if_neg (by omega)]
          show some (a2.add 0) = some a2
          rw [add_zero]
        · have zc : (Builtin.zeroCells #[Value.int .u8 0] 64).toList = pgC pg0 := zero_flat u8_len 0 rfl 64
          show mStore a2 (Builtin.zeroCells #[Value.int .u8 0] 64).toList (jj ()) h'
          rw [zc]
          refine w_set pg_len x'.pages (v' := pg0) ep i2 (c1 := []) (c2 := pgC pgs'[j]) (c3 := []) (by simp) (by simp) (by rw [pg_len, pg_len]) (add_zero a2).symm fun h2 b2 k2 d2 => ?_
          exact hjj _ _ ⟨b2, k2, d2⟩
      · have z : (!allz (pints v)) = false := z
        rw [page_zero pv, Bool.not_eq_false', decide_eq_true_eq] at z
        refine hjj _ _ ⟨?_, .refl _ _, fun _ e => e⟩
        rw [z] at ep
        rw [set_same ep]; exact x'.pages
    · rintro _ h2 ⟨b2, k2, d2⟩
      have x2 := x'.setP b2 (List.length_set ..) k2
      refine w_deref (w_load x2.f1 (w_put cb_len x2.taken (i := j) (lt_of_get et') rfl true rfl fun h3 b3 k3 d3 => ?_))
      have x3 := x2.setT b3 (List.length_set ..) k3
      have bu3 : Buf (cInt .i64) 1 N_int h3 s (ints (frN tk j)) := (bu.but k2 fun a ha f => x.pages.has f (fr _ ⟨a, ha, rfl⟩)).but k3 fun a ha f => x.taken.has f (fr _ ⟨a, ha, rfl⟩)
      have ch3 : AChg sp st h h3 := ⟨(ch.but.trans k2 fun _ f => .inl (.inl f)).trans k3 fun _ f => .inl (.inr f), fun c e => ch.dom c (d2 c (d3 c e))⟩
      refine w_app (by_ := 8) ci_len rfl bu3 [(j : Int)] rfl rfl (.inl ?_) fun s4 h4 bu4 b4 f4 d4 => ?_
      · unfold ints; rw [List.length_map]; simp only [List.length_singleton]; omega
      · show rec (s4, iAdd .i64 (j : Int) 1) h4
        have e : frN tk (j + 1) = frN tk j ++ [j] := by rw [frN_succ, et, g]; simp
        rw [ia1 j (by omega)]
        refine more _ _ (by omega) ⟨rfl, pgs'.set j pg0, tk'.set j true, ?_, ?_, fun c f => (f4 c f).elim (fr c) fun q => ch3.dom c q, ⟨fun n o q nf => ?_, fun c e => ch3.dom c (d4 c e)⟩, ?_, ?_⟩
        · exact x3.other b4 fun c f => ⟨fun q => (by subst q; have := fr _ f; rw [x.cell] at this; cases this), fun q => x.pages.has q (fr _ f), fun q => x.taken.has q (fr _ f)⟩
        · rw [e]; unfold ints; rw [List.map_append]; exact bu4
        · exact b4 n o (ch3.but n o q nf) fun f => by have := fr _ f; rw [q] at this; cases this
        · rw [e, List.length_append, List.length_singleton]; omega
        · rw [e]
          refine ⟨fun i => ?_, fun i => ?_⟩
          · rw [List.getElem?_set, tkk.tk i]
            by_cases q : j = i
            · subst q
              rw [if_pos rfl, if_pos (lt_of_get et'), if_pos (by simp)]
            · rw [if_neg q]
              simp only [List.mem_append, List.mem_singleton, Ne.symm q, or_false]
          · rw [List.getElem?_set, tkk.pg i]
            by_cases q : j = i
            · subst q
              rw [if_pos rfl, if_pos hjp, if_pos (by simp)]
            · rw [if_neg q]
              simp only [List.mem_append, List.mem_singleton, Ne.symm q, or_false]
  · have c : ¬ (j : Int) < (sp.len : Int) := c
    obtain rfl : j = pgs.length := by omega
    have := frees_eq tk
    rw [h1] at this
    exact y s h' _ pgs' tk' x' bu fr ch (by omega) (fr_nodup _ _) (fun i hi => (mem_fr.1 hi).2) tkk
end
section
variable {h : H} {p : Nat} {sp st : Sl} {pgs : List Pg} {tk : List Bool}
theorem t_Contains {s : Sl} {zs : List Int} (x : Arr (cInt .i64) h s zs) (hn : zs.length ≤ 2 ^ 40) {v : Int} {K : Bool → H → Prop} (y : K (decide (v ∈ zs)) h) : m_slices_Contains_int_int s v K h := by
  unfold m_slices_Contains_int_int m_slices_Index_int_int
  have hl := x.len
  refine w_for zs.length (fun j z h' => z = (j : Int) ∧ h = h' ∧ v ∉ zs.take j) ?_ ⟨rfl, rfl, by simp⟩
  rintro rec j _ _ hj ⟨rfl, rfl, nm⟩ more
  refine w_if' (fun c => ?_) fun c => ?_
  · have c : (j : Int) < (s.len : Int) := c
    have e : zs[j]? = some zs[j] := List.getElem?_eq_getElem (by omega)
    refine w_get ci_len x e rfl (v' := zs[j]) rfl (w_if' (fun d => ?_) fun d => ?_)
    · have d : v = zs[j] := d
      rw [decide_eq_true (d ▸ List.getElem_mem (by omega))] at y
      show K (decide ((0 : Int) ≤ (j : Int))) h
      rw [decide_eq_true (by omega)]; exact y
    · have d : ¬ v = zs[j] := d
      rw [ia1 j (by omega)]
      refine more _ _ (by omega) ⟨rfl, rfl, ?_⟩
      rw [List.take_add_one, e, Option.toList_some, List.mem_append, List.mem_singleton, not_or]
      exact ⟨nm, d⟩
  · have c : ¬ (j : Int) < (s.len : Int) := c
    obtain rfl : j = zs.length := by omega
    rw [List.take_length] at nm
    rw [decide_eq_false nm] at y
    exact y
theorem t_AGive (x : ArenaAt h p sp st pgs tk) {s : Sl} {ps : List Nat} (bu : Buf (cInt .i64) 1 N_int h s (ints ps)) (nd : ps.Nodup) (all : ∀ i ∈ ps, tk[i]? = some true) (hn : ps.length ≤ 2 ^ 40) {K : Int → H → Prop}
    (y : ∀ h' tk', ArenaAt h' p sp st pgs tk' → (∀ i : Nat, tk'[i]? = if i ∈ ps then some false else tk[i]?) → But st.foot h h' → (∀ c, h' c = none → h c = none) → K 0 h') : m_arena_Arena_Give (some ⟨p, 0, none⟩) s K h := by
  unfold m_arena_Arena_Give
  have hl := bu.len
  unfold ints at hl; rw [List.length_map] at hl
  have hil : (ints ps).length = ps.length := List.length_map ..
  have get : ∀ j (hj : j < ps.length), (ints ps)[j]? = some ((ps[j] : Nat) : Int) := fun j hj => by unfold ints; rw [List.getElem?_map, List.getElem?_eq_getElem hj]; rfl
  refine w_for ps.length (fun j z h' => z = (j : Int) ∧ h = h') ?_ ⟨rfl, rfl⟩
  rintro rec j _ _ hj ⟨rfl, rfl⟩ more
  refine w_if' (fun c => ?_) fun c => ?_
  · have c : (j : Int) < (s.len : Int) := c
    have hjl : j < ps.length := by omega
    refine w_get ci_len bu.arr (get j hjl) rfl (v' := ((ps[j] : Nat) : Int)) rfl (t_Ais x (all _ (List.getElem_mem hjl)) (w_joinV false (fun jj hjj => w_ifF rfl (w_take bu.arr (n := j) (by omega) rfl rfl fun s' ar' _ _ => t_Contains ar' (by rw [List.length_take]; omega) ?_)) (w_ifF rfl ?_)))
    · have : ((ps[j] : Nat) : Int) ∉ (ints ps).take j := fun hm => by
        unfold ints at hm
        rw [← List.map_take, List.mem_map] at hm
        obtain ⟨i, hi, e⟩ := hm
        obtain rfl : i = ps[j] := by omega
        obtain ⟨q, hq, e⟩ := List.getElem_of_mem hi
        rw [List.getElem_take] at e
        rw [List.length_take] at hq
        exact List.pairwise_iff_getElem.1 nd q j (by omega) hjl (by omega) e
      rw [decide_eq_false this]; exact hjj
    · rw [ia1 j (by omega)]
      exact more _ _ hjl ⟨rfl, rfl⟩
  · refine w_for ps.length (fun j z h' => z = (j : Int) ∧ ∃ tk', ArenaAt h' p sp st pgs tk' ∧ (∀ i : Nat, tk'[i]? = if i ∈ ps.take j then some false else tk[i]?) ∧ But st.foot h h' ∧ ∀ c, h' c = none → h c = none) ?_ ⟨rfl, tk, x, fun i => by simp, .refl _ _, fun _ e => e⟩
    rintro rec j _ h1 hj ⟨rfl, tk', x', tt, k, d⟩ more
    refine w_if' (fun c => ?_) fun c => ?_
    · have c : (j : Int) < (s.len : Int) := c
      have hjl : j < ps.length := by omega
      have bu1 := bu.but k fun a ha f => (x.taken.typed f).ne (bu.typed ⟨a, ha, rfl⟩) (by decide) rfl
      refine w_get ci_len bu1.arr (get j hjl) rfl (v' := ((ps[j] : Nat) : Int)) rfl (w_deref (w_load x'.f1 ?_))
      have hlt : ps[j] < tk'.length := by
        rcases Nat.lt_or_ge ps[j] tk'.length with q | q
        · exact q
        · have e1 := tt ps[j]
          rw [List.getElem?_eq_none q, all _ (List.getElem_mem hjl)] at e1
          split at e1 <;> cases e1
      refine w_put cb_len x'.taken hlt rfl false rfl fun h2 b2 k2 d2 => ?_
      rw [ia1 j (by omega)]
      refine more _ _ hjl ⟨rfl, tk'.set ps[j] false, x'.setT b2 (List.length_set ..) k2, fun i => ?_, k.trans k2 fun _ f => .inl f, fun c e => d c (d2 c e)⟩
      rw [List.getElem?_set, tt i, List.take_add_one, List.getElem?_eq_getElem hjl]
      by_cases q : ps[j] = i
      · rw [if_pos q, if_pos hlt, if_pos (by simp [q])]
      · rw [if_neg q]
        simp only [Option.toList_some, List.mem_append, List.mem_singleton, Ne.symm q, or_false]
    · have c : ¬ (j : Int) < (s.len : Int) := c
      obtain rfl : j = ps.length := by omega
      rw [List.take_length] at tt
      exact y h1 tk' x' tt k d
theorem t_ARead (x : ArenaAt h p sp st pgs tk) {i off n : Nat} {pg : Pg} (hi : tk[i]? = some true) (hg : pgs[i]? = some pg) (hn : off + n ≤ 64) {K : Sl × Int → H → Prop}
    (y : ∀ s h', Buf cU8 1 N_u8 h' s ((pg.1.drop off).take n) → Keeps h h' → (∀ c, s.foot c → h c = none) → K (s, 0) h') : m_arena_Arena_Read (some ⟨p, 0, none⟩) (i : Int) (off : Int) (n : Int) K h := by
  unfold m_arena_Arena_Read
  refine t_place x hi hn (w_ifF rfl (w_deref (w_load x.f0 (w_idx pg_len x.pages.arr hg rfl fun a1 _ g1 => ?_))))
  obtain ⟨v, hv, pv⟩ := page_of pg
  rw [← hv] at g1
  refine w_load g1 (w_new fun b hb => ?_)
  have zc : (#[Value.int .u8 0, Value.int .u8 0, Value.int .u8 0, Value.int .u8 0, Value.int .u8 0, Value.int .u8 0, Value.int .u8 0, Value.int .u8 0, Value.int .u8 0, Value.int .u8 0, Value.int .u8 0, Value.int .u8 0, Value.int .u8 0, Value.int .u8 0, Value.int .u8 0, Value.int .u8 0, Value.int .u8 0, Value.int .u8 0, Value.int .u8 0, Value.int .u8 0, Value.int .u8 0, Value.int .u8 0, Value.int .u8 0, Value.int .u8 0, Value.int .u8 0, Value.int .u8 0, Value.int .u8 0, Value.int .u8 0, Value.int .u8 0, Value.int .u8 0, Value.int .u8 0, Value.int .u8 0, Value.int .u8 0, Value.int .u8 0, Value.int .u8 0, Value.int .u8 0, Value.int .u8 0, Value.int .u8 0, Value.int .u8 0, Value.int .u8 0, Value.int .u8 0, Value.int .u8 0, Value.int .u8 0, Value.int .u8 0, Value.int .u8 0, Value.int .u8 0, Value.int .u8 0, Value.int .u8 0, Value.int .u8 0, Value.int .u8 0, Value.int .u8 0, Value.int .u8 0, Value.int .u8 0, Value.int .u8 0, Value.int .u8 0, Value.int .u8 0, Value.int .u8 0, Value.int .u8 0, Value.int .u8 0, Value.int .u8 0, Value.int .u8 0, Value.int .u8 0, Value.int .u8 0, Value.int .u8 0] : Array Value) = (pgC pg0).toArray := rfl
  rw [zc]
  show mStore ⟨b, 0, none⟩ (S_arena_page.cells v) _ _
  rw [hv]
  refine w_store (l1 := []) (l2 := pgC pg0) (l3 := []) rfl (by rw [List.nil_append, List.append_nil]; exact upd_same _ _ _) rfl (by rw [pg_len, pg_len]) ?_
  rw [List.nil_append, List.append_nil, upd_upd]
  have k1 : Keeps h (upd h b (.cells (pgC pg).toArray N_arena_page (0, 0))) := .new hb
  have ar : Arr cU8 (upd h b (.cells (pgC pg).toArray N_arena_page (0, 0))) (⟨some ⟨b, 0, none⟩, 64, 64⟩ : Sl) pg.1 := ⟨pg.2.symm, Nat.le_refl _, fun _ => ⟨_, rfl, At.own (l1 := []) (l3 := []) (by rw [List.nil_append, List.append_nil]; exact upd_same _ _ _) rfl⟩⟩
  show mCut (⟨some ⟨b, 0, none⟩, 64, 64⟩ : Sl) (off : Int) (iAdd .i64 (off : Int) (n : Int)) 1 _ _
  rw [ia off n (by omega)]
  refine w_mid u8_len ar (lo := off) (hi := off + n) (by omega) (by rw [pg.2]; exact hn) rfl rfl fun s1 ar1 _ _ _ => ?_
  rw [show off + n - off = n by omega] at ar1
  unfold m_slices_Clone_byte_byte
  refine w_clone (by_ := 1) (e := N_u8) (k := fun r8 => K (r8, 0)) (zero := #[Value.int .u8 0]) u8_len u8_plain rfl ar1 (by rw [List.length_take]; omega) fun s2 h2 b2 k2 f2 => ?_
  exact y s2 h2 b2 (k1.trans k2) fun c f => k1.fresh (f2 c f)
def over (l : List UInt8) (off : Nat) (d : List UInt8) : List UInt8 := l.take off ++ d ++ l.drop (off + d.length)
theorem over_len {l d : List UInt8} {off : Nat} (h : off + d.length ≤ l.length) : (over l off d).length = l.length := by
  unfold over; rw [List.length_append, List.length_append, List.length_take, List.length_drop]; omega
def overP (v : Pg) (off : Nat) (d : List UInt8) (h : off + d.length ≤ 64) : Pg := ⟨over v.1 off d, by rw [over_len (by rw [v.2]; exact h), v.2]⟩
theorem t_AWrite (x : ArenaAt h p sp st pgs tk) {i off : Nat} {pg : Pg} {s : Sl} {d : List UInt8} (hi : tk[i]? = some true) (hg : pgs[i]? = some pg) (ar : Arr cU8 h s d) (hn : off + d.length ≤ 64) {K : Int → H → Prop}
    (y : ∀ h', ArenaAt h' p sp st (pgs.set i (overP pg off d hn)) tk → But sp.foot h h' → (∀ c, h' c = none → h c = none) → K 0 h') : m_arena_Arena_Write (some ⟨p, 0, none⟩) (i : Int) (off : Int) s K h := by
  unfold m_arena_Arena_Write
  have hl := ar.len
  rw [hl]
  refine t_place x hi hn (w_ifF rfl (w_deref (w_load x.f0 (w_idx pg_len x.pages.arr hg rfl fun a1 i1 g1 => ?_))))
  refine w_cut (lo := off) (hi := 64) rfl rfl (by omega) (Nat.le_refl _) ?_
  refine w_copy u8_len u8_plain ar (by show d.length ≤ 64 - off; omega) (fun e => ?_) fun ne => ⟨a1.add off, ?_, ?_⟩
  · subst e
    refine y h ?_ (.refl _ _) fun _ e => e
    have e : overP pg off [] hn = pg := Subtype.ext (by
      show over pg.1 off [] = pg.1
      unfold over; simp)
    rw [e, set_same hg]; exact x
  · show (if (64 : Nat) = off then some a1 else (some a1).map (·.add (off * 1))) = _
    have : 0 < d.length := List.length_pos_iff.2 ne
    rw [if_neg (by omega), Nat.mul_one]; rfl
  · refine w_set pg_len x.pages (v' := overP pg off d hn) hg i1 (c1 := flat cU8 (pg.1.take off)) (c2 := flat cU8 ((pg.1.drop off).take d.length)) (c3 := flat cU8 (pg.1.drop (off + d.length))) ?_ ?_ ?_ ?_ fun h2 b2 k2 d2 => ?_
    · rw [← flat_append, ← flat_append, List.append_assoc, ← List.drop_drop, List.take_append_drop, List.take_append_drop]; rfl
    · rw [← flat_append, ← flat_append]; rfl
    · rw [flat_len u8_len, flat_len u8_len, List.length_take, List.length_drop, pg.2]; omega
    · rw [flat_len u8_len, List.length_take, pg.2, Nat.mul_one, Nat.min_eq_left (by omega)]
    · exact y h2 (x.setP b2 (List.length_set ..) k2) k2 d2
end
section
variable {α : Type}
theorem pages_drop : ∀ (l : List (List UInt8)), (∀ x ∈ l, x.length = 64) → ∀ k x, l[k]? = some x → l.flatten.drop (64 * k) = x ++ (l.drop (k + 1)).flatten := by
  intro l
  induction l with
  | nil => intro _ k x h; simp at h
  | cons a r ih =>
    intro hl k x h
    have ha := hl a (List.mem_cons_self ..)
    cases k with
    | zero => simp at h; subst h; simp
    | succ k =>
      have h : r[k]? = some x := by simpa using h
      have := ih (fun y hy => hl y (List.mem_cons_of_mem _ hy)) k x h
      rw [List.flatten_cons, show 64 * (k + 1) = a.length + 64 * k by omega, List.drop_length_add_append, this, List.drop_succ_cons]
theorem pages_len : ∀ (l : List (List UInt8)), (∀ x ∈ l, x.length = 64) → l.flatten.length = 64 * l.length := by
  intro l
  induction l with
  | nil => intro _; rfl
  | cons a r ih =>
    intro hl
    rw [List.flatten_cons, List.length_append, hl a (List.mem_cons_self ..), ih fun y hy => hl y (List.mem_cons_of_mem _ hy), List.length_cons]
    omega
theorem pages_part {l : List (List UInt8)} (hl : ∀ x ∈ l, x.length = 64) {k f c : Nat} {x : List UInt8} (h : l[k]? = some x) (hf : f + c ≤ 64) : (l.flatten.drop (64 * k + f)).take c = (x.drop f).take c := by
  have hx := hl x (List.mem_of_getElem? h)
  rw [← List.drop_drop, pages_drop l hl k x h, List.drop_append_of_le_length (by omega), List.take_append_of_le_length (by rw [List.length_drop]; omega)]
theorem over_mid {A x B d : List UInt8} {f : Nat} (h : f + d.length ≤ x.length) : over (A ++ x ++ B) (A.length + f) d = A ++ over x f d ++ B := by
  unfold over
  rw [List.append_assoc A, List.take_length_add_append, Nat.add_assoc, List.drop_length_add_append, List.take_append_of_le_length (by omega), List.drop_append_of_le_length h]
  simp [List.append_assoc]
theorem pages_over {l : List (List UInt8)} (hl : ∀ x ∈ l, x.length = 64) {k f : Nat} {x d : List UInt8} (h : l[k]? = some x) (hf : f + d.length ≤ 64) : (l.set k (over x f d)).flatten = over l.flatten (64 * k + f) d := by
  have hx := hl x (List.mem_of_getElem? h)
  have hk := lt_of_get h
  have e : l = l.take k ++ x :: l.drop (k + 1) := split_at h
  have ef : l.flatten = (l.take k).flatten ++ x ++ (l.drop (k + 1)).flatten := by
    conv => lhs; rw [e]
    rw [List.flatten_append, List.flatten_cons, List.append_assoc]
  have ha : (l.take k).flatten.length = 64 * k := by
    rw [pages_len _ fun y hy => hl y (List.mem_of_mem_take hy), List.length_take, Nat.min_eq_left (by omega)]
  rw [List.set_eq_take_append_cons_drop, if_pos hk, List.flatten_append, List.flatten_cons, ef, ← ha, over_mid (by omega), List.append_assoc]
theorem over_nil {l : List UInt8} {off : Nat} : over l off [] = l := by unfold over; simp
theorem over_over {l d1 d2 : List UInt8} {off : Nat} (h : off + d1.length + d2.length ≤ l.length) : over (over l off d1) (off + d1.length) d2 = over l off (d1 ++ d2) := by
  unfold over
  have e1 : (l.take off ++ d1).length = off + d1.length := by rw [List.length_append, List.length_take, Nat.min_eq_left (by omega)]
  rw [← e1, List.take_left, e1]
  rw [List.drop_append, List.drop_eq_nil_of_le (by rw [e1]; omega), e1, List.drop_drop, List.length_append, List.nil_append]
  rw [show off + d1.length + (off + d1.length + d2.length - (off + d1.length)) = off + (d1.length + d2.length) by omega]
  simp [List.append_assoc]
theorem over_take {l d : List UInt8} {off n : Nat} (h : off + d.length ≤ n) (hn : n ≤ l.length) : (over l off d).take n = over (l.take n) off d := by
  unfold over
  rw [List.take_append, List.take_take, Nat.min_eq_left (by omega : off ≤ n)]
  have e1 : (l.take off ++ d).length = off + d.length := by rw [List.length_append, List.length_take, Nat.min_eq_left (by omega)]
  rw [e1, List.take_of_length_le (by rw [e1]; exact h), List.drop_take]
theorem part_more {l : List UInt8} {off a c : Nat} : (l.drop off).take a ++ (l.drop (off + a)).take c = (l.drop off).take (a + c) := by
  rw [← List.drop_drop, List.take_add]
theorem part_take {l : List UInt8} {x c n : Nat} (h : x + c ≤ n) : ((l.take n).drop x).take c = (l.drop x).take c := by
  rw [List.drop_take, List.take_take, Nat.min_eq_left (by omega)]
end
theorem keyS {t : TypeId} (hu : Tryz.prog.underlying t = some (.int .i64)) : KeyEq (eqV Tryz.prog 40 t) (Value.int .i64) := fun a b => by
  show eqV Tryz.prog (39 + 1) t _ _ = _
  rw [eqV.eq_2, hu]
  rfl
structure Ob where
  id : Int
  sl : Sl
  sz : Nat
  pg : List Nat
def pageB (pgs : List Pg) (i : Nat) : List UInt8 := (pgs[i]?.getD pg0).1
def obig (pgs : List Pg) (o : Ob) : List UInt8 := (o.pg.map (pageB pgs)).flatten
def obytes (pgs : List Pg) (o : Ob) : List UInt8 := (obig pgs o).take o.sz
def obV (o : Ob) : S_store_object := ⟨(o.sz : Int), o.sl⟩
def obE (o : Ob) : Int × S_store_object := (o.id, obV o)
def absS (pgs : List Pg) (os : List Ob) : List (Int × List UInt8) := os.map fun o => (o.id, obytes pgs o)
structure StoreAt (h : H) (s b p : Nat) (most next : Int) (sp st : Sl) (pgs : List Pg) (tk : List Bool) (os : List Ob) : Prop where
  cell : h s = some (.cells (S_store_Store.cells ⟨most, next, some b, some ⟨p, 0, none⟩⟩).toArray N_store_Store (0, 0))
  map : MapOf (Value.int .i64) S_store_object.val h b (os.map obE)
  ar : ArenaAt h p sp st pgs tk
  lists : ∀ o ∈ os, Buf (cInt .i64) 1 N_int h o.sl (ints o.pg)
  paged : ∀ o ∈ os, o.pg.length = (o.sz + 63) / 64 ∧ o.sz ≤ 4096
  nodup : (os.flatMap (·.pg)).Nodup
  held : ∀ i : Nat, tk[i]? = some true ↔ i ∈ os.flatMap (·.pg)
  rising : (os.map (·.id)).Pairwise (· < ·)
  ids : ∀ o ∈ os, 1 ≤ o.id ∧ o.id < next
  nxt : 1 ≤ next ∧ next ≤ 4611686018427387905
  most : (os.length : Int) ≤ most ∧ most ≤ 64
theorem page64 (pgs : List Pg) (i : Nat) : (pageB pgs i).length = 64 := (pgs[i]?.getD pg0).2
theorem big64 (pgs : List Pg) (o : Ob) : ∀ x ∈ o.pg.map (pageB pgs), x.length = 64 := fun x hx => by
  obtain ⟨i, _, rfl⟩ := List.mem_map.1 hx
  exact page64 pgs i
theorem big_len (pgs : List Pg) (o : Ob) : (obig pgs o).length = 64 * o.pg.length := by
  unfold obig; rw [pages_len _ (big64 pgs o), List.length_map]
theorem ob_len {pgs : List Pg} {o : Ob} (h : o.pg.length = (o.sz + 63) / 64) : (obytes pgs o).length = o.sz := by
  unfold obytes; rw [List.length_take, big_len]; omega
def fd (os : List Ob) (id : Int) : Option Ob := os.find? fun o => decide (id = o.id)
theorem look_map {β : Type} (g : Ob → β) (id : Int) : ∀ os : List Ob, alook (os.map fun o => (o.id, g o)) id = (fd os id).map g := by
  intro os
  induction os with
  | nil => rfl
  | cons o r ih =>
    rw [List.map_cons, alook_cons, ih]
    unfold fd
    by_cases e : id = o.id
    · rw [if_pos e, List.find?_cons, decide_eq_true e]; rfl
    · rw [if_neg e, List.find?_cons, decide_eq_false e]
theorem fd_mem {os : List Ob} {id : Int} {o : Ob} (h : fd os id = some o) : o ∈ os ∧ o.id = id := by
  unfold fd at h
  have h1 := List.mem_of_find?_eq_some h
  have h2 := List.find?_some h
  exact ⟨h1, (of_decide_eq_true h2).symm⟩
def usedS (L : List (Int × List UInt8)) : Nat := (L.map fun p => (p.2.length + 63) / 64).sum
theorem used_pages {pgs : List Pg} : ∀ {os : List Ob}, (∀ o ∈ os, o.pg.length = (o.sz + 63) / 64 ∧ o.sz ≤ 4096) → (os.flatMap (·.pg)).length = usedS (absS pgs os) := by
  intro os
  induction os with
  | nil => intro _; rfl
  | cons o r ih =>
    intro h
    have := ih fun q hq => h q (List.mem_cons_of_mem _ hq)
    have h1 := h o (List.mem_cons_self ..)
    rw [List.flatMap_cons, List.length_append, this]
    unfold usedS absS
    rw [List.map_cons, List.map_cons, List.sum_cons]
    show _ = ((obytes pgs o).length + 63) / 64 + _
    rw [ob_len h1.1, h1.1]
section
variable {h : H} {s b p : Nat} {most next : Int} {sp st : Sl} {pgs : List Pg} {tk : List Bool} {os : List Ob}
theorem StoreAt.keep (x : StoreAt h s b p most next sp st pgs tk os) {h' : H} (k : Keeps h h') : StoreAt h' s b p most next sp st pgs tk os :=
  ⟨k _ _ x.cell, x.map.keep k, x.ar.keep k, fun o ho => (x.lists o ho).keep k, x.paged, x.nodup, x.held, x.rising, x.ids, x.nxt, x.most⟩
theorem StoreAt.f0 (x : StoreAt h s b p most next sp st pgs tk os) : At h ((⟨s, 0, none⟩ : Addr).add 0) (cInt .i64 most) := At.own (l1 := []) (l3 := (S_store_Store.cells ⟨most, next, some b, some ⟨p, 0, none⟩⟩).drop 1) x.cell rfl
theorem StoreAt.f1 (x : StoreAt h s b p most next sp st pgs tk os) : At h ((⟨s, 0, none⟩ : Addr).add 1) (cInt .i64 next) := At.own (l1 := (S_store_Store.cells ⟨most, next, some b, some ⟨p, 0, none⟩⟩).take 1) (l3 := (S_store_Store.cells ⟨most, next, some b, some ⟨p, 0, none⟩⟩).drop 2) x.cell rfl
theorem StoreAt.f2 (x : StoreAt h s b p most next sp st pgs tk os) : At h ((⟨s, 0, none⟩ : Addr).add 2) (cMap (some b)) := At.own (l1 := (S_store_Store.cells ⟨most, next, some b, some ⟨p, 0, none⟩⟩).take 2) (l3 := (S_store_Store.cells ⟨most, next, some b, some ⟨p, 0, none⟩⟩).drop 3) x.cell rfl
theorem StoreAt.f3 (x : StoreAt h s b p most next sp st pgs tk os) : At h ((⟨s, 0, none⟩ : Addr).add 3) (cPtr (some ⟨p, 0, none⟩)) := At.own (l1 := (S_store_Store.cells ⟨most, next, some b, some ⟨p, 0, none⟩⟩).take 3) (l3 := []) x.cell rfl
theorem StoreAt.look (_x : StoreAt h s b p most next sp st pgs tk os) (id : Int) : alook (os.map obE) id = (fd os id).map obV := look_map obV id os
theorem StoreAt.free (x : StoreAt h s b p most next sp st pgs tk os) : frees tk = tk.length - usedS (absS pgs os) ∧ usedS (absS pgs os) ≤ tk.length := by
  have e : (tkN tk tk.length).Perm (os.flatMap (·.pg)) := (List.perm_ext_iff_of_nodup (tk_nodup _ _) x.nodup).2 fun i => by
    rw [mem_tk, ← x.held i]
    exact ⟨fun q => q.2, fun q => ⟨lt_of_get q, q⟩⟩
  have := e.length_eq
  rw [used_pages (pgs := pgs) x.paged] at this
  have h2 := tk_fr tk tk.length (Nat.le_refl _)
  unfold frees
  omega
theorem StoreAt.len (x : StoreAt h s b p most next sp st pgs tk os) : os.length ≤ 64 := by have := x.most; omega
theorem t_SNew0 {objects pages : Int} {K : Option Addr × Int → H → Prop} (bad : (objects < 1 ∨ 64 < objects ∨ pages < 1 ∨ 256 < pages) → K (none, 16) h)
    (good : 1 ≤ objects → objects ≤ 64 → 1 ≤ pages → pages ≤ 256 → ∀ s b p sp st h', StoreAt h' s b p objects 1 sp st (List.replicate pages.toNat pg0) (List.replicate pages.toNat false) [] → Keeps h h' → h s = none → h b = none → (∀ c, sp.foot c → h c = none) → (∀ c, st.foot c → h c = none) → h p = none → K (some ⟨s, 0, none⟩, 0) h') : m_store_New objects pages K h := by
  unfold m_store_New
  refine w_if (fun c => bad ?_) fun c => ?_
  · simp only [Bool.or_eq_true, decide_eq_true_eq] at c; omega
  · simp only [Bool.or_eq_false_iff, decide_eq_false_iff_not] at c
    have e : pages = ((pages.toNat : Nat) : Int) := by omega
    have : m_arena_New ((pages.toNat : Nat) : Int) (fun r1 => mIf (!decide (r1.2 = 0)) (K (none, r1.2)) (mMakeMap fun m2 => mNew N_store_Store #[(Value.int .i64 objects), (Value.int .i64 1), (Value.map m2), (Value.pointer r1.1)] fun ad3 => K ((some ad3), 0))) h := by
      refine t_ANew (by omega) fun p sp st h1 x1 k1 fp f1 f2 => w_ifF rfl (w_makeMap (Value.int .i64) S_store_object.val fun b h2 f3 x2 k2 => w_new fun s fs => ?_)
      have k3 : Keeps h2 (upd h2 s (.cells (S_store_Store.cells ⟨objects, 1, some b, some ⟨p, 0, none⟩⟩).toArray N_store_Store (0, 0))) := .new fs
      exact good (by omega) (by omega) (by omega) (by omega) s b p sp st _ ⟨upd_same _ _ _, x2.keep k3, (x1.keep k2).keep k3, fun o ho => (by cases ho), fun o ho => (by cases ho), List.nodup_nil, fun i => (by
        rw [List.getElem?_replicate]; constructor
        · intro q; split at q <;> cases q
        · intro q; cases q), List.Pairwise.nil, fun o ho => (by cases ho), ⟨by omega, by omega⟩, ⟨by simp only [List.length_nil]; omega, by omega⟩⟩ ((k1.trans k2).trans k3) (k1.fresh (k2.fresh fs)) (k1.fresh f3) f1 f2 fp
    rw [← e] at this
    exact this
theorem t_SFree0 (x : StoreAt h s b p most next sp st pgs tk os) {K : Int → H → Prop} (y : ∀ h', Keeps h h' → K ((frees tk : Nat) : Int) h') : m_store_Store_Free (some ⟨s, 0, none⟩) K h := by
  unfold m_store_Store_Free
  exact w_deref (w_load x.f3 (t_AFree x.ar y))
theorem t_SNext0 (x : StoreAt h s b p most next sp st pgs tk os) {K : Int → H → Prop} (y : K next h) : m_store_Store_Next (some ⟨s, 0, none⟩) K h := by
  unfold m_store_Store_Next
  exact w_deref (w_load x.f1 y)
theorem t_SSize0 (x : StoreAt h s b p most next sp st pgs tk os) {id : Int} {K : Int × Bool → H → Prop} (y : K ((((fd os id).map (·.sz)).getD 0 : Nat), (fd os id).isSome) h) : m_store_Store_Size (some ⟨s, 0, none⟩) id K h := by
  unfold m_store_Store_Size
  refine w_deref (w_load x.f2 (w_lookup (keyS (by kernel_rfl)) x.map ?_))
  rw [x.look id]
  cases e : fd os id with
  | none => rw [e] at y; exact y
  | some o => rw [e] at y; exact y
theorem w_paged {n : Nat} (hn : n ≤ 4096) {k : Int → H → Prop} (y : k (((n + 63) / 64 : Nat) : Int) h) : mPure (m_store_paged (n : Int)) k h := by
  refine w_pure (((n + 63) / 64 : Nat) : Int) (fun h' k' q => ?_) y
  unfold m_store_paged
  have e : iSub .i64 (iAdd .i64 (n : Int) 64) 1 = ((n + 63 : Nat) : Int) := by
    rw [iAdd_eq (by omega) (by omega), iSub_eq (by omega) (by omega)]; omega
  rw [e]
  have := iq (n + 63) 64 (by omega)
  rw [show ((64 : Nat) : Int) = 64 from rfl] at this
  rw [this]; exact q
def mayE (most next : Int) (n fr : Nat) (size : Int) : Int := if size < 0 ∨ 4096 < size then 6 else if most ≤ n ∨ 4611686018427387904 < next then 7 else if fr < (size.toNat + 63) / 64 then 8 else 0
theorem t_SMay0 (x : StoreAt h s b p most next sp st pgs tk os) {size : Int} {K : Int → H → Prop} (y : ∀ h', Keeps h h' → K (mayE most next os.length (frees tk) size) h') : m_store_Store_May (some ⟨s, 0, none⟩) size K h := by
  unfold m_store_Store_May
  unfold mayE at y
  have hl := x.len
  refine w_if (fun c => ?_) fun c => ?_
  · have c : size < 0 ∨ 4096 < size := by simpa using c
    simp only [if_pos c] at y
    exact y h (.refl _)
  have c : ¬ (size < 0 ∨ 4096 < size) := by simpa using c
  simp only [if_neg c] at y
  refine w_deref (w_deref (w_load x.f2 (w_mapLen x.map (by rw [List.length_map]; omega) (w_load x.f0 (w_joinV (decide (most ≤ (os.length : Int) ∨ 4611686018427387904 < next)) (fun j hj => ?_) ?_)))))
  · refine w_if' (fun d => ?_) fun d => w_deref (w_load x.f1 ?_)
    · rw [List.length_map] at d
      rw [decide_eq_true (.inl d)] at hj; exact hj
    · rw [List.length_map] at d
      have e : (most ≤ (os.length : Int) ∨ 4611686018427387904 < next) ↔ 4611686018427387904 < next := ⟨fun q => q.resolve_left d, .inr⟩
      rw [decide_eq_decide.2 e] at hj; exact hj
  refine w_if' (fun d => ?_) fun d => ?_
  · simp only [if_pos d] at y
    exact y h (.refl _)
  simp only [if_neg d] at y
  have es : size = ((size.toNat : Nat) : Int) := by omega
  generalize size.toNat = n at es y
  subst es
  refine w_paged (by omega) (w_deref (w_load x.f3 (t_AFree x.ar fun h1 k1 => w_if' (fun e => ?_) fun e => ?_)))
  · have e : ((frees tk : Nat) : Int) < (((n + 63) / 64 : Nat) : Int) := e
    have := y h1 k1
    rw [if_pos (by omega)] at this; exact this
  · have e : ¬ ((frees tk : Nat) : Int) < (((n + 63) / 64 : Nat) : Int) := e
    have := y h1 k1
    rw [if_neg (by omega)] at this; exact this
def inRg (sz : Nat) (off n : Int) : Prop := 0 ≤ off ∧ 0 ≤ n ∧ n ≤ 1024 ∧ off ≤ sz ∧ n ≤ sz - off
instance (sz : Nat) (off n : Int) : Decidable (inRg sz off n) := by unfold inRg; infer_instance
theorem t_ranged (x : StoreAt h s b p most next sp st pgs tk os) {id off n : Int} {K : S_store_object × Int → H → Prop} (no : fd os id = none → K (⟨0, Sl.nil⟩, 20) h) (bad : ∀ o, fd os id = some o → ¬ inRg o.sz off n → K (⟨0, Sl.nil⟩, 5) h) (good : ∀ o, fd os id = some o → inRg o.sz off n → K (obV o, 0) h) :
    m_store_Store_ranged (some ⟨s, 0, none⟩) id off n K h := by
  unfold m_store_Store_ranged
  refine w_deref (w_load x.f2 (w_lookup (keyS (by kernel_rfl)) x.map ?_))
  rw [x.look id]
  cases e : fd os id with
  | none => exact w_ifT rfl (no e)
  | some o =>
    refine w_ifF rfl ?_
    have hs := (x.paged o (fd_mem e).1).2
    show mIf (((((decide (off < 0)) || (decide (n < 0))) || (decide (1024 < n))) || (decide ((o.sz : Int) < off))) || (decide ((iSub .i64 (o.sz : Int) off) < n))) _ (K (obV o, 0)) h
    by_cases hr : inRg o.sz off n
    · refine w_ifF ?_ (good o e hr)
      unfold inRg at hr
      rw [iSub_eq (by omega) (by omega), decide_eq_false (by omega), decide_eq_false (by omega), decide_eq_false (by omega), decide_eq_false (by omega), decide_eq_false (by omega)]
      rfl
    · refine w_ifT ?_ (bad o e hr)
      unfold inRg at hr
      by_cases h1 : off < 0
      · rw [decide_eq_true h1]; simp
      by_cases h2 : (o.sz : Int) < off
      · rw [decide_eq_true h2]; simp
      rw [iSub_eq (by omega) (by omega)]
      simp only [Bool.or_eq_true, decide_eq_true_eq]
      omega
end
theorem ir (a k : Nat) : iRem .i64 (a : Int) (k : Int) = ((a % k : Nat) : Int) := rfl
theorem imn (a b : Nat) : iMin (a : Int) (b : Int) = ((min a b : Nat) : Int) := by
  unfold iMin; split <;> omega
theorem cv_Read1 {h : H} {i f a c : Int} {b1 b2 : Addr} {k : Unit → H → Prop} (hm : m_store_Store_Read_1 i f a c b1 b2 k h) : mCallV (T := Unit) Tryz.prog (fun _ => Value.tuple #[]) (Value.func (.func s_store_Store_Read_1.f) #[] #[(Value.pointer (some b1)), (Value.pointer (some b2))]) [(Value.int .i64 i), (Value.int .i64 f), (Value.int .i64 a), (Value.int .i64 c)] k h := by
  obtain ⟨fn, cal⟩ := s_store_Store_Read_1.callee
  exact .inl ⟨_, fn, #[], _, rfl, cal, s_store_Store_Read_1.ok (i, f, a, c, b1, b2) k h hm⟩
theorem cv_Write1 {h : H} {i f a c : Int} {b1 b2 : Addr} {k : Unit → H → Prop} (hm : m_store_Store_Write_1 i f a c b1 b2 k h) : mCallV (T := Unit) Tryz.prog (fun _ => Value.tuple #[]) (Value.func (.func s_store_Store_Write_1.f) #[] #[(Value.pointer (some b1)), (Value.pointer (some b2))]) [(Value.int .i64 i), (Value.int .i64 f), (Value.int .i64 a), (Value.int .i64 c)] k h := by
  obtain ⟨fn, cal⟩ := s_store_Store_Write_1.callee
  exact .inl ⟨_, fn, #[], _, rfl, cal, s_store_Store_Write_1.ok (i, f, a, c, b1, b2) k h hm⟩
def cntP (off n a : Nat) : Nat := min (64 - (off + a) % 64) (n - a)
theorem t_pieces {h : H} {o : Ob} {off n : Nat} (I : Nat → H → Prop) (hb : off + n ≤ 64 * o.pg.length) (hsm : o.pg.length ≤ 64) {fv : PV} (rd : ∀ a h, I a h → Buf (cInt .i64) 1 N_int h o.sl (ints o.pg))
    (step : ∀ (a : Nat) (h : H), a < n → I a h → ∀ i : Nat, o.pg[(off + a) / 64]? = some i → ∀ k : H → Prop, (∀ h', I (a + cntP off n a) h' → k h') → mCallV (T := Unit) Tryz.prog (fun _ => Value.tuple #[]) fv.1 [(Value.int .i64 (i : Int)), (Value.int .i64 ((((off + a) % 64 : Nat) : Int))), (Value.int .i64 (a : Int)), (Value.int .i64 ((cntP off n a : Nat) : Int))] (fun _ => k) h)
    (i0 : I 0 h) {K : Unit → H → Prop} (y : ∀ h', I n h' → K () h') : m_store_object_pieces (obV o) (off : Int) (n : Int) fv K h := by
  unfold m_store_object_pieces
  refine w_loop (fun s => n - s.toNat) (fun s h' => ∃ a : Nat, s = (a : Int) ∧ a ≤ n ∧ I a h') ?_ ⟨0, rfl, Nat.zero_le _, i0⟩
  rintro rec _ h' ⟨a, rfl, ha, hi⟩ more
  refine w_if' (fun c => ?_) fun c => ?_
  · have hlt : a < n := by omega
    have hq : (off + a) / 64 < o.pg.length := by omega
    have e1 := iq (off + a) 64 (by omega)
    have e2 := ir (off + a) 64
    rw [show ((64 : Nat) : Int) = 64 from rfl] at e1 e2
    have hf : (off + a) % 64 < 64 := Nat.mod_lt _ (by omega)
    have e3 := is_ 64 ((off + a) % 64) (by omega) (by omega)
    rw [show ((64 : Nat) : Int) = 64 from rfl] at e3
    have e4 := is_ n a (by omega) ha
    have e5 := imn (64 - (off + a) % 64) (n - a)
    rw [ia off a (by omega), e1, e2, e3, e4, e5]
    have eg : o.pg[(off + a) / 64]? = some o.pg[(off + a) / 64] := List.getElem?_eq_getElem hq
    have eg' : (ints o.pg)[(off + a) / 64]? = some ((o.pg[(off + a) / 64] : Nat) : Int) := by unfold ints; rw [List.getElem?_map, eg]; rfl
    refine w_get ci_len (rd a h' hi).arr eg' rfl (v' := ((o.pg[(off + a) / 64] : Nat) : Int)) rfl ?_
    refine step a h' hlt hi _ eg _ fun h2 i2 => ?_
    show rec (iAdd .i64 (a : Int) ((cntP off n a : Nat) : Int)) h2
    have hc : cntP off n a ≤ n - a ∧ 0 < cntP off n a := by unfold cntP; omega
    rw [ia a _ (by omega)]
    exact more _ _ ⟨a + cntP off n a, rfl, by omega, i2⟩ (by rw [Int.toNat_natCast, Int.toNat_natCast]; omega)
  · obtain rfl : a = n := by omega
    exact y h' hi
section
variable {h : H} {s b p : Nat} {most next : Int} {sp st : Sl} {pgs : List Pg} {tk : List Bool} {os : List Ob}
theorem mem_pg {o : Ob} (ho : o ∈ os) {i : Nat} (hi : i ∈ o.pg) : i ∈ os.flatMap (·.pg) := List.mem_flatMap.2 ⟨o, ho, hi⟩
theorem StoreAt.page (x : StoreAt h s b p most next sp st pgs tk os) {o : Ob} (ho : o ∈ os) {i : Nat} (hi : i ∈ o.pg) : tk[i]? = some true ∧ ∃ v, pgs[i]? = some v ∧ pageB pgs i = v.1 := by
  have h1 := (x.held i).2 (mem_pg ho hi)
  have h2 := lt_of_get h1
  rw [x.ar.len] at h2
  refine ⟨h1, pgs[i], List.getElem?_eq_getElem h2, ?_⟩
  unfold pageB; rw [List.getElem?_eq_getElem h2]; rfl
theorem t_SRead0 (x : StoreAt h s b p most next sp st pgs tk os) {id off n : Int} {K : Sl × Int → H → Prop} (no : fd os id = none → ∀ h', Keeps h h' → K (Sl.nil, 20) h') (bad : ∀ o, fd os id = some o → ¬ inRg o.sz off n → ∀ h', Keeps h h' → K (Sl.nil, 5) h')
    (good : ∀ o, fd os id = some o → inRg o.sz off n → ∀ sl h', Buf cU8 1 N_u8 h' sl (((obytes pgs o).drop off.toNat).take n.toNat) → Keeps h h' → (∀ c, sl.foot c → h c = none) → K (sl, 0) h') : m_store_Store_Read (some ⟨s, 0, none⟩) id off n K h := by
  unfold m_store_Store_Read
  refine w_new fun b1 hb1 => ?_
  have k1 : Keeps h (upd h b1 (.cells #[Value.pointer (some ⟨s, 0, none⟩)] N_P_store_Store (0, 0))) := .new hb1
  have g1 : At (upd h b1 (.cells #[Value.pointer (some ⟨s, 0, none⟩)] N_P_store_Store (0, 0))) ⟨b1, 0, none⟩ (cPtr (some ⟨s, 0, none⟩)) := At.own (l1 := []) (l3 := []) (upd_same _ _ _) rfl
  refine w_load g1 (t_ranged (x.keep k1) (fun e => w_ifT rfl (no e _ k1)) (fun o e r => w_ifT rfl (bad o e r _ k1)) fun o e r => w_ifF rfl (w_new fun b4 hb4 => ?_))
  obtain ⟨ho, -⟩ := fd_mem e
  obtain ⟨hp1, hp2⟩ := x.paged o ho
  have r' := r
  unfold inRg at r'
  have eo : off = ((off.toNat : Nat) : Int) := by omega
  have en : n = ((n.toNat : Nat) : Int) := by omega
  have good' := good o e r
  generalize off.toNat = off' at eo good'
  generalize n.toNat = n' at en good'
  subst eo; subst en
  have hbn : off' + n' ≤ o.sz := by omega
  generalize eh2 : upd (upd h b1 (.cells #[Value.pointer (some ⟨s, 0, none⟩)] N_P_store_Store (0, 0))) b4 (.cells #[Sl.val Sl.nil] N_Sl_u8 (0, 0)) = h2
  have k2 : Keeps h h2 := by subst eh2; exact k1.trans (.new hb4)
  have g12 : At h2 ⟨b1, 0, none⟩ (cPtr (some ⟨s, 0, none⟩)) := by subst eh2; exact g1.keep (.new hb4)
  have ne41 : b1 ≠ b4 := fun q => by subst q; rw [upd_same] at hb4; cases hb4
  have hf4 : h b4 = none := k1.fresh hb4
  refine t_pieces (fun a h' => ∃ so, h' b4 = some (.cells #[Sl.val so] N_Sl_u8 (0, 0)) ∧ Buf cU8 1 N_u8 h' so (((obytes pgs o).drop off').take a) ∧ (∀ c, so.foot c → h c = none ∧ c ≠ b4 ∧ c ≠ b1) ∧ But (fun c => c = b4 ∨ h2 c = none) h2 h' ∧ Keeps h h') (by omega) (by omega) (fun a h' hi => ?_) (fun a h' hlt hi i ei k hk => ?_) ?_ fun h' hi => ?_
  · obtain ⟨so, _, _, _, _, kk⟩ := hi
    exact (x.lists o ho).keep kk
  · obtain ⟨so, q4, bu, fr, bt, kk⟩ := hi
    have xk := x.keep kk
    have him := List.mem_of_getElem? ei
    obtain ⟨ht, v, hv, pv⟩ := x.page ho him
    have ga : At h' ⟨b1, 0, none⟩ (cPtr (some ⟨s, 0, none⟩)) := g12.but bt fun q => by
      rcases q with q | q
      · exact ne41 q
      · subst eh2; rw [upd_ne _ _ ne41, upd_same] at q; cases q
    have hcn : (off' + a) % 64 + cntP off' n' a ≤ 64 := by unfold cntP; omega
    have hca : a + cntP off' n' a ≤ n' := by unfold cntP; omega
    refine cv_Read1 ?_
    unfold m_store_Store_Read_1
    refine w_load ga (w_deref (w_load xk.f3 (t_ARead xk.ar ht hv hcn fun s5 h5 bu5 k5 f5 => ?_)))
    have q45 : h5 b4 = some (.cells #[Sl.val so] N_Sl_u8 (0, 0)) := k5 _ _ q4
    have g5 : At h5 ⟨b4, 0, none⟩ (cSl so) := At.own (l1 := []) (l3 := []) q45 rfl
    refine w_load g5 (w_append (by_ := 1) u8_len u8_plain rfl (bu.keep k5) bu5.arr (.inl (by
      rw [List.length_take, List.length_take]; omega)) fun s6 h6 bu6 b6 f6 d6 => ?_)
    have q46 : h6 b4 = some (.cells #[Sl.val so] N_Sl_u8 (0, 0)) := b6 _ _ q45 fun q => (fr _ q).2.1 rfl
    refine w_store (l1 := []) (l2 := [Sl.val so]) (l3 := []) rfl q46 rfl rfl ?_
    have fr6 : ∀ c, s6.foot c → h c = none ∧ c ≠ b4 ∧ c ≠ b1 := fun c f => by
      rcases f6 c f with q | q
      · exact fr c q
      · refine ⟨kk.fresh (k5.fresh q), fun z => ?_, fun z => ?_⟩
        · subst z; rw [q45] at q; cases q
        · subst z; obtain ⟨_, hq⟩ := (ga.keep k5).ex; rw [q] at hq; cases hq
    refine hk _ ⟨s6, upd_same _ _ _, ?_, fr6, ?_, ?_⟩
    · have e7 : ((obytes pgs o).drop off').take a ++ (v.1.drop ((off' + a) % 64)).take (cntP off' n' a) = ((obytes pgs o).drop off').take (a + cntP off' n' a) := by
        rw [← part_more]
        congr 1
        unfold obytes obig
        rw [part_take (by omega)]
        have e8 : (o.pg.map (pageB pgs))[(off' + a) / 64]? = some v.1 := by rw [List.getElem?_map, ei, Option.map_some, pv]
        have := pages_part (big64 pgs o) (k := (off' + a) / 64) (f := (off' + a) % 64) (c := cntP off' n' a) e8 hcn
        rw [Nat.div_add_mod] at this
        exact this.symm
      rw [e7] at bu6
      exact bu6.but (F := (· = b4)) (.upd rfl) fun c hc q => (fr6 _ ⟨c, hc, rfl⟩).2.1 q
    · refine ((bt.trans (.of k5) fun _ f => .inl f).trans (b6.mono (G := fun c => c = b4 ∨ h2 c = none) fun c f => ?_) fun _ f => .inl f).trans (.upd (F := fun c => c = b4) rfl) fun _ f => .inl (.inl f)
      by_cases z : h2 c = none
      · exact .inr z
      · refine .inl ?_
        subst eh2
        by_cases z4 : c = b4
        · exact z4
        · rw [upd_ne _ _ z4] at z
          exact absurd (by rw [upd_ne _ _ (fr c f).2.2]; exact (fr c f).1) z
    · refine ((kk.trans k5).but b6 fun c f => (fr c f).1).but (.upd (F := fun c => c = b4) rfl) fun c f => by subst f; exact hf4
  · refine ⟨Sl.nil, by subst eh2; exact upd_same _ _ _, Buf.nil, fun c ⟨a, ha, _⟩ => (by cases ha), .refl _ _, k2⟩
  · obtain ⟨so, q4, bu, fr, bt, kk⟩ := hi
    exact w_load (v := so) (At.own (l1 := []) (l3 := []) q4 rfl) (good' so h' bu kk fun c f => (fr c f).1)
end
theorem map_set_nodup {β : Type} {f f' : Nat → β} {k i : Nat} : ∀ {l : List Nat}, l.Nodup → l[k]? = some i → (∀ j, j ≠ i → f' j = f j) → l.map f' = (l.map f).set k (f' i) := by
  intro l nd hk hf
  apply List.ext_getElem?
  intro q
  rw [List.getElem?_map, List.getElem?_set, List.getElem?_map, List.length_map]
  by_cases e : k = q
  · subst e
    rw [if_pos rfl, hk, if_pos (lt_of_get hk)]; rfl
  · rw [if_neg e]
    cases hq : l[q]? with
    | none => rfl
    | some j =>
      rw [Option.map_some, Option.map_some, hf j fun z => ?_]
      subst z
      have h1 := lt_of_get hk
      have h2 := lt_of_get hq
      have e1 : l[k] = j := by rw [List.getElem?_eq_getElem h1] at hk; exact Option.some.inj hk
      have e2 : l[q] = j := by rw [List.getElem?_eq_getElem h2] at hq; exact Option.some.inj hq
      rcases Nat.lt_or_gt_of_ne e with z | z
      · exact List.pairwise_iff_getElem.1 nd k q h1 h2 z (e1.trans e2.symm)
      · exact List.pairwise_iff_getElem.1 nd q k h2 h1 z (e2.trans e1.symm)
section
variable {h : H} {s b p : Nat} {most next : Int} {sp st : Sl} {pgs : List Pg} {tk : List Bool} {os : List Ob}
theorem pg_nodup (nd : (os.flatMap (·.pg)).Nodup) {o : Ob} (ho : o ∈ os) : o.pg.Nodup := (List.pairwise_flatMap.1 nd).1 o ho
theorem one_ob (ri : (os.map (·.id)).Pairwise (· < ·)) {o o' : Ob} (ho : o ∈ os) (ho' : o' ∈ os) (e : o.id = o'.id) : o = o' := by
  obtain ⟨i, hi, rfl⟩ := List.getElem_of_mem ho
  obtain ⟨j, hj, rfl⟩ := List.getElem_of_mem ho'
  have hr := List.pairwise_iff_getElem.1 ri
  rcases Nat.lt_trichotomy i j with q | q | q
  · have := hr i j (by simpa using hi) (by simpa using hj) q
    simp only [List.getElem_map] at this; omega
  · subst q; rfl
  · have := hr j i (by simpa using hj) (by simpa using hi) q
    simp only [List.getElem_map] at this; omega
theorem pg_apart (nd : (os.flatMap (·.pg)).Nodup) {o o' : Ob} (ho : o ∈ os) (ho' : o' ∈ os) (e : o.id ≠ o'.id) {k : Nat} (hk : k ∈ o.pg) : k ∉ o'.pg := fun hk' => by
  have hr := List.pairwise_iff_getElem.1 (List.pairwise_flatMap.1 nd).2
  obtain ⟨i, hi, rfl⟩ := List.getElem_of_mem ho
  obtain ⟨j, hj, rfl⟩ := List.getElem_of_mem ho'
  rcases Nat.lt_trichotomy i j with q | q | q
  · exact hr i j hi hj q k hk k hk' rfl
  · subst q; exact e rfl
  · exact hr j i hj hi q k hk' k hk rfl
theorem obig_same {pgs pgs' : List Pg} {o : Ob} (h : ∀ i ∈ o.pg, pgs'[i]? = pgs[i]?) : obig pgs' o = obig pgs o := by
  unfold obig
  congr 1
  refine List.map_congr_left fun i hi => ?_
  unfold pageB; rw [h i hi]
theorem StoreAt.pages (x : StoreAt h s b p most next sp st pgs tk os) {h' : H} {pgs' : List Pg} (ar : ArenaAt h' p sp st pgs' tk) (k : But sp.foot h h') : StoreAt h' s b p most next sp st pgs' tk os :=
  ⟨k _ _ x.cell fun f => (x.ar.pages.typed f).ne (.of x.cell) (by decide) rfl, x.map.but k fun f => x.map.untyped (x.ar.pages.typed f) rfl, ar, fun o ho => (x.lists o ho).but k fun a ha f => (x.ar.pages.typed f).ne ((x.lists o ho).typed ⟨a, ha, rfl⟩) (by decide) rfl, x.paged, x.nodup, x.held, x.rising, x.ids, x.nxt, x.most⟩
theorem t_SWrite0 (x : StoreAt h s b p most next sp st pgs tk os) {id off : Int} {sl : Sl} {d : List UInt8} (ar : Arr cU8 h sl d) (ft : d ≠ [] → ∀ c, sl.foot c → ¬ sp.foot c) {K : Int → H → Prop} (no : fd os id = none → ∀ h', Keeps h h' → K 20 h') (bad : ∀ o, fd os id = some o → ¬ inRg o.sz off d.length → ∀ h', Keeps h h' → K 5 h')
    (good : ∀ o, fd os id = some o → inRg o.sz off d.length → ∀ h' pgs', StoreAt h' s b p most next sp st pgs' tk os → obytes pgs' o = over (obytes pgs o) off.toNat d → (∀ o' ∈ os, o'.id ≠ id → obytes pgs' o' = obytes pgs o') → But sp.foot h h' → (∀ c, h' c = none → h c = none) → K 0 h') : m_store_Store_Write (some ⟨s, 0, none⟩) id off sl K h := by
  unfold m_store_Store_Write
  refine w_new fun b1 hb1 => w_new fun b2 hb2 => ?_
  generalize eh2 : upd (upd h b1 (.cells #[Value.pointer (some ⟨s, 0, none⟩)] N_P_store_Store (0, 0))) b2 (.cells #[Sl.val sl] N_Sl_u8 (0, 0)) = h2
  have k1 : Keeps h (upd h b1 (.cells #[Value.pointer (some ⟨s, 0, none⟩)] N_P_store_Store (0, 0))) := .new hb1
  have k2 : Keeps h h2 := by subst eh2; exact k1.trans (.new hb2)
  have hb2' := k1.fresh hb2
  have g1 : At h2 ⟨b1, 0, none⟩ (cPtr (some ⟨s, 0, none⟩)) := by
    subst eh2
    exact (At.own (l1 := []) (l3 := []) (upd_same _ _ _) rfl : At (upd h b1 (.cells #[Value.pointer (some ⟨s, 0, none⟩)] N_P_store_Store (0, 0))) ⟨b1, 0, none⟩ (cPtr (some ⟨s, 0, none⟩))).keep (.new hb2)
  have g2 : At h2 ⟨b2, 0, none⟩ (cSl sl) := by subst eh2; exact At.own (l1 := []) (l3 := []) (upd_same _ _ _) rfl
  have hl := ar.len
  have x2 := x.keep k2
  refine w_load g1 (w_load g2 ?_)
  rw [hl]
  refine t_ranged x2 (fun e => w_ifT rfl (no e _ k2)) (fun o e r => w_ifT rfl (bad o e r _ k2)) fun o e r => w_ifF rfl (w_load g2 ?_)
  obtain ⟨ho, hid⟩ := fd_mem e
  obtain ⟨hp1, hp2⟩ := x.paged o ho
  have r' := r
  unfold inRg at r'
  have eo : off = ((off.toNat : Nat) : Int) := by omega
  have good' := good o e r
  generalize off.toNat = off' at eo good'
  subst eo
  have hbn : off' + d.length ≤ o.sz := by omega
  rw [hl]
  have nsp : ∀ c, h c = none → ¬ sp.foot c := fun c q f => x.ar.pages.has f q
  refine t_pieces (fun a h' => ∃ pgs', ArenaAt h' p sp st pgs' tk ∧ pgs'.length = pgs.length ∧ (∀ i, i ∉ o.pg → pgs'[i]? = pgs[i]?) ∧ obig pgs' o = over (obig pgs o) off' (d.take a) ∧ But sp.foot h2 h' ∧ ∀ c, h' c = none → h2 c = none) (by omega) (by omega) (fun a h' hi => ?_) (fun a h' hlt hi i ei k hk => ?_) ?_ fun h' hi => ?_
  · obtain ⟨pgs', _, _, _, _, bt, _⟩ := hi
    exact (x2.lists o ho).but bt fun a ha f => (x2.ar.pages.typed f).ne ((x2.lists o ho).typed ⟨a, ha, rfl⟩) (by decide) rfl
  · obtain ⟨pgs', xa, hlen, hoth, hbig, bt, dm⟩ := hi
    have him := List.mem_of_getElem? ei
    obtain ⟨ht, -⟩ := x.page ho him
    have hlt2 : i < pgs'.length := by have := lt_of_get ht; have := xa.len; omega
    have hv : pgs'[i]? = some pgs'[i] := List.getElem?_eq_getElem hlt2
    generalize pgs'[i] = v at hv
    have hcn : (off' + a) % 64 + cntP off' d.length a ≤ 64 := by unfold cntP; omega
    have hca : a + cntP off' d.length a ≤ d.length := by unfold cntP; omega
    have hdl : ((d.drop a).take (cntP off' d.length a)).length = cntP off' d.length a := by rw [List.length_take, List.length_drop]; omega
    have xs : At h' ((⟨s, 0, none⟩ : Addr).add 3) (cPtr (some ⟨p, 0, none⟩)) := (x2.pages xa bt).f3
    refine cv_Write1 ?_
    unfold m_store_Store_Write_1
    refine w_load (g1.but bt (nsp _ hb1)) (w_deref (w_load xs (w_load (g2.but bt (nsp _ hb2')) ?_)))
    rw [ia a _ (by omega)]
    refine w_mid u8_len ((ar.keep k2).but bt fun ne c hc q => ft ne _ ⟨c, hc, rfl⟩ q) (lo := a) (hi := a + cntP off' d.length a) (by omega) hca rfl rfl fun s5 ar5 _ _ _ => ?_
    rw [show a + cntP off' d.length a - a = cntP off' d.length a by omega] at ar5
    refine t_AWrite xa ht hv ar5 (by rw [hdl]; exact hcn) fun h6 xa6 b6 d6 => ?_
    refine hk _ ⟨_, xa6, by rw [List.length_set]; exact hlen, fun j hj => ?_, ?_, bt.trans b6 fun _ f => .inl f, fun c q => dm c (d6 c q)⟩
    · rw [List.getElem?_set, if_neg fun z => hj (by rw [← z]; exact him)]
      exact hoth j hj
    · have hpv : pageB pgs' i = v.1 := by unfold pageB; rw [hv]; rfl
      have e1 : o.pg.map (pageB (pgs'.set i (overP v ((off' + a) % 64) ((d.drop a).take (cntP off' d.length a)) (by rw [hdl]; exact hcn)))) = (o.pg.map (pageB pgs')).set ((off' + a) / 64) (over v.1 ((off' + a) % 64) ((d.drop a).take (cntP off' d.length a))) := by
        rw [map_set_nodup (f := pageB pgs') (pg_nodup x.nodup ho) ei fun j hj => ?_]
        · congr 1
          unfold pageB
          rw [List.getElem?_set, if_pos rfl, if_pos hlt2]; rfl
        · unfold pageB
          rw [List.getElem?_set, if_neg (Ne.symm hj)]
      have e2 : (o.pg.map (pageB pgs'))[(off' + a) / 64]? = some v.1 := by rw [List.getElem?_map, ei, Option.map_some, hpv]
      have e3 := pages_over (big64 pgs' o) (k := (off' + a) / 64) (f := (off' + a) % 64) (d := (d.drop a).take (cntP off' d.length a)) e2 (by rw [hdl]; exact hcn)
      rw [Nat.div_add_mod] at e3
      show (o.pg.map (pageB _)).flatten = _
      rw [e1, e3]
      show over (obig pgs' o) (off' + a) _ = _
      have hta : (d.take a).length = a := by rw [List.length_take]; omega
      have := over_over (l := obig pgs o) (d1 := d.take a) (d2 := (d.drop a).take (cntP off' d.length a)) (off := off') (by rw [hta, hdl, big_len]; omega)
      rw [hta] at this
      rw [hbig, this, List.take_add]
  · exact ⟨pgs, x2.ar, rfl, fun _ _ => rfl, by rw [List.take_zero, over_nil], .refl _ _, fun _ e => e⟩
  · obtain ⟨pgs', xa, hlen, hoth, hbig, bt, dm⟩ := hi
    rw [List.take_length] at hbig
    refine good' h' pgs' (x2.pages xa bt) ?_ (fun o' ho' hne => ?_) (fun c q hc nf => bt c q (k2 c q hc) nf) fun c q => k2.fresh (dm c q)
    · unfold obytes
      rw [hbig, over_take hbn (by rw [big_len]; omega)]
    · unfold obytes
      rw [obig_same fun i hi => hoth i fun hi' => pg_apart x.nodup ho ho' (by rw [hid]; exact Ne.symm hne) hi' hi]
theorem isort_self {l : List Int} (h : l.Pairwise (· < ·)) : isort l = l :=
  rising_eq (isort_rising (h.imp fun q => by omega)) h fun _ => (isort_perm l).mem_iff
theorem t_SIds0 (x : StoreAt h s b p most next sp st pgs tk os) {K : Sl → H → Prop} (y : ∀ s h', Buf (cInt .i64) 1 N_int h' s (os.map (·.id)) → Keeps h h' → (∀ c, s.foot c → h c = none) → K s h') : m_store_Store_Ids (some ⟨s, 0, none⟩) K h := by
  unfold m_store_Store_Ids
  have hlen := x.len
  refine w_deref (w_load x.f2 (w_range x.map fun it h1 f1 it1 k1 => ?_))
  have hne : it.block ≠ b := fun e => by
    obtain ⟨_, _, z, _⟩ := x.map.ex
    rw [e, z] at f1; cases f1
  refine w_for os.length (fun j s h' => ∃ rest at_ ks, IterOf (Value.int .i64) S_store_object.val h' it b (os.map obE) rest at_ ∧ rest.length + j = os.length ∧ ks.length = j ∧ (ks ++ rest.map (·.1)).Perm (os.map (·.id)) ∧ Buf (cInt .i64) 1 N_int h' s ks ∧ (∀ c, s.foot c → h1 c = none) ∧ But (fun c => c = it.block) h1 h' ∧ ∀ c, h' c = none → h1 c = none) ?_ ⟨os.map obE, none, [], it1, by rw [List.length_map]; rfl, rfl, by rw [List.map_map]; exact .refl _, Buf.nil, fun c ⟨a, ha, _⟩ => (by cases ha), .refl _ _, fun _ e => e⟩
  rintro rec j s h2 hj ⟨rest, at_, ks, it2, hl, hk, pk, bu2, fr2, b2, d2⟩ more
  have hit : h1 it.block ≠ none := by
    obtain ⟨_, _, _, _, e, _⟩ := it1.ex; rw [e]; simp
  have hbn : h1 b ≠ none := by
    obtain ⟨_, _, _, _, _, e, _⟩ := it1.ex; rw [e]; simp
  refine w_next it2 hne (fun e => w_ifF rfl ?_) fun q rest' h3 pm it3 b3 d3 => w_ifT rfl (w_entry it3 ?_)
  · subst e
    rw [List.map_nil, List.append_nil] at pk
    refine t_Sort bu2 (by omega) fun h3 bu3 w3 => ?_
    refine y s h3 ?_ ?_ fun c f => k1.fresh (fr2 c f)
    · rw [show (ks.mergeSort fun x y => decide (x ≤ y)) = os.map (·.id) from (isort_eq pk).trans (isort_self x.rising)] at bu3
      exact bu3
    · exact (k1.but b2 fun n e => by subst e; exact f1).but w3.but fun n f => k1.fresh (fr2 n f)
  · have e2 := pm.length_eq
    simp only [List.length_cons] at e2
    have bu3 : Buf (cInt .i64) 1 N_int h3 s ks := bu2.but b3 fun a ha e => hit (fr2 _ ⟨a, ha, e⟩)
    refine w_app (by_ := 8) ci_len rfl bu3 [q.1] rfl rfl (.inl (by simp only [List.length_singleton]; omega)) fun s4 h4 bu4 b4 f4 d4 => ?_
    refine more _ _ (by omega) ⟨rest', some q, ks ++ [q.1], it3.but b4 (fun f => hit (fr2 _ f)) (fun f => hbn (fr2 _ f)), by omega, by simp [hk], ?_, bu4, fun c f => ?_, ?_, fun c e => d2 c (d3 c (d4 c e))⟩
    · refine List.Perm.trans ?_ pk
      rw [List.append_assoc]
      exact List.Perm.append_left ks (show ([q.1] ++ rest'.map (·.1)).Perm (rest.map (·.1)) from (pm.map Prod.fst).symm)
    · rcases f4 c f with z | z
      · exact fr2 c z
      · exact d2 c (d3 c z)
    · refine (b2.trans b3 fun _ f => .inl f).trans b4 fun n f => .inr (fr2 n f)
theorem StoreAt.other (x : StoreAt h s b p most next sp st pgs tk os) {h' : H} {F : Nat → Prop} (k : But F h h') (f : ∀ c, F c → h c ≠ none → c ≠ s ∧ c ≠ b ∧ ¬ sp.foot c ∧ ¬ st.foot c ∧ c ≠ p ∧ ∀ o ∈ os, ¬ o.sl.foot c) : StoreAt h' s b p most next sp st pgs tk os := by
  have k' : But (fun c => F c ∧ h c ≠ none) h h' := fun c q e nf => k c q e fun z => nf ⟨z, by rw [e]; simp⟩
  exact ⟨k' _ _ x.cell fun q => (f _ q.1 q.2).1 rfl, x.map.but k' fun q => (f _ q.1 q.2).2.1 rfl, x.ar.other k' fun c q => ⟨(f _ q.1 q.2).2.2.2.2.1, (f _ q.1 q.2).2.2.1, (f _ q.1 q.2).2.2.2.1⟩,
    fun o ho => (x.lists o ho).but k' fun a ha q => (f _ q.1 q.2).2.2.2.2.2 o ho ⟨a, ha, rfl⟩, x.paged, x.nodup, x.held, x.rising, x.ids, x.nxt, x.most⟩
end
theorem aset_new {K V : Type} [DecidableEq K] {l : List (K × V)} {k : K} (h : alook l k = none) (v : V) : aset l k v = l ++ [(k, v)] := by
  unfold aset
  unfold alook at h
  cases e : aidx l k with
  | none => rfl
  | some p => rw [e] at h; cases h
theorem len_some {α β : Type} {a : List α} {b : List β} (h : ∀ i : Nat, a[i]?.isSome = b[i]?.isSome) : a.length = b.length := by
  rcases Nat.lt_trichotomy a.length b.length with q | q | q
  · have := h a.length
    rw [List.getElem?_eq_none (Nat.le_refl _), List.getElem?_eq_getElem q] at this; cases this
  · exact q
  · have := h b.length
    rw [List.getElem?_eq_none (l := b) (Nat.le_refl _), List.getElem?_eq_getElem q] at this; cases this
theorem adel_filter {β : Type} (g : Ob → β) (id : Int) : ∀ os : List Ob, (os.map (·.id)).Pairwise (· < ·) → adel (os.map fun o => (o.id, g o)) id = (os.filter fun q => !decide (q.id = id)).map fun o => (o.id, g o) := by
  intro os
  induction os with
  | nil => intro _; rfl
  | cons o r ih =>
    intro hp
    rw [List.map_cons, List.pairwise_cons] at hp
    rw [List.map_cons, adel_cons]
    by_cases e : id = o.id
    · rw [if_pos e, List.filter_cons, decide_eq_true e.symm]
      have : r.filter (fun q => !decide (q.id = id)) = r := by
        rw [List.filter_eq_self]
        intro q hq
        have := hp.1 q.id (List.mem_map_of_mem hq)
        simp; omega
      rw [this]; rfl
    · rw [if_neg e, ih hp.2, List.filter_cons, decide_eq_false (Ne.symm e)]; rfl
theorem big_zero {pgs : List Pg} : ∀ {l : List Nat}, (∀ i ∈ l, pgs[i]? = some pg0) → (l.map (pageB pgs)).flatten = List.replicate (64 * l.length) 0 := by
  intro l
  induction l with
  | nil => intro _; rfl
  | cons i r ih =>
    intro h
    have h0 : pageB pgs i = List.replicate 64 0 := by unfold pageB; rw [h i (List.mem_cons_self ..)]; rfl
    rw [List.map_cons, List.flatten_cons, ih fun j hj => h j (List.mem_cons_of_mem _ hj), h0, List.replicate_append_replicate, List.length_cons]
    congr 1; omega
section
variable {h : H} {s b p : Nat} {most next : Int} {sp st : Sl} {pgs : List Pg} {tk : List Bool} {os : List Ob}
theorem StoreAt.fresh (x : StoreAt h s b p most next sp st pgs tk os) : fd os next = none := by
  cases e : fd os next with
  | none => rfl
  | some o =>
    obtain ⟨h1, h2⟩ := fd_mem e
    have := (x.ids o h1).2
    omega
theorem t_SCreate0 (x : StoreAt h s b p most next sp st pgs tk os) {size : Int} {K : Int × Int → H → Prop} (bad : mayE most next os.length (frees tk) size ≠ 0 → ∀ h', Keeps h h' → K (0, mayE most next os.length (frees tk) size) h')
    (good : mayE most next os.length (frees tk) size = 0 → ∀ h' pgs' tk' o, StoreAt h' s b p most (next + 1) sp st pgs' tk' (os ++ [o]) → o.id = next → obytes pgs' o = List.replicate size.toNat 0 → (∀ o' ∈ os, obytes pgs' o' = obytes pgs o') → tk'.length = tk.length → (∀ c, o.sl.foot c → h c = none) → But (fun c => c = s ∨ c = b ∨ sp.foot c ∨ st.foot c) h h' → (∀ c, h' c = none → h c = none) → K (next, 0) h') : m_store_Store_Create (some ⟨s, 0, none⟩) size K h := by
  unfold m_store_Store_Create
  refine t_SMay0 x fun h1 k1 => w_if (fun c => ?_) fun c => ?_
  · rw [Bool.not_eq_true', decide_eq_false_iff_not] at c
    exact bad c h1 k1
  rw [Bool.not_eq_false', decide_eq_true_eq] at c
  have good2 := good c
  clear good bad
  have x1 := x.keep k1
  unfold mayE at c
  split at c
  · cases c
  rename_i c1
  split at c
  · cases c
  rename_i c2
  split at c
  · cases c
  rename_i c3
  have es : size = ((size.toNat : Nat) : Int) := by omega
  generalize size.toNat = n at es c3 good2
  subst es
  refine w_deref (w_paged (by omega) (w_load x1.f3 (t_ATake x1.ar (n := (n + 63) / 64) (by omega) fun sl h2 ps pgs2 tk2 xa bu fr ch hpl hnd hfr tkk => w_ifF rfl ?_)))
  have ty1 : ∀ c, (sp.foot c ∨ st.foot c) → ∀ {e : TypeId} {d : Nat}, Typed h1 e d → e ≠ N_arena_page → e ≠ N_bool → c ≠ d := fun c f e d t n1 n2 => by
    rcases f with f | f
    · exact (x1.ar.pages.typed f).ne t (Ne.symm n1)
    · exact (x1.ar.taken.typed f).ne t (Ne.symm n2)
  have cell2 := ch.but _ _ x1.cell fun f => ty1 _ f (.of x1.cell) (by decide) (by decide) rfl
  have map2 := x1.map.but ch.but fun f => by
    rcases f with f | f
    · exact x1.map.untyped (x1.ar.pages.typed f) rfl
    · exact x1.map.untyped (x1.ar.taken.typed f) rfl
  have g1 : At h2 ((⟨s, 0, none⟩ : Addr).add 1) (cInt .i64 next) := At.own (l1 := (S_store_Store.cells ⟨most, next, some b, some ⟨p, 0, none⟩⟩).take 1) (l3 := (S_store_Store.cells ⟨most, next, some b, some ⟨p, 0, none⟩⟩).drop 2) cell2 rfl
  have g2 : At h2 ((⟨s, 0, none⟩ : Addr).add 2) (cMap (some b)) := At.own (l1 := (S_store_Store.cells ⟨most, next, some b, some ⟨p, 0, none⟩⟩).take 2) (l3 := (S_store_Store.cells ⟨most, next, some b, some ⟨p, 0, none⟩⟩).drop 3) cell2 rfl
  refine w_deref (w_load g1 (w_deref (w_load g2 (w_mapSet (v := obV ⟨next, sl, n, ps⟩) (keyS (by kernel_rfl)) map2 rfl rfl fun h3 map3 b3 d3 => ?_))))
  have nsb : s ≠ b := map2.untyped (.of cell2)
  have cell3 := b3 _ _ cell2 nsb
  have g3 : At h3 ((⟨s, 0, none⟩ : Addr).add 1) (cInt .i64 next) := At.own (l1 := (S_store_Store.cells ⟨most, next, some b, some ⟨p, 0, none⟩⟩).take 1) (l3 := (S_store_Store.cells ⟨most, next, some b, some ⟨p, 0, none⟩⟩).drop 2) cell3 rfl
  have hn := x.nxt
  refine w_deref (w_load g3 (w_deref ?_))
  rw [iAdd_eq (by omega) (by omega)]
  refine w_store (l1 := [Value.int .i64 most]) (l2 := [Value.int .i64 next]) (l3 := [Value.map (some b), Value.pointer (some ⟨p, 0, none⟩)]) rfl cell3 rfl rfl ?_
  rw [aset_new (by rw [x.look, x.fresh]; rfl)] at map3
  have nm : ∀ {e : TypeId} {c : Nat}, Typed h2 e c → c ≠ b := fun t => map2.untyped t
  have xa3 : ArenaAt h3 p sp st pgs2 tk2 := xa.other b3 fun c q => by
    subst q
    exact ⟨(nm (.of xa.cell)).symm, fun f => nm (xa.pages.typed f) rfl, fun f => nm (xa.taken.typed f) rfl⟩
  have ty3 : ∀ {e : TypeId} {c : Nat}, Typed h3 e c → e ≠ N_store_Store → c ≠ s := fun t ne => t.ne (.of cell3) ne
  have upS : ∀ o : Obj, But (· = s) h3 (upd h3 s o) := fun o => .upd rfl
  have xa4 := fun o => xa3.other (upS o) fun c q => by
    subst q
    exact ⟨(ty3 (.of xa3.cell) (by decide)).symm, fun f => ty3 (xa3.pages.typed f) (by decide) rfl, fun f => ty3 (xa3.taken.typed f) (by decide) rfl⟩
  have hold : ∀ i : Nat, i ∈ os.flatMap (·.pg) → i ∉ ps := fun i hi hp => by
    have := hfr i hp
    rw [(x.held i).2 hi] at this; cases this
  have hfm : (os ++ [(⟨next, sl, n, ps⟩ : Ob)]).flatMap (·.pg) = os.flatMap (·.pg) ++ ps := by rw [List.flatMap_append]; simp
  refine good2 _ pgs2 tk2 ⟨next, sl, n, ps⟩ ⟨upd_same _ _ _, ?_, xa4 _, fun o ho => ?_, fun o ho => ?_, ?_, fun i => ?_, ?_, fun o ho => ?_, ⟨by omega, by omega⟩, ?_⟩ rfl ?_ (fun o ho => ?_) ?_ (fun c f => k1.fresh (fr c f)) ?_ ?_
  · rw [List.map_append]
    exact map3.but (upS _) fun q => map3.untyped (.of cell3) q.symm
  · have old : ∀ o ∈ os, Buf (cInt .i64) 1 N_int h2 o.sl (ints o.pg) := fun o ho => (x1.lists o ho).but ch.but fun a ha f => ty1 _ f ((x1.lists o ho).typed ⟨a, ha, rfl⟩) (by decide) (by decide) rfl
    have all : Buf (cInt .i64) 1 N_int h2 o.sl (ints o.pg) := by
      rcases List.mem_append.1 ho with q | q
      · exact old o q
      · obtain rfl := List.mem_singleton.1 q
        exact bu
    have all3 := all.but b3 fun a ha q => nm (all.typed ⟨a, ha, rfl⟩) q
    exact all3.but (upS _) fun a ha q => ty3 (all3.typed ⟨a, ha, rfl⟩) (by decide) q
  · rcases List.mem_append.1 ho with q | q
    · exact x.paged o q
    · obtain rfl := List.mem_singleton.1 q
      exact ⟨hpl, by show n ≤ 4096; omega⟩
  · rw [hfm, List.nodup_append]
    exact ⟨x.nodup, hnd, fun i hi j hj e => hold i hi (e ▸ hj)⟩
  · rw [hfm, List.mem_append, tkk.tk i]
    constructor
    · intro q
      split at q
      · rename_i z; exact .inr z
      · exact .inl ((x.held i).1 q)
    · rintro (q | q)
      · rw [if_neg (hold i q)]; exact (x.held i).2 q
      · rw [if_pos q]
  · rw [List.map_append, List.pairwise_append]
    refine ⟨x.rising, List.pairwise_singleton _ _, fun a ha c hc => ?_⟩
    obtain ⟨o, ho, rfl⟩ := List.mem_map.1 ha
    obtain rfl := List.mem_singleton.1 hc
    exact (x.ids o ho).2
  · rcases List.mem_append.1 ho with q | q
    · have := x.ids o q; exact ⟨this.1, by omega⟩
    · obtain rfl := List.mem_singleton.1 q
      exact ⟨hn.1, by show next < next + 1; omega⟩
  · have := x.most
    rw [List.length_append, List.length_singleton]; omega
  · show (((ps.map (pageB pgs2)).flatten).take n) = _
    rw [big_zero fun i hi => by rw [tkk.pg i, if_pos hi], hpl, List.take_replicate]
    congr 1; omega
  · unfold obytes
    rw [obig_same (pgs := pgs) (pgs' := pgs2) (o := o) fun i hi => by rw [tkk.pg i, if_neg (hold i (mem_pg ho hi))]]
  · refine len_some fun i => ?_
    rw [tkk.tk i]
    split
    · rename_i z; rw [hfr i z]; rfl
    · rfl
  · intro c q e nf
    refine upS _ _ _ (b3 _ _ (ch.but _ _ (k1 _ _ e) fun f => nf ?_) fun f => nf (.inr (.inl f))) fun f => nf (.inl f)
    rcases f with f | f
    · exact .inr (.inr (.inl f))
    · exact .inr (.inr (.inr f))
  · exact fun c q => k1.fresh (ch.dom c (d3 c (upd_none.1 q).2))
theorem t_SDestroy0 (x : StoreAt h s b p most next sp st pgs tk os) {id : Int} {K : Int → H → Prop} (no : fd os id = none → K 20 h)
    (good : ∀ o, fd os id = some o → ∀ h' tk', StoreAt h' s b p most next sp st pgs tk' (os.filter fun q => !decide (q.id = id)) → tk'.length = tk.length → But (fun c => c = b ∨ st.foot c) h h' → (∀ c, h' c = none → h c = none) → K 0 h') : m_store_Store_Destroy (some ⟨s, 0, none⟩) id K h := by
  unfold m_store_Store_Destroy
  refine w_deref (w_load x.f2 (w_lookup (keyS (by kernel_rfl)) x.map ?_))
  rw [x.look id]
  cases e : fd os id with
  | none => exact w_ifT rfl (no e)
  | some o =>
    have good := good o e
    obtain ⟨ho, hid⟩ := fd_mem e
    have hpp := x.paged o ho
    refine w_ifF rfl (w_deref (w_load x.f3 (t_AGive x.ar (x.lists o ho) (pg_nodup x.nodup ho) (fun i hi => (x.held i).2 (mem_pg ho hi)) (by omega) fun h1 tk1 xa tt b1 d1 => ?_)))
    have nt : ∀ {e : TypeId} {d : Nat}, Typed h e d → e ≠ N_bool → ¬ st.foot d := fun t n1 f => (x.ar.taken.typed f).ne t (Ne.symm n1) rfl
    have cell1 := b1 _ _ x.cell (nt (.of x.cell) (by decide))
    have map1 := x.map.but b1 fun f => x.map.untyped (x.ar.taken.typed f) rfl
    have g2 : At h1 ((⟨s, 0, none⟩ : Addr).add 2) (cMap (some b)) := At.own (l1 := (S_store_Store.cells ⟨most, next, some b, some ⟨p, 0, none⟩⟩).take 2) (l3 := (S_store_Store.cells ⟨most, next, some b, some ⟨p, 0, none⟩⟩).drop 3) cell1 rfl
    refine w_deref (w_load g2 (w_mapDel (keyS (by kernel_rfl)) map1 rfl fun h2 map2 b2 d2 => ?_))
    have map2 : MapOf (Value.int .i64) S_store_object.val h2 b (adel (os.map fun o => (o.id, obV o)) id) := map2
    rw [adel_filter obV id os x.rising] at map2
    have nm : ∀ {e : TypeId} {c : Nat}, Typed h1 e c → c ≠ b := fun t => map1.untyped t
    have sub : ∀ q ∈ os.filter (fun q => !decide (q.id = id)), q ∈ os ∧ q.id ≠ id := fun q hq => by
      rw [List.mem_filter] at hq
      exact ⟨hq.1, by simpa using hq.2⟩
    refine good h2 tk1 ⟨b2 _ _ cell1 (nm (.of cell1)), map2, xa.other b2 fun c q => by
      subst q
      exact ⟨(nm (.of xa.cell)).symm, fun f => nm (xa.pages.typed f) rfl, fun f => nm (xa.taken.typed f) rfl⟩, fun q hq => ?_, fun q hq => x.paged q (sub q hq).1, ?_, fun i => ?_, ?_, fun q hq => x.ids q (sub q hq).1, x.nxt, ?_⟩ ?_ ?_ fun c q => d1 c (d2 c q)
    · have l0 := x.lists q (sub q hq).1
      have l1 := l0.but b1 fun a ha f => nt (l0.typed ⟨a, ha, rfl⟩) (by decide) f
      exact l1.but b2 fun a ha z => nm (l1.typed ⟨a, ha, rfl⟩) z
    · refine List.pairwise_flatMap.2 ⟨fun q hq => pg_nodup x.nodup (sub q hq).1, (List.pairwise_flatMap.1 x.nodup).2.sublist List.filter_sublist⟩
    · rw [tt i]
      constructor
      · intro q
        split at q
        · cases q
        · rename_i z
          obtain ⟨o', ho', hi'⟩ := List.mem_flatMap.1 ((x.held i).1 q)
          refine List.mem_flatMap.2 ⟨o', List.mem_filter.2 ⟨ho', ?_⟩, hi'⟩
          rw [Bool.not_eq_true', decide_eq_false_iff_not]
          intro w
          obtain rfl := one_ob x.rising ho' ho (w.trans hid.symm)
          exact z hi'
      · intro q
        obtain ⟨o', ho', hi'⟩ := List.mem_flatMap.1 q
        obtain ⟨m1, m2⟩ := sub o' ho'
        rw [if_neg (pg_apart x.nodup m1 ho (by rw [hid]; exact m2) hi')]
        exact (x.held i).2 (mem_pg m1 hi')
    · exact x.rising.sublist (List.filter_sublist.map _)
    · have := x.most
      have := List.length_filter_le (fun q : Ob => !decide (q.id = id)) os
      omega
    · refine len_some fun i => ?_
      rw [tt i]
      split
      · rename_i z; rw [(x.held i).2 (mem_pg ho z)]; rfl
      · rfl
    · exact (b1.mono fun _ f => .inr f).trans b2 fun _ f => .inl (.inl f)
end
structure SAt (h : H) (s : Nat) (F P : Nat → Prop) (most : Int) (np : Nat) (next : Int) (L : List (Int × List UInt8)) : Prop where
  ex : ∃ b p sp st pgs tk os, StoreAt h s b p most next sp st pgs tk os ∧ tk.length = np ∧ L = absS pgs os ∧ (∀ c, F c ↔ (c = s ∨ c = b ∨ sp.foot c ∨ st.foot c)) ∧ ∀ c, P c ↔ (c = p ∨ ∃ o ∈ os, o.sl.foot c)
structure SChg (F : Nat → Prop) (h h' : H) : Prop where
  but : But F h h'
  dom : ∀ c, h' c = none → h c = none
theorem look_abs {pgs : List Pg} {os : List Ob} {id : Int} : alook (absS pgs os) id = (fd os id).map (obytes pgs) := look_map (obytes pgs) id os
section
variable {h : H} {s : Nat} {F P : Nat → Prop} {most : Int} {np : Nat} {next : Int} {L : List (Int × List UInt8)}
theorem SAt.other (x : SAt h s F P most np next L) {h' : H} {G : Nat → Prop} (k : But G h h') (f : ∀ c, G c → h c ≠ none → ¬ F c ∧ ¬ P c) : SAt h' s F P most np next L := by
  obtain ⟨b, p, sp, st, pgs, tk, os, y, e1, e2, e3, e4⟩ := x.ex
  refine ⟨b, p, sp, st, pgs, tk, os, y.other k fun c q hc => ?_, e1, e2, e3, e4⟩
  obtain ⟨f1, f2⟩ := f c q hc
  rw [e3] at f1
  rw [e4] at f2
  simp only [not_or] at f1 f2
  exact ⟨f1.1, f1.2.1, f1.2.2.1, f1.2.2.2, f2.1, fun o ho z => f2.2 ⟨o, ho, z⟩⟩
theorem SAt.has (x : SAt h s F P most np next L) {c : Nat} (f : F c) : h c ≠ none := by
  obtain ⟨b, p, sp, st, pgs, tk, os, y, e1, e2, e3, e4⟩ := x.ex
  rcases (e3 c).1 f with rfl | rfl | q | q
  · rw [y.cell]; simp
  · obtain ⟨_, _, z, _⟩ := y.map.ex; rw [z]; simp
  · exact y.ar.pages.has q
  · exact y.ar.taken.has q
theorem SAt.hasP (x : SAt h s F P most np next L) {c : Nat} (f : P c) : Typed h N_arena_Arena c ∨ Typed h N_int c := by
  obtain ⟨b, p, sp, st, pgs, tk, os, y, e1, e2, e3, e4⟩ := x.ex
  rcases (e4 c).1 f with rfl | ⟨o, ho, q⟩
  · exact .inl (.of y.ar.cell)
  · exact .inr ((y.lists o ho).typed q)
structure SLaw (most : Int) (np : Nat) (next : Int) (L : List (Int × List UInt8)) : Prop where
  rising : (L.map (·.1)).Pairwise (· < ·)
  ids : ∀ q ∈ L, 1 ≤ q.1 ∧ q.1 < next
  sizes : ∀ q ∈ L, q.2.length ≤ 4096
  used : usedS L ≤ np
  nxt : 1 ≤ next ∧ next ≤ 4611686018427387905
  most : (L.length : Int) ≤ most ∧ most ≤ 64
  np : np ≤ 256
theorem SAt.law (x : SAt h s F P most np next L) : SLaw most np next L := by
  obtain ⟨b, p, sp, st, pgs, tk, os, y, rfl, rfl, e3, e4⟩ := x.ex
  refine ⟨?_, fun q hq => ?_, fun q hq => ?_, y.free.2, y.nxt, by unfold absS; rw [List.length_map]; exact y.most, by rw [y.ar.len]; exact y.ar.small⟩
  · unfold absS; rw [List.map_map]; exact y.rising
  · obtain ⟨o, ho, rfl⟩ := List.mem_map.1 hq
    exact y.ids o ho
  · obtain ⟨o, ho, rfl⟩ := List.mem_map.1 hq
    show (obytes pgs o).length ≤ 4096
    rw [ob_len (y.paged o ho).1]; exact (y.paged o ho).2
theorem t_SNew {objects pages : Int} {K : Option Addr × Int → H → Prop} (bad : (objects < 1 ∨ 64 < objects ∨ pages < 1 ∨ 256 < pages) → K (none, 16) h)
    (good : 1 ≤ objects → objects ≤ 64 → 1 ≤ pages → pages ≤ 256 → ∀ s F P h', SAt h' s F P objects pages.toNat 1 [] → Keeps h h' → (∀ c, F c → h c = none) → (∀ c, P c → h c = none) → K (some ⟨s, 0, none⟩, 0) h') : m_store_New objects pages K h :=
  t_SNew0 bad fun g1 g2 g3 g4 s b p sp st h' x k f1 f2 f3 f4 f5 => good g1 g2 g3 g4 s (fun c => c = s ∨ c = b ∨ sp.foot c ∨ st.foot c) (fun c => c = p) h' ⟨b, p, sp, st, _, _, [], x, List.length_replicate, rfl, fun _ => Iff.rfl, fun c => by simp⟩ k (fun c f => by
    rcases f with rfl | rfl | f | f
    · exact f1
    · exact f2
    · exact f3 c f
    · exact f4 c f) fun c f => by subst f; exact f5
theorem t_SFree (x : SAt h s F P most np next L) {K : Int → H → Prop} (y : ∀ h', Keeps h h' → K ((np - usedS L : Nat) : Int) h') : m_store_Store_Free (some ⟨s, 0, none⟩) K h := by
  obtain ⟨b, p, sp, st, pgs, tk, os, z, rfl, rfl, e3, e4⟩ := x.ex
  refine t_SFree0 z fun h' k => ?_
  rw [z.free.1]; exact y h' k
theorem t_SNext (x : SAt h s F P most np next L) {K : Int → H → Prop} (y : K next h) : m_store_Store_Next (some ⟨s, 0, none⟩) K h := by
  obtain ⟨b, p, sp, st, pgs, tk, os, z, rfl, rfl, e3, e4⟩ := x.ex
  exact t_SNext0 z y
theorem t_SSize (x : SAt h s F P most np next L) {id : Int} {K : Int × Bool → H → Prop} (y : K ((((alook L id).map (·.length)).getD 0 : Nat), (alook L id).isSome) h) : m_store_Store_Size (some ⟨s, 0, none⟩) id K h := by
  obtain ⟨b, p, sp, st, pgs, tk, os, z, rfl, rfl, e3, e4⟩ := x.ex
  refine t_SSize0 z ?_
  rw [look_abs] at y
  cases e : fd os id with
  | none => rw [e] at y; exact y
  | some o =>
    rw [e] at y
    have := ob_len (pgs := pgs) (z.paged o (fd_mem e).1).1
    simp only [Option.map_some, Option.getD_some, this] at y
    exact y
theorem t_SCreate (x : SAt h s F P most np next L) {size : Int} {K : Int × Int → H → Prop} (bad : mayE most next L.length (np - usedS L) size ≠ 0 → ∀ h', Keeps h h' → K (0, mayE most next L.length (np - usedS L) size) h')
    (good : mayE most next L.length (np - usedS L) size = 0 → ∀ h' P', SAt h' s F P' most np (next + 1) (L ++ [(next, List.replicate size.toNat 0)]) → (∀ c, P' c → P c ∨ h c = none) → SChg F h h' → K (next, 0) h') : m_store_Store_Create (some ⟨s, 0, none⟩) size K h := by
  obtain ⟨b, p, sp, st, pgs, tk, os, z, rfl, rfl, e3, e4⟩ := x.ex
  have el : (absS pgs os).length = os.length := List.length_map ..
  rw [el, ← z.free.1] at bad good
  refine t_SCreate0 z bad fun e h' pgs' tk' o z' hid hz hs ht fo bt d => good e h' (fun c => P c ∨ o.sl.foot c) ⟨b, p, sp, st, pgs', tk', _, z', ht, ?_, e3, fun c => ?_⟩ (fun c q => q.imp id (fo c)) ⟨bt.mono fun c q => (e3 c).2 q, d⟩
  rotate_left
  · rw [e4 c]
    constructor
    · rintro ((q | ⟨o', ho', q⟩) | q)
      · exact .inl q
      · exact .inr ⟨o', List.mem_append_left _ ho', q⟩
      · exact .inr ⟨o, List.mem_append_right _ (List.mem_singleton.2 rfl), q⟩
    · rintro (q | ⟨o', ho', q⟩)
      · exact .inl (.inl q)
      · rcases List.mem_append.1 ho' with w | w
        · exact .inl (.inr ⟨o', w, q⟩)
        · obtain rfl := List.mem_singleton.1 w
          exact .inr q
  unfold absS
  rw [List.map_append, List.map_cons, List.map_nil, hid, hz]
  congr 1
  exact List.map_congr_left fun o' ho' => by rw [hs o' ho']
def delL (L : List (Int × List UInt8)) (id : Int) : List (Int × List UInt8) := L.filter fun p => !decide (p.1 = id)
theorem t_SDestroy (x : SAt h s F P most np next L) {id : Int} {K : Int → H → Prop} (no : alook L id = none → K 20 h) (good : ∀ bs, alook L id = some bs → ∀ h' P', SAt h' s F P' most np next (delL L id) → (∀ c, P' c → P c) → SChg F h h' → K 0 h') : m_store_Store_Destroy (some ⟨s, 0, none⟩) id K h := by
  obtain ⟨b, p, sp, st, pgs, tk, os, z, rfl, rfl, e3, e4⟩ := x.ex
  rw [look_abs] at no good
  refine t_SDestroy0 z (fun e => no (by rw [e]; rfl)) fun o e h' tk' z' ht bt d => good (obytes pgs o) (by rw [e]; rfl) h' (fun c => c = p ∨ ∃ o ∈ os.filter (fun q => !decide (q.id = id)), o.sl.foot c) ⟨b, p, sp, st, pgs, tk', _, z', ht, ?_, e3, fun _ => Iff.rfl⟩ (fun c q => (e4 c).2 (q.imp (fun z => z) fun ⟨o', ho', w⟩ => ⟨o', (List.mem_filter.1 ho').1, w⟩)) ⟨bt.mono fun c q => (e3 c).2 ?_, d⟩
  · unfold delL absS
    rw [List.filter_map]; rfl
  · rcases q with q | q
    · exact .inr (.inl q)
    · exact .inr (.inr (.inr q))
theorem t_SRead (x : SAt h s F P most np next L) {id off n : Int} {K : Sl × Int → H → Prop} (no : alook L id = none → ∀ h', Keeps h h' → K (Sl.nil, 20) h') (bad : ∀ bs, alook L id = some bs → ¬ inRg bs.length off n → ∀ h', Keeps h h' → K (Sl.nil, 5) h')
    (good : ∀ bs, alook L id = some bs → inRg bs.length off n → ∀ sl h', Buf cU8 1 N_u8 h' sl ((bs.drop off.toNat).take n.toNat) → Keeps h h' → (∀ c, sl.foot c → h c = none) → K (sl, 0) h') : m_store_Store_Read (some ⟨s, 0, none⟩) id off n K h := by
  obtain ⟨b, p, sp, st, pgs, tk, os, z, rfl, rfl, e3, e4⟩ := x.ex
  rw [look_abs] at no bad good
  refine t_SRead0 z (fun e => no (by rw [e]; rfl)) (fun o e r => bad (obytes pgs o) (by rw [e]; rfl) ?_) fun o e r => good (obytes pgs o) (by rw [e]; rfl) ?_
  · rw [ob_len (z.paged o (fd_mem e).1).1]; exact r
  · rw [ob_len (z.paged o (fd_mem e).1).1]; exact r
def wrL (L : List (Int × List UInt8)) (id : Int) (off : Nat) (d : List UInt8) : List (Int × List UInt8) := L.map fun p => if p.1 = id then (p.1, over p.2 off d) else p
theorem t_SWrite (x : SAt h s F P most np next L) {id off : Int} {sl : Sl} {d : List UInt8} (ar : Arr cU8 h sl d) (ft : d ≠ [] → ∀ c, sl.foot c → ¬ F c) {K : Int → H → Prop} (no : alook L id = none → ∀ h', Keeps h h' → K 20 h') (bad : ∀ bs, alook L id = some bs → ¬ inRg bs.length off d.length → ∀ h', Keeps h h' → K 5 h')
    (good : ∀ bs, alook L id = some bs → inRg bs.length off d.length → ∀ h', SAt h' s F P most np next (wrL L id off.toNat d) → SChg F h h' → K 0 h') : m_store_Store_Write (some ⟨s, 0, none⟩) id off sl K h := by
  obtain ⟨b, p, sp, st, pgs, tk, os, z, rfl, rfl, e3, e4⟩ := x.ex
  rw [look_abs] at no bad good
  refine t_SWrite0 z ar (fun ne c f q => ft ne c f ((e3 c).2 (.inr (.inr (.inl q))))) (fun e => no (by rw [e]; rfl)) (fun o e r => bad (obytes pgs o) (by rw [e]; rfl) ?_) fun o e r h' pgs' z' ho hs bt d => good (obytes pgs o) (by rw [e]; rfl) ?_ h' ⟨b, p, sp, st, pgs', tk, os, z', rfl, ?_, e3, e4⟩ ⟨bt.mono fun c q => (e3 c).2 (.inr (.inr (.inl q))), d⟩
  · rw [ob_len (z.paged o (fd_mem e).1).1]; exact r
  · rw [ob_len (z.paged o (fd_mem e).1).1]; exact r
  · unfold wrL absS
    rw [List.map_map]
    refine List.map_congr_left fun o' ho' => ?_
    show (if o'.id = id then (o'.id, over (obytes pgs o') off.toNat _) else (o'.id, obytes pgs o')) = (o'.id, obytes pgs' o')
    obtain ⟨h1, h2⟩ := fd_mem e
    by_cases q : o'.id = id
    · obtain rfl := one_ob z.rising ho' h1 (q.trans h2.symm)
      rw [if_pos q, ho]
    · rw [if_neg q, hs o' ho' q]
theorem t_SIds (x : SAt h s F P most np next L) {K : Sl → H → Prop} (y : ∀ sl h', Buf (cInt .i64) 1 N_int h' sl (L.map (·.1)) → Keeps h h' → (∀ c, sl.foot c → h c = none) → K sl h') : m_store_Store_Ids (some ⟨s, 0, none⟩) K h := by
  obtain ⟨b, p, sp, st, pgs, tk, os, z, rfl, rfl, e3, e4⟩ := x.ex
  refine t_SIds0 z fun sl h' bu => y sl h' ?_
  unfold absS; rw [List.map_map]; exact bu
end
section
variable {h : H}
theorem used_take {L : List (Int × List UInt8)} {q : Nat} (hq : q < L.length) : usedS (L.take (q + 1)) = usedS (L.take q) + (L[q].2.length + 63) / 64 := by
  unfold usedS
  rw [List.take_add_one, List.getElem?_eq_getElem hq, Option.toList_some, List.map_append, List.sum_append]
  simp
theorem used_le (L : List (Int × List UInt8)) (q : Nat) : usedS (L.take q) ≤ usedS L := by
  have : usedS L = usedS (L.take q) + usedS (L.drop q) := by
    unfold usedS
    rw [← List.sum_append, ← List.map_append, List.take_append_drop]
  omega
theorem wr_keys (L : List (Int × List UInt8)) (id : Int) (off : Nat) (d : List UInt8) : (wrL L id off d).map (·.1) = L.map (·.1) := by
  unfold wrL
  rw [List.map_map]
  refine List.map_congr_left fun p _ => ?_
  show (if p.1 = id then (p.1, over p.2 off d) else p).1 = p.1
  split <;> rfl
theorem wr_vals {id : Int} {off : Nat} {d v : List UInt8} : ∀ {L : List (Int × List UInt8)} {k : Nat}, (L.map (·.1)).Nodup → L[k]? = some (id, v) → wrL L id off d = L.set k (id, over v off d) := by
  intro L
  induction L with
  | nil => intro k _ h; simp at h
  | cons p r ih =>
    intro k nd h
    rw [List.map_cons, List.nodup_cons] at nd
    cases k with
    | zero =>
      have h : p = (id, v) := by simpa using h
      subst h
      unfold wrL
      rw [List.map_cons, if_pos rfl, List.set_cons_zero]
      congr 1
      conv => rhs; rw [← List.map_id r]
      refine List.map_congr_left fun q hq => ?_
      rw [if_neg fun z => nd.1 (List.mem_map.2 ⟨q, hq, z⟩)]; rfl
    | succ k =>
      have h : r[k]? = some (id, v) := by simpa using h
      have hne : p.1 ≠ id := fun z => nd.1 (List.mem_map.2 ⟨(id, v), List.mem_of_getElem? h, z.symm⟩)
      have := ih nd.2 h
      unfold wrL at this ⊢
      rw [List.map_cons, if_neg hne, this, List.set_cons_succ]
theorem nodup_of {l : List Int} (h : l.Pairwise (· < ·)) : l.Nodup := h.imp fun q => by omega
theorem over_one {l : List UInt8} {i : Nat} {x : UInt8} (h : i < l.length) : over l i [x] = l.set i x := by
  unfold over
  rw [List.set_eq_take_append_cons_drop, if_pos h]
  simp
theorem over_step {l d : List UInt8} {off q : Nat} (hq : q < d.length) (h : off + d.length ≤ l.length) : over l off (d.take (q + 1)) = (over l off (d.take q)).set (off + q) d[q] := by
  have e1 : (d.take q).length = q := by rw [List.length_take]; omega
  have := over_over (l := l) (d1 := d.take q) (d2 := [d[q]]) (off := off) (by rw [e1, List.length_singleton]; omega)
  rw [e1] at this
  rw [List.take_add_one, List.getElem?_eq_getElem hq, Option.toList_some, ← this, over_one]
  rw [over_len (by rw [e1]; omega)]; omega
end
end Go.Proofs.YtcclfjhnpeappaaGreat.K
namespace Go.Proofs.YtcclfjhnpeappaaGreat.K
open Go Go.Proofs
def m_ref07_New (a0 : Int) (a1 : Int) (K : (Option Addr × Int) → H → Prop) : H → Prop :=
 mIf ((((decide (a0 < 1)) || (decide (64 < a0))) || (decide (a1 < 1))) || (decide (256 < a1))) (
 K (none, 16)
 ) (
 mNew 165 #[(Value.int .i64 a0), (Value.int .i64 a1), (Sl.val Sl.nil), (Value.int .i64 1)] fun ad1 =>
 K ((some ad1), 0)
 )
def x_ref07_New : Cx Tryz.prog := ⟨tys, [], [], [], mixed⟩
def h_ref07_New : Hint := (.seq .d (.seq (.seq (.reg (.run [3, 7, 11] (.sel 8 11 3584 (.run [15, 19, 23] .nil) (.run [15, 19, 23] .nil) (.run [27] (.sel 12 15 57344 (.run [31, 35, 39] .nil) (.run [31, 35, 39] .nil) (.run [43] (.sel 16 19 917504 (.run [47, 51, 55] .nil) (.run [47, 51, 55] .nil) .nil))))))) .d) .d))
def s_ref07_New : Spec Tryz.prog := mkSpec x_ref07_New 77 Tryz.f77 [(tInt .i64), (tInt .i64)] [tPtr, (tInt .i64)] false h_ref07_New (fun a => m_ref07_New a.1 a.2) (fun a K h => by kernel_rfl) callee77 rfl
def m_ref07_Store_at (a0 : Option Addr) (a1 : Int) (K : (Int) → H → Prop) : H → Prop :=
 mLoop (fun (rec2 : Int → H → Prop) (s1 : Int) =>
 mDeref a0 fun ad3 =>
 mLoad cSl (ad3.add 2) fun x4 =>
 mIf (decide (s1 < (x4.len : Int))) (
 mDeref a0 fun ad5 =>
 mLoad cSl (ad5.add 2) fun x6 =>
 mIdx x6 s1 2 fun ad7 =>
 mLoad (cInt .i64) (ad7.add 0) fun x8 =>
 mIf (decide (x8 = a1)) (
 K s1
 ) (
 rec2 (iAdd .i64 s1 1)
 )
 ) (
 K (-1)
 )
 ) 0
def x_ref07_Store_at : Cx Tryz.prog := ⟨tys, [], [], [], mixed⟩
def h_ref07_Store_at : Hint := (.seq .d (.seq (.seq .d (.blk (.loop [.slot 5 (tInt .i64)] 67108848 [] .d))) .d))
def s_ref07_Store_at : Spec Tryz.prog := mkSpec x_ref07_Store_at 150 Tryz.f150 [tPtr, (tInt .i64)] [(tInt .i64)] false h_ref07_Store_at (fun a => m_ref07_Store_at a.1 a.2) (fun a K h => by kernel_rfl) callee150 rfl
def m_ref07_within (a0 : Int) (a1 : Int) (a2 : Int) (K : (Bool) → H → Prop) : H → Prop :=
 K (((((decide (0 ≤ a0)) && (decide (0 ≤ a1))) && (decide (a1 ≤ 1024))) && (decide (a0 ≤ a2))) && (decide (a1 ≤ (iSub .i64 a2 a0))))
def x_ref07_within : Cx Tryz.prog := ⟨tys, [], [], [], mixed⟩
def h_ref07_within : Hint := (.seq .d (.seq (.reg (.run [3, 7, 11] (.sel 9 12 7168 (.run [15, 19, 23] .nil) (.run [15, 19, 23] .nil) (.run [27] (.sel 13 16 114688 (.run [31, 35, 39] .nil) (.run [31, 35, 39] .nil) (.run [43] (.sel 17 21 3932160 (.run [47, 51, 55, 59] .nil) (.run [47, 51, 55, 59] .nil) (.run [63] (.sel 22 28 528482304 (.run [67, 71, 75, 79, 83, 87] .nil) (.run [67, 71, 75, 79, 83, 87] .nil) (.run [91] .nil)))))))))) .d))
def s_ref07_within : Spec Tryz.prog := mkSpec x_ref07_within 155 Tryz.f155 [(tInt .i64), (tInt .i64), (tInt .i64)] [tBool] true h_ref07_within (fun a => m_ref07_within a.1 a.2.1 a.2.2) (fun a K h => by kernel_rfl) callee155 rfl
def m_ref07_Store_Write (a0 : Option Addr) (a1 : Int) (a2 : Int) (a3 : Sl) (K : (Int) → H → Prop) : H → Prop :=
 m_ref07_Store_at a0 a1 fun r1 =>
 mIf (decide (r1 < 0)) (
 K 20
 ) (
 mDeref a0 fun ad2 =>
 mLoad cSl (ad2.add 2) fun x3 =>
 mIdx x3 r1 2 fun ad4 =>
 mLoad cSl (ad4.add 1) fun x5 =>
 mPure (m_ref07_within a2 (a3.len : Int) (x5.len : Int)) fun r6 =>
 mIf (!r6) (
 K 5
 ) (
 mLoop (fun (rec8 : Int → H → Prop) (s7 : Int) =>
 mIf (decide (s7 < (a3.len : Int))) (
 mDeref a0 fun ad9 =>
 mIdx a3 s7 1 fun ad10 =>
 mLoad cSl (ad9.add 2) fun x11 =>
 mIdx x11 r1 2 fun ad12 =>
 mLoad cSl (ad12.add 1) fun x13 =>
 mLoad (cInt .u8) ad10 fun x14 =>
 mIdx x13 (iAdd .i64 a2 s7) 1 fun ad15 =>
 mStore ad15 [(Value.int .u8 x14)] <|
 rec8 (iAdd .i64 s7 1)
 ) (
 K 0
 )
 ) 0
 )
 )
def x_ref07_Store_Write : Cx Tryz.prog := ⟨tys, [s_ref07_Store_at, s_ref07_within], [], [], mixed⟩
def h_ref07_Store_Write : Hint := (.seq .d (.seq .d (.seq .d (.seq .d (.seq (.seq .d (.blk (.loop [.slot 10 (tInt .i64)] 4503598553629696 [] (.seq .d (.seq (.blk (.reg (.run [0, 4, 8, 16, 32, 36, 40, 44, 48, 52, 14, 20, 24, 30, 58, 60, 67] .nil))) .d))))) .d)))))
def s_ref07_Store_Write : Spec Tryz.prog := mkSpec x_ref07_Store_Write 87 Tryz.f87 [tPtr, (tInt .i64), (tInt .i64), tSl] [(tInt .i64)] false h_ref07_Store_Write (fun a => m_ref07_Store_Write a.1 a.2.1 a.2.2.1 a.2.2.2) (fun a K h => by kernel_rfl) callee87 rfl
def m_ref07_Store_Free (a0 : Option Addr) (K : (Int) → H → Prop) : H → Prop :=
 mDeref a0 fun ad1 =>
 mLoad (cInt .i64) (ad1.add 1) fun x2 =>
 mLoop (fun (rec4 : (Int × Int) → H → Prop) (s3 : Int × Int) =>
 mDeref a0 fun ad5 =>
 mLoad cSl (ad5.add 2) fun x6 =>
 mIf (decide (s3.2 < (x6.len : Int))) (
 mDeref a0 fun ad7 =>
 mLoad cSl (ad7.add 2) fun x8 =>
 mIdx x8 s3.2 2 fun ad9 =>
 mLoad cSl (ad9.add 1) fun x10 =>
 rec4 ((iSub .i64 s3.1 (iQuo .i64 (iAdd .i64 (x10.len : Int) 63) 64)), (iAdd .i64 s3.2 1))
 ) (
 K s3.1
 )
 ) (x2, 0)
def x_ref07_Store_Free : Cx Tryz.prog := ⟨tys, [], [], [], mixed⟩
def h_ref07_Store_Free : Hint := (.seq .d (.seq .d (.seq (.seq .d (.blk (.loop [.slot 3 (tInt .i64), .slot 4 (tInt .i64)] 2147483160 [] .d))) .d)))
def s_ref07_Store_Free : Spec Tryz.prog := mkSpec x_ref07_Store_Free 101 Tryz.f101 [tPtr] [(tInt .i64)] false h_ref07_Store_Free (fun a => m_ref07_Store_Free a) (fun a K h => by kernel_rfl) callee101 rfl
def m_ref07_Store_May (a0 : Option Addr) (a1 : Int) (K : (Int) → H → Prop) : H → Prop :=
 mIf ((decide (a1 < 0)) || (decide (4096 < a1))) (
 K 6
 ) (
 mDeref a0 fun ad1 =>
 mDeref a0 fun ad2 =>
 mLoad cSl (ad1.add 2) fun x3 =>
 mLoad (cInt .i64) (ad2.add 0) fun x4 =>
 mJoin (fun (s7 : Bool) =>
 mIf s7 (
 K 7
 ) (
 m_ref07_Store_Free a0 fun r9 =>
 mIf (decide (r9 < (iQuo .i64 (iAdd .i64 a1 63) 64))) (
 K 8
 ) (
 K 0
 )
 )
 ) (fun j8 =>
 mIf (decide (x4 ≤ (x3.len : Int))) (
 j8 true
 ) (
 mDeref a0 fun ad10 =>
 mLoad (cInt .i64) (ad10.add 3) fun x11 =>
 j8 (decide (4611686018427387904 < x11))
 ))
 )
def x_ref07_Store_May : Cx Tryz.prog := ⟨tys, [s_ref07_Store_Free], [], [], mixed⟩
def h_ref07_Store_May : Hint := (.seq .d (.seq (.seq (.reg (.run [3, 7, 11] (.sel 7 10 1792 (.run [15, 19, 23] .nil) (.run [15, 19, 23] .nil) .nil))) .d) (.seq (.seq (.reg (.run [0, 4, 8, 20, 24, 28, 14, 16, 34, 36, 40] (.join [.slot 27 tBool] 264241152 [] (.split 21 (.run [44, 48, 52, 56, 60, 64] .nil) (.run [44, 48, 52, 58, 60, 64] .nil)) .nil))) .d) .d)))
def s_ref07_Store_May : Spec Tryz.prog := mkSpec x_ref07_Store_May 159 Tryz.f159 [tPtr, (tInt .i64)] [(tInt .i64)] false h_ref07_Store_May (fun a => m_ref07_Store_May a.1 a.2) (fun a K h => by kernel_rfl) callee159 rfl
def m_ref07_Store_Create (a0 : Option Addr) (a1 : Int) (K : (Int × Int) → H → Prop) : H → Prop :=
 m_ref07_Store_May a0 a1 fun r1 =>
 mIf (!decide (r1 = 0)) (
 K (0, r1)
 ) (
 mDeref a0 fun ad2 =>
 mDeref a0 fun ad3 =>
 mJoin (fun (s4 : Sl × Sl) =>
 mAppend 232 2 32 #[(Value.int .i64 0), (Sl.val Sl.nil)] s4.1 s4.2 fun s24 =>
 mDeref a0 fun ad25 =>
 mStore (ad25.add 2) [(Sl.val s24)] <|
 mDeref a0 fun ad26 =>
 mLoad (cInt .i64) (ad26.add 3) fun x27 =>
 mDeref a0 fun ad28 =>
 mStore (ad28.add 3) [(Value.int .i64 (iAdd .i64 x27 1))] <|
 mDeref a0 fun ad29 =>
 mLoad (cInt .i64) (ad29.add 3) fun x30 =>
 K ((iSub .i64 x30 1), 0)
 ) (fun j5 =>
 mBoth (
 mLoad cSl (ad2.add 2) fun x6 =>
 mBoth (
 mLoad (cInt .i64) (ad3.add 3) fun x7 =>
 mMake 5 1 #[(Value.int .u8 0)] a1 a1 fun s8 =>
 mNew 232 #[(Value.int .i64 x7), (Sl.val s8)] fun ad9 =>
 j5 (x6, (⟨some ad9, 1, 1⟩ : Sl))
 ) (
 mMake 5 1 #[(Value.int .u8 0)] a1 a1 fun s10 =>
 mLoad (cInt .i64) (ad3.add 3) fun x11 =>
 mNew 232 #[(Value.int .i64 x11), (Sl.val s10)] fun ad12 =>
 j5 (x6, (⟨some ad12, 1, 1⟩ : Sl))
 )
 ) (
 mBoth (
 mLoad (cInt .i64) (ad3.add 3) fun x13 =>
 mBoth (
 mLoad cSl (ad2.add 2) fun x14 =>
 mMake 5 1 #[(Value.int .u8 0)] a1 a1 fun s15 =>
 mNew 232 #[(Value.int .i64 x13), (Sl.val s15)] fun ad16 =>
 j5 (x14, (⟨some ad16, 1, 1⟩ : Sl))
 ) (
 mMake 5 1 #[(Value.int .u8 0)] a1 a1 fun s17 =>
 mLoad cSl (ad2.add 2) fun x18 =>
 mNew 232 #[(Value.int .i64 x13), (Sl.val s17)] fun ad19 =>
 j5 (x18, (⟨some ad19, 1, 1⟩ : Sl))
 )
 ) (
 mMake 5 1 #[(Value.int .u8 0)] a1 a1 fun s20 =>
 mLoad cSl (ad2.add 2) fun x21 =>
 mLoad (cInt .i64) (ad3.add 3) fun x22 =>
 mNew 232 #[(Value.int .i64 x22), (Sl.val s20)] fun ad23 =>
 j5 (x21, (⟨some ad23, 1, 1⟩ : Sl))
 )
 ))
 )
def x_ref07_Store_Create : Cx Tryz.prog := ⟨tys, [s_ref07_Store_May], [], [], mixed⟩
def h_ref07_Store_Create : Hint := (.seq .d (.seq .d (.seq .d (.seq (.reg (.run [0, 4, 8, 12, 20, 24, 28, 36] (.join [.slot 17 tSl, .slot 25 tSl] 60948480 [] (.alt 4 (.both 8 10 (.run [43, 44, 50] .nil) (.run [34, 44, 50] .nil)) (.both 8 10 (.both 4 10 (.run [43, 44, 50] .nil) (.run [44, 18, 50] .nil)) (.run [18, 34, 44, 50] .nil))) (.run [55, 56, 60, 67] .nil)))) .d))))
def s_ref07_Store_Create : Spec Tryz.prog := mkSpec x_ref07_Store_Create 89 Tryz.f89 [tPtr, (tInt .i64)] [(tInt .i64), (tInt .i64)] false h_ref07_Store_Create (fun a => m_ref07_Store_Create a.1 a.2) (fun a K h => by kernel_rfl) callee89 rfl
def m_ref07_Store_Ids (a0 : Option Addr) (K : (Sl) → H → Prop) : H → Prop :=
 mLoop (fun (rec2 : (Sl × Int) → H → Prop) (s1 : Sl × Int) =>
 mDeref a0 fun ad3 =>
 mLoad cSl (ad3.add 2) fun x4 =>
 mIf (decide (s1.2 < (x4.len : Int))) (
 mDeref a0 fun ad5 =>
 mLoad cSl (ad5.add 2) fun x6 =>
 mIdx x6 s1.2 2 fun ad7 =>
 mLoad (cInt .i64) (ad7.add 0) fun x8 =>
 mApp 3 1 8 #[(Value.int .i64 0)] 1 [(Value.int .i64 x8)] s1.1 fun s9 =>
 rec2 (s9, (iAdd .i64 s1.2 1))
 ) (
 K s1.1
 )
 ) (Sl.nil, 0)
def x_ref07_Store_Ids : Cx Tryz.prog := ⟨tys, [], [23], [], mixed⟩
def h_ref07_Store_Ids : Hint := (.seq .d (.seq .d (.seq (.seq .d (.blk (.loop [.slot 3 tSl, .slot 4 (tInt .i64)] 33554424 [] .d))) .d)))
def s_ref07_Store_Ids : Spec Tryz.prog := mkSpec x_ref07_Store_Ids 97 Tryz.f97 [tPtr] [tSl] false h_ref07_Store_Ids (fun a => m_ref07_Store_Ids a) (fun a K h => by kernel_rfl) callee97 rfl
def m_ref07_Store_Size (a0 : Option Addr) (a1 : Int) (K : (Int × Bool) → H → Prop) : H → Prop :=
 m_ref07_Store_at a0 a1 fun r1 =>
 mIf (decide (r1 < 0)) (
 K (0, false)
 ) (
 mDeref a0 fun ad2 =>
 mLoad cSl (ad2.add 2) fun x3 =>
 mIdx x3 r1 2 fun ad4 =>
 mLoad cSl (ad4.add 1) fun x5 =>
 K ((x5.len : Int), true)
 )
def x_ref07_Store_Size : Cx Tryz.prog := ⟨tys, [s_ref07_Store_at], [], [], mixed⟩
def h_ref07_Store_Size : Hint := .d
def s_ref07_Store_Size : Spec Tryz.prog := mkSpec x_ref07_Store_Size 103 Tryz.f103 [tPtr, (tInt .i64)] [(tInt .i64), tBool] false h_ref07_Store_Size (fun a => m_ref07_Store_Size a.1 a.2) (fun a K h => by kernel_rfl) callee103 rfl
def m_ref07_Store_Read (a0 : Option Addr) (a1 : Int) (a2 : Int) (a3 : Int) (K : (Sl × Int) → H → Prop) : H → Prop :=
 m_ref07_Store_at a0 a1 fun r1 =>
 mIf (decide (r1 < 0)) (
 K (Sl.nil, 20)
 ) (
 mDeref a0 fun ad2 =>
 mLoad cSl (ad2.add 2) fun x3 =>
 mIdx x3 r1 2 fun ad4 =>
 mLoad cSl (ad4.add 1) fun x5 =>
 mPure (m_ref07_within a2 a3 (x5.len : Int)) fun r6 =>
 mIf (!r6) (
 K (Sl.nil, 5)
 ) (
 mDeref a0 fun ad7 =>
 mLoad cSl (ad7.add 2) fun x8 =>
 mIdx x8 r1 2 fun ad9 =>
 mLoad cSl (ad9.add 1) fun x10 =>
 mCut x10 a2 (iAdd .i64 a2 a3) 1 fun s11 =>
 mAppend 5 1 1 #[(Value.int .u8 0)] Sl.nil s11 fun s12 =>
 K (s12, 0)
 )
 )
def x_ref07_Store_Read : Cx Tryz.prog := ⟨tys, [s_ref07_Store_at, s_ref07_within], [], [], mixed⟩
def h_ref07_Store_Read : Hint := .d
def s_ref07_Store_Read : Spec Tryz.prog := mkSpec x_ref07_Store_Read 104 Tryz.f104 [tPtr, (tInt .i64), (tInt .i64), (tInt .i64)] [tSl, (tInt .i64)] false h_ref07_Store_Read (fun a => m_ref07_Store_Read a.1 a.2.1 a.2.2.1 a.2.2.2) (fun a K h => by kernel_rfl) callee104 rfl
end Go.Proofs.YtcclfjhnpeappaaGreat.K
