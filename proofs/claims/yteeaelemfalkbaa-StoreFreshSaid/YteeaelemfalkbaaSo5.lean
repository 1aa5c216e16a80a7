/- slices.Sort of whole numbers, its parts: what each does to the row (the plain functions are the kit's own, Derived/Sort). slices.Sort of whole numbers: the heap, the pivot, reverseRange. slices.Sort of whole numbers: partial insertion, the partitions. slices.Sort of whole numbers: partitionOrdered. slices.Sort of whole numbers: how many bits a number has; breakPatterns; pdqsortOrdered; Sort. -/
import Derived.Test.YteeaelemfalkbaaL8
import Derived.Test.YteeaelemfalkbaaU1
import Derived.Test.YteeaelemfalkbaaFslices
import Derived.Test.YteeaelemfalkbaaFslicesx2
import Derived.Sort.AssemblyPlain
import Derived.Test.YteeaelemfalkbaaFbits
namespace Go.Proofs.Yteeaelemfalkbaa.K
open Go Go.Sort
/-- int is type 3 in every dump. -/
abbrev N_int : Nat := 3
abbrev BufI (h : H) (s : Sl) (d : Array Int) : Prop := Buf (cInt .i64) 1 N_int h s d.toList
/-- The row's own memory was written, no other. -/
structure Wrote (s : Sl) (h h' : H) : Prop where
  but : But s.foot h h'
  dom : ∀ c, h' c = none → h c = none
theorem Wrote.refl (s : Sl) (h : H) : Wrote s h h := ⟨.refl _ _, fun _ e => e⟩
theorem Wrote.trans {s : Sl} {a b c : H} (x : Wrote s a b) (y : Wrote s b c) : Wrote s a c := ⟨x.but.trans y.but fun _ f => .inl f, fun n e => x.dom n (y.dom n e)⟩
theorem ci_len : ∀ x : Int, (cInt .i64 x).length = 1 := fun _ => rfl
theorem ia (a b : Nat) (h : a + b < 2 ^ 62) : iAdd .i64 (a : Int) (b : Int) = ((a + b : Nat) : Int) := (iAdd_eq (a := (a : Int)) (b := (b : Int)) (by omega) (by omega)).trans (by omega)
theorem ia1 (a : Nat) (h : a < 2 ^ 61) : iAdd .i64 (a : Int) 1 = ((a + 1 : Nat) : Int) := ia a 1 (by omega)
theorem is_ (a b : Nat) (h : a < 2 ^ 62) (hb : b ≤ a) : iSub .i64 (a : Int) (b : Int) = ((a - b : Nat) : Int) := (iSub_eq (a := (a : Int)) (b := (b : Int)) (by omega) (by omega)).trans (by omega)
theorem is1 (a : Nat) (h : a < 2 ^ 62) (hb : 1 ≤ a) : iSub .i64 (a : Int) 1 = ((a - 1 : Nat) : Int) := is_ a 1 h hb
theorem im2 (a : Nat) (h : a < 2 ^ 60) : iMul .i64 2 (a : Int) = ((2 * a : Nat) : Int) := by
  have : iMul .i64 2 (a : Int) = 2 * (a : Int) := i64_eq (by omega) (by omega)
  rw [this]; omega
theorem iq (a k : Nat) (h : a < 2 ^ 62) : iQuo .i64 (a : Int) (k : Int) = ((a / k : Nat) : Int) := by
  have e : (a : Int).tdiv (k : Int) = ((a / k : Nat) : Int) := rfl
  have l : a / k ≤ a := Nat.div_le_self a k
  show IntKind.i64.wrap ((a : Int).tdiv (k : Int)) = _
  rw [e]
  generalize a / k = c at l
  exact i64_eq (by omega) (by omega)
section
variable {h : H} {s : Sl} {d : Array Int}
theorem get_bang {i : Nat} (hi : i < d.size) : d.toList[i]? = some d[i]! := by
  rw [Array.getElem?_toList, getElem!_pos d i hi, Array.getElem?_eq_getElem hi]
theorem rdA (x : BufI h s d) {i : Nat} (hi : i < d.size) {j : Int} (hj : j = i) {k : Int → H → Prop} (y : k d[i]! h) : mIdx s j 1 (fun a => mLoad (cInt .i64) a k) h :=
  w_get ci_len x.arr (get_bang hi) hj rfl y
theorem rdB (x : BufI h s d) {i i' : Nat} (hi : i < d.size) (hi' : i' < d.size) {j j' : Int} (hj : j = i) (hj' : j' = i') {k : Int → Int → H → Prop} (y : k d[i]! d[i']! h) :
    mIdx s j 1 (fun a => mIdx s j' 1 fun a' => mLoad (cInt .i64) a fun x => mLoad (cInt .i64) a' fun x' => k x x') h :=
  w_idx ci_len x.arr (get_bang hi) hj fun _ _ h1 => w_idx ci_len x.arr (get_bang hi') hj' fun _ _ h2 => w_load h1 (w_load h2 y)
/-- data[i], data[j] = data[j], data[i]. -/
theorem w_swp (x : BufI h s d) {i j : Nat} (hi : i < d.size) (hj : j < d.size) {I J : Int} (eI : I = i) (eJ : J = j) {k : H → Prop} (y : ∀ h', BufI h' s (swp d i j) → Wrote s h h' → k h') :
    mIdx s J 1 (fun a => mIdx s I 1 fun a' => mLoad (cInt .i64) a fun x => mLoad (cInt .i64) a' fun x' => mIdx s I 1 fun b => mStore b [Value.int .i64 x] <| mIdx s J 1 fun b' => mStore b' [Value.int .i64 x'] k) h := by
  refine rdB x hj hi eJ eI ?_
  refine w_put ci_len x (i := i) (by simpa using hi) eI d[j]! rfl fun h1 x1 b1 d1 => ?_
  refine w_put ci_len x1 (i := j) (by simpa using hj) eJ d[i]! rfl fun h2 x2 b2 d2 => y h2 ?_ ⟨b1.trans b2 fun _ f => .inl f, fun c e => d1 c (d2 c e)⟩
  show Buf (cInt .i64) 1 N_int h2 s (swp d i j).toList
  unfold swp
  rw [Array.toList_setIfInBounds, Array.toList_setIfInBounds]
  exact x2
theorem w_less {x y : Int} {k : Bool → H → Prop} (z : k (ltInt x y) h) : mPure (m_cmp_Less_int x y) k h := by
  refine w_pure (ltInt x y) (fun h' k' q => ?_) z
  unfold m_cmp_Less_int
  refine w_pure false (fun h'' k'' q' => ?_) (w_ifF rfl q)
  unfold m_cmp_isNaN_int
  rw [decide_eq_true rfl]; exact q'
/-! insertionSortOrdered -/
theorem insInner_stop {a j : Nat} {d : Array Int} (h : ¬ (a < j ∧ ltInt d[j]! d[j - 1]! = true)) : insInner ltInt a j d = d := by
  cases j with
  | zero => rfl
  | succ j =>
    unfold insInner
    rw [if_neg]
    intro q
    rw [Bool.and_eq_true, decide_eq_true_eq] at q
    exact h q
theorem insInner_go {a j : Nat} {d : Array Int} (h1 : a < j) (h2 : ltInt d[j]! d[j - 1]! = true) : insInner ltInt a j d = insInner ltInt a (j - 1) (swp d j (j - 1)) := by
  cases j with
  | zero => omega
  | succ j =>
    rw [insInner, if_pos]
    · rfl
    · rw [Bool.and_eq_true, decide_eq_true_eq]; exact ⟨h1, h2⟩
theorem t_insertion {a b : Nat} (x : BufI h s d) (hb : b ≤ d.size) (hn : d.size ≤ 2 ^ 40) {K : Unit → H → Prop} (y : ∀ h', BufI h' s (insertionSort ltInt d a b) → Wrote s h h' → K () h') (ha : a ≤ b) : m_slices_insertionSortOrdered_int s (a : Int) (b : Int) K h := by
  unfold m_slices_insertionSortOrdered_int
  rw [ia1 a (by omega)]
  refine w_loop (fun z => b - z.toNat) (fun z h' => ∃ (i : Nat) (e : Array Int), z = (i : Int) ∧ a + 1 ≤ i ∧ e.size = d.size ∧ BufI h' s e ∧ insOuter ltInt a b i e = insOuter ltInt a b (a + 1) d ∧ Wrote s h h') ?_ ⟨a + 1, d, rfl, Nat.le_refl _, rfl, x, rfl, .refl _ _⟩
  rintro rec _ h1 ⟨i, e, rfl, hi, he, x1, eq1, w1⟩ more
  refine w_if' (fun c => ?_) fun c => ?_
  · have c : i < b := by omega
    refine w_loop (fun z => z.toNat) (fun z h' => ∃ (j : Nat) (e' : Array Int), z = (j : Int) ∧ j ≤ i ∧ e'.size = d.size ∧ BufI h' s e' ∧ insInner ltInt a j e' = insInner ltInt a i e ∧ Wrote s h h') ?_ ⟨i, e, rfl, Nat.le_refl _, he, x1, rfl, w1⟩
    rintro rec2 _ h2 ⟨j, e', rfl, hj, he', x2, eq2, w2⟩ more2
    refine w_joinV (decide (a < j) && ltInt e'[j]! e'[j - 1]!) (fun k hk => w_if' (fun c2 => ?_) fun c2 => ?_) ?_
    · have c2 : a < j := by omega
      refine rdB x2 (i := j) (i' := j - 1) (by omega) (by omega) rfl (is1 j (by omega) (by omega)) (w_less ?_)
      rw [decide_eq_true c2, Bool.true_and] at hk
      exact hk
    · have c2 : ¬ a < j := by omega
      rw [decide_eq_false c2, Bool.false_and] at hk
      exact hk
    · refine w_if (fun c2 => ?_) fun c2 => ?_
      · rw [Bool.and_eq_true, decide_eq_true_eq] at c2
        rw [is1 j (by omega) (by omega)]
        refine w_swp x2 (i := j) (j := j - 1) (by omega) (by omega) rfl rfl fun h3 x3 w3 => ?_
        exact more2 _ _ ⟨j - 1, _, rfl, by omega, by rw [swp_size]; exact he', x3, by rw [← insInner_go c2.1 c2.2]; exact eq2, w2.trans w3⟩ (by omega)
      · have c2 : ¬ (a < j ∧ ltInt e'[j]! e'[j - 1]! = true) := by
          intro q
          rw [q.2, decide_eq_true q.1] at c2; cases c2
        rw [ia1 i (by omega)]
        rw [insInner_stop c2] at eq2
        refine more _ _ ⟨i + 1, e', rfl, by omega, he', x2, ?_, w2⟩ (by simp only [Int.toNat_natCast]; omega)
        rw [← eq1, eq2]
        conv => rhs; rw [insOuter, if_pos c]
  · have c : ¬ i < b := by omega
    refine y h1 ?_ w1
    have : insOuter ltInt a b i e = e := by rw [insOuter, if_neg c]
    unfold insertionSort
    rw [← eq1, this]; exact x1
/-! siftDownOrdered, heapSortOrdered -/
theorem t_sift {lo hi first : Nat} (x : BufI h s d) (hb : first + hi ≤ d.size) (hlo : lo ≤ d.size) (hn : d.size ≤ 2 ^ 40) {K : Unit → H → Prop} (y : ∀ h', BufI h' s (siftDown ltInt hi first lo d) → Wrote s h h' → K () h') : m_slices_siftDownOrdered_int s (lo : Int) (hi : Int) (first : Int) K h := by
  unfold m_slices_siftDownOrdered_int
  refine w_loop (fun z => hi - z.toNat) (fun z h' => ∃ (r : Nat) (e : Array Int), z = (r : Int) ∧ r ≤ d.size ∧ e.size = d.size ∧ BufI h' s e ∧ siftDown ltInt hi first r e = siftDown ltInt hi first lo d ∧ Wrote s h h') ?_ ⟨lo, d, rfl, hlo, rfl, x, rfl, .refl _ _⟩
  rintro rec _ h1 ⟨r, e, rfl, hr, he, x1, eq1, w1⟩ more
  rw [im2 r (by omega), ia1 (2 * r) (by omega), ia1 (2 * r + 1) (by omega)]
  rw [siftDown] at eq1
  refine w_if' (fun c => ?_) fun c => ?_
  · have c : 2 * r + 1 ≥ hi := by omega
    rw [dif_pos c] at eq1
    exact y h1 (by rw [← eq1]; exact x1) w1
  have c : ¬ 2 * r + 1 ≥ hi := by omega
  rw [dif_neg c] at eq1
  rw [ia first (2 * r + 1) (by omega), ia1 (first + (2 * r + 1)) (by omega)]
  -- which child
  have rest : ∀ ch : Nat, 2 * r + 1 ≤ ch → ch < hi → (if (!ltInt e[first + r]! e[first + ch]!) = true then e else siftDown ltInt hi first ch (swp e (first + r) (first + ch))) = siftDown ltInt hi first lo d →
      (mIdx s (iAdd .i64 (first : Int) (r : Int)) 1 fun ad5 => mIdx s (iAdd .i64 (first : Int) (ch : Int)) 1 fun ad6 => mLoad (cInt .i64) ad5 fun x7 => mLoad (cInt .i64) ad6 fun x8 => mPure (m_cmp_Less_int x7 x8) fun r9 =>
        mIf (!r9) (K ()) (mIdx s (iAdd .i64 (first : Int) (ch : Int)) 1 fun ad10 => mIdx s (iAdd .i64 (first : Int) (r : Int)) 1 fun ad11 => mLoad (cInt .i64) ad10 fun x12 => mLoad (cInt .i64) ad11 fun x13 =>
          mIdx s (iAdd .i64 (first : Int) (r : Int)) 1 fun ad14 => mStore ad14 [Value.int .i64 x12] <| mIdx s (iAdd .i64 (first : Int) (ch : Int)) 1 fun ad15 => mStore ad15 [Value.int .i64 x13] <| rec (ch : Int))) h1 := fun ch h1c h2c q => by
    have e1 := ia first r (by omega)
    have e2 := ia first ch (by omega)
    rw [e1, e2]
    refine rdB x1 (i := first + r) (i' := first + ch) (by omega) (by omega) rfl rfl (w_less ?_)
    refine w_if (fun c2 => ?_) fun c2 => ?_
    · rw [if_pos c2] at q
      exact y h1 (by rw [← q]; exact x1) w1
    · rw [if_neg (by rw [c2]; simp)] at q
      refine w_swp x1 (i := first + r) (j := first + ch) (by omega) (by omega) rfl rfl fun h3 x3 w3 => ?_
      exact more _ _ ⟨ch, _, rfl, by omega, by rw [swp_size]; exact he, x3, q, w1.trans w3⟩ (by simp only [Int.toNat_natCast]; omega)
  refine w_joinP (fun z h' => h1 = h' ∧ ∃ ch : Nat, z = (ch : Int) ∧ 2 * r + 1 ≤ ch ∧ ch < hi ∧ (if (!ltInt e[first + r]! e[first + ch]!) = true then e else siftDown ltInt hi first ch (swp e (first + r) (first + ch))) = siftDown ltInt hi first lo d) (fun j hj => ?_) ?_
  · refine w_joinV (decide (2 * r + 1 + 1 < hi) && ltInt e[first + (2 * r + 1)]! e[first + (2 * r + 1) + 1]!) (fun k hk => w_if' (fun c2 => ?_) fun c2 => ?_) ?_
    · have c2 : 2 * r + 1 + 1 < hi := by omega
      refine rdB x1 (i := first + (2 * r + 1)) (i' := first + (2 * r + 1) + 1) (by omega) (by omega) rfl rfl (w_less ?_)
      rw [decide_eq_true c2, Bool.true_and] at hk
      exact hk
    · have c2 : ¬ 2 * r + 1 + 1 < hi := by omega
      rw [decide_eq_false c2, Bool.false_and] at hk
      exact hk
    · refine w_if (fun c2 => ?_) fun c2 => ?_
      · rw [if_pos c2] at eq1
        rw [Bool.and_eq_true, decide_eq_true_eq] at c2
        rw [dif_pos (show 2 * r + 2 < hi from c2.1)] at eq1
        exact hj _ _ ⟨rfl, 2 * r + 2, rfl, by omega, c2.1, eq1⟩
      · rw [if_neg (by rw [c2]; simp)] at eq1
        exact hj _ _ ⟨rfl, 2 * r + 1, rfl, by omega, by omega, eq1⟩
  · rintro _ _ ⟨rfl, ch, rfl, h1c, h2c, q⟩
    exact rest ch h1c h2c q
end
end Go.Proofs.Yteeaelemfalkbaa.K
namespace Go.Proofs.Yteeaelemfalkbaa.K
open Go Go.Sort
section
variable {h : H} {s : Sl} {d : Array Int}
theorem sift_size (hi first : Nat) : ∀ (m r : Nat) (e : Array Int), hi - r ≤ m → (siftDown ltInt hi first r e).size = e.size := by
  intro m
  induction m with
  | zero => intro r e hm; rw [siftDown, dif_pos (by omega)]
  | succ m ih =>
    intro r e hm
    rw [siftDown]
    by_cases c : 2 * r + 1 ≥ hi
    · rw [dif_pos c]
    rw [dif_neg c]
    split
    · split
      · rfl
      · split
        · rw [ih _ _ (by omega), swp_size]
        · rfl
    · split
      · rfl
      · rw [ih _ _ (by omega), swp_size]
theorem t_heapSort {a b : Nat} (x : BufI h s d) (hab : a ≤ b) (hb : b ≤ d.size) (hn : d.size ≤ 2 ^ 40) {K : Unit → H → Prop} (y : ∀ h', BufI h' s (heapSort ltInt d a b) → Wrote s h h' → K () h') : m_slices_heapSortOrdered_int s (a : Int) (b : Int) K h := by
  unfold m_slices_heapSortOrdered_int
  rw [is_ b a (by omega) hab]
  have e0 : iQuo .i64 (iSub .i64 ((b - a : Nat) : Int) 1) 2 = (((b - a - 1) / 2 + 1 : Nat) : Int) - 1 := by
    rw [iSub_eq (by omega) (by omega)]
    rcases Nat.eq_zero_or_pos (b - a) with q | q
    · rw [q]; rfl
    · rw [show ((b - a : Nat) : Int) - 1 = ((b - a - 1 : Nat) : Int) from by omega]
      refine (iq (b - a - 1) 2 (by omega)).trans ?_
      omega
  rw [e0]
  refine w_loop (fun z => (z + 1).toNat) (fun z h' => ∃ (k : Nat) (e : Array Int), z = (k : Int) - 1 ∧ k ≤ b - a + 1 ∧ e.size = d.size ∧ BufI h' s e ∧ heapBuild ltInt (b - a) a k e = heapBuild ltInt (b - a) a ((b - a - 1) / 2 + 1) d ∧ Wrote s h h') ?_ ⟨_, d, rfl, by omega, rfl, x, rfl, .refl _ _⟩
  rintro rec _ h1 ⟨k, e, rfl, hk, he, x1, eq1, w1⟩ more
  refine w_if' (fun c => ?_) fun c => ?_
  · obtain ⟨k, rfl⟩ : ∃ q, k = q + 1 := ⟨k - 1, by omega⟩
    rw [show ((k + 1 : Nat) : Int) - 1 = (k : Int) from by omega]
    refine t_sift x1 (by omega) (by omega) (by omega) fun h2 x2 w2 => ?_
    refine more _ _ ⟨k, _, by rw [iSub_eq (by omega) (by omega)], by omega, ?_, x2, ?_, w1.trans w2⟩ ?_
    · rw [sift_size _ _ _ _ _ (Nat.le_refl _)]; exact he
    · rw [← eq1]; rfl
    · rw [iSub_eq (by omega) (by omega)]; omega
  have hk0 : k = 0 := by omega
  subst hk0
  rw [show heapBuild ltInt (b - a) a 0 e = e from rfl] at eq1
  clear more rec c hk
  rw [iSub_eq (by omega) (by omega)]
  refine w_loop (fun z => (z + 1).toNat) (fun z h' => ∃ (k : Nat) (e' : Array Int), z = (k : Int) - 1 ∧ k ≤ b - a ∧ e'.size = d.size ∧ BufI h' s e' ∧ heapPop ltInt a k e' = heapPop ltInt a (b - a) e ∧ Wrote s h h') ?_ ⟨_, e, rfl, Nat.le_refl _, he, x1, rfl, w1⟩
  rintro rec _ h2 ⟨k, e', rfl, hk, he', x2, eq2, w2⟩ more
  refine w_if' (fun c => ?_) fun c => ?_
  · obtain ⟨k, rfl⟩ : ∃ q, k = q + 1 := ⟨k - 1, by omega⟩
    rw [show ((k + 1 : Nat) : Int) - 1 = (k : Int) from by omega]
    have ek := ia a k (by omega)
    rw [ek]
    refine w_swp x2 (i := a) (j := a + k) (by omega) (by omega) rfl rfl fun h3 x3 w3 => ?_
    refine t_sift (lo := 0) x3 (by rw [swp_size]; omega) (Nat.zero_le _) (by rw [swp_size]; omega) fun h4 x4 w4 => ?_
    refine more _ _ ⟨k, _, by rw [iSub_eq (by omega) (by omega)], by omega, ?_, x4, ?_, (w2.trans w3).trans w4⟩ ?_
    · rw [sift_size _ _ _ _ _ (Nat.le_refl _), swp_size]; exact he'
    · rw [← eq2]; rfl
    · rw [iSub_eq (by omega) (by omega)]; omega
  · have hk0 : k = 0 := by omega
    subst hk0
    refine y h2 ?_ w2
    unfold heapSort
    rw [← eq1, ← eq2]; exact x2
theorem t_reverse {a b : Nat} (x : BufI h s d) (hab : a < b) (hb : b ≤ d.size) (hn : d.size ≤ 2 ^ 40) {K : Unit → H → Prop} (y : ∀ h', BufI h' s (reverseRange d a b) → Wrote s h h' → K () h') : m_slices_reverseRangeOrdered_int s (a : Int) (b : Int) K h := by
  unfold m_slices_reverseRangeOrdered_int
  rw [is1 b (by omega) (by omega)]
  refine w_loop (fun z => (z.2 - z.1).toNat) (fun z h' => ∃ (i j : Nat) (e : Array Int), z = ((i : Int), (j : Int)) ∧ i < d.size ∧ j < d.size ∧ e.size = d.size ∧ BufI h' s e ∧ reverseLoop i j e = reverseLoop a (b - 1) d ∧ Wrote s h h') ?_ ⟨a, b - 1, d, rfl, by omega, by omega, rfl, x, rfl, .refl _ _⟩
  rintro rec _ h1 ⟨i, j, e, rfl, hi, hj, he, x1, eq1, w1⟩ more
  rw [reverseLoop] at eq1
  refine w_if' (fun c => ?_) fun c => ?_
  · have c : i < j := by have c : (i : Int) < (j : Int) := c; omega
    rw [if_pos c] at eq1
    refine w_swp x1 (i := i) (j := j) (by omega) (by omega) rfl rfl fun h2 x2 w2 => ?_
    show rec (iAdd .i64 (i : Int) 1, iSub .i64 (j : Int) 1) h2
    rw [ia1 i (by omega), is1 j (by omega) (by omega)]
    exact more _ _ ⟨i + 1, j - 1, _, rfl, by omega, by omega, by rw [swp_size]; exact he, x2, eq1, w1.trans w2⟩ (by show ((j - 1 : Nat) - (i + 1 : Nat) : Int).toNat < ((j : Int) - (i : Int)).toNat; omega)
  · have c : ¬ i < j := by have c : ¬ (i : Int) < (j : Int) := c; omega
    rw [if_neg c] at eq1
    refine y h1 ?_ w1
    unfold reverseRange
    rw [← eq1]; exact x1
/-! choosePivotOrdered: the pivot lies in the range. -/
/-- A whole number of its own. -/
def Cell1 (c0 : Nat) (h : H) : Prop := ∃ v : Int, h c0 = some (.cells #[Value.int .i64 v] N_int (0, 0))
theorem t_order2 {i j c0 : Nat} (x : BufI h s d) (hi : i < d.size) (hj : j < d.size) (hc : Cell1 c0 h) (nf : ¬ s.foot c0) {K : Int × Int → H → Prop}
    (y : ∀ p q h', (p = i ∧ q = j ∨ p = j ∧ q = i) → BufI h' s d → Cell1 c0 h' → But (· = c0) h h' → (∀ c, h' c = none → h c = none) → K ((p : Nat), (q : Nat)) h') : m_slices_order2Ordered_int s (i : Int) (j : Int) (some ⟨c0, 0, none⟩) K h := by
  unfold m_slices_order2Ordered_int
  obtain ⟨v, hv⟩ := hc
  refine rdB x hj hi rfl rfl (w_less (w_if (fun _ => ?_) fun _ => y i j h (.inl ⟨rfl, rfl⟩) x ⟨v, hv⟩ (.refl _ _) fun _ e => e))
  refine w_deref (w_load (At.own (l1 := []) (l2 := cInt .i64 v) (l3 := []) hv rfl) (w_deref (w_store (l1 := []) (l2 := cInt .i64 v) (l3 := []) rfl hv rfl rfl ?_)))
  exact y j i _ (.inr ⟨rfl, rfl⟩) (x.but (But.upd (F := (· = c0)) rfl) fun a ha e => nf ⟨a, ha, e⟩) ⟨_, upd_same _ _ _⟩ (But.upd rfl) fun c e => (upd_none.1 e).2
theorem t_median {i j k c0 : Nat} (x : BufI h s d) (hi : i < d.size) (hj : j < d.size) (hk : k < d.size) (hc : Cell1 c0 h) (nf : ¬ s.foot c0) {K : Int → H → Prop}
    (y : ∀ p h', (p = i ∨ p = j ∨ p = k) → BufI h' s d → Cell1 c0 h' → But (· = c0) h h' → (∀ c, h' c = none → h c = none) → K (p : Nat) h') : m_slices_medianOrdered_int s (i : Int) (j : Int) (k : Int) (some ⟨c0, 0, none⟩) K h := by
  unfold m_slices_medianOrdered_int
  refine t_order2 x hi hj hc nf fun p1 q1 h1 e1 x1 c1 b1 d1 => ?_
  refine t_order2 (i := q1) (j := k) x1 (by rcases e1 with ⟨rfl, rfl⟩ | ⟨rfl, rfl⟩ <;> assumption) hk c1 nf fun p2 q2 h2 e2 x2 c2 b2 d2 => ?_
  have hp2 : p2 < d.size := by rcases e1 with ⟨rfl, rfl⟩ | ⟨rfl, rfl⟩ <;> rcases e2 with ⟨rfl, rfl⟩ | ⟨rfl, rfl⟩ <;> assumption
  refine t_order2 (i := p1) (j := p2) x2 (by rcases e1 with ⟨rfl, rfl⟩ | ⟨rfl, rfl⟩ <;> assumption) hp2 c2 nf fun p3 q3 h3 e3 x3 c3 b3 d3 => ?_
  refine y q3 h3 ?_ x3 c3 ((b1.trans b2 fun _ f => .inl f).trans b3 fun _ f => .inl f) fun c e => d1 c (d2 c (d3 c e))
  rcases e1 with ⟨rfl, rfl⟩ | ⟨rfl, rfl⟩ <;> rcases e2 with ⟨rfl, rfl⟩ | ⟨rfl, rfl⟩ <;> rcases e3 with ⟨rfl, rfl⟩ | ⟨rfl, rfl⟩ <;> simp
theorem t_medianA {i c0 : Nat} (x : BufI h s d) (h1 : 1 ≤ i) (hi : i + 1 < d.size) (hn : d.size ≤ 2 ^ 40) (hc : Cell1 c0 h) (nf : ¬ s.foot c0) {K : Int → H → Prop}
    (y : ∀ p h', (i ≤ p + 1 ∧ p ≤ i + 1) → BufI h' s d → Cell1 c0 h' → But (· = c0) h h' → (∀ c, h' c = none → h c = none) → K (p : Nat) h') : m_slices_medianAdjacentOrdered_int s (i : Int) (some ⟨c0, 0, none⟩) K h := by
  unfold m_slices_medianAdjacentOrdered_int
  rw [is1 i (by omega) h1, ia1 i (by omega)]
  exact t_median x (by omega) (by omega) hi hc nf fun p h' e => y p h' (by omega)
theorem w_newQ {t : TypeId} {c : Array Value} {k : Addr → H → Prop} (Q : Nat → H → Prop) (hq : ∀ b, h b = none → Q b (upd h b (.cells c t (0, 0)))) (x : ∀ b h0, h b = none → Q b h0 → k ⟨b, 0, none⟩ h0) : mNew t c k h := fun b hb => x b _ hb (hq b hb)
theorem t_choosePivot {a b : Nat} (x : BufI h s d) (hab : a < b) (hb : b ≤ d.size) (hn : d.size ≤ 2 ^ 40) {K : Int × Int → H → Prop}
    (y : ∀ (p : Nat) (t : Int) h', a ≤ p → p < b → BufI h' s d → Keeps h h' → K ((p : Int), t) h') : m_slices_choosePivotOrdered_int s (a : Int) (b : Int) K h := by
  unfold m_slices_choosePivotOrdered_int
  refine w_newQ (fun c0 h0 => Cell1 c0 h0 ∧ Keeps h h0) (fun c0 hc0 => ⟨⟨0, upd_same _ _ _⟩, .new hc0⟩) fun c0 h0 hc0 ⟨cl0, k0⟩ => ?_
  have nf : ¬ s.foot c0 := fun f => by
    obtain ⟨A, hA, e⟩ := f
    rcases x.at_ with ⟨q, _⟩ | ⟨B, z, fz, q, hB, _⟩
    · rw [q] at hA; cases hA
    · rw [q] at hA; cases hA; subst e; rw [hc0] at hB; cases hB
  have x0 : BufI h0 s d := x.keep k0
  have kk : ∀ h', But (· = c0) h0 h' → Keeps h h' := fun h' q => k0.but q fun n e => by subst e; exact hc0
  have e8 : iSub .i64 (b : Int) (a : Int) = ((b - a : Nat) : Int) := is_ b a (by omega) (by omega)
  have q4 : (b - a) / 4 ≤ b - a := Nat.div_le_self _ _
  have e4 : iQuo .i64 ((b - a : Nat) : Int) 4 = (((b - a) / 4 : Nat) : Int) := iq (b - a) 4 (by omega)
  generalize hq : (b - a) / 4 = q at q4 e4
  have m1 : iMul .i64 (q : Int) 1 = ((q : Nat) : Int) := (i64_eq (x := (q : Int) * 1) (by omega) (by omega)).trans (by omega)
  have m2 : iMul .i64 (q : Int) 2 = ((q * 2 : Nat) : Int) := (i64_eq (x := (q : Int) * 2) (by omega) (by omega)).trans (by omega)
  have m3 : iMul .i64 (q : Int) 3 = ((q * 3 : Nat) : Int) := (i64_eq (x := (q : Int) * 3) (by omega) (by omega)).trans (by omega)
  rw [e8, e4, m1, m2, m3, ia a q (by omega), ia a (q * 2) (by omega), ia a (q * 3) (by omega)]
  refine w_joinP (fun z h' => ∃ p : Nat, z = (p : Int) ∧ a ≤ p ∧ p < b ∧ BufI h' s d ∧ Cell1 c0 h' ∧ But (· = c0) h0 h') (fun j hj => ?_) ?_
  · refine w_if' (fun c => ?_) fun c => ?_
    · have c : 8 ≤ b - a := by omega
      refine w_joinP (fun z h' => ∃ p1 p2 p3 : Nat, z = ((p1 : Int), (p2 : Int), (p3 : Int)) ∧ (a ≤ p1 ∧ p1 < b) ∧ (a ≤ p2 ∧ p2 < b) ∧ (a ≤ p3 ∧ p3 < b) ∧ BufI h' s d ∧ Cell1 c0 h' ∧ But (· = c0) h0 h') (fun j2 hj2 => ?_) ?_
      · refine w_if' (fun c2 => ?_) fun c2 => ?_
        · have c2 : 50 ≤ b - a := by omega
          refine t_medianA x0 (i := a + q) (by omega) (by omega) hn cl0 nf fun p1 h1 r1 x1 cl1 b1 _ => ?_
          refine t_medianA x1 (i := a + q * 2) (by omega) (by omega) hn cl1 nf fun p2 h2 r2 x2 cl2 b2 _ => ?_
          refine t_medianA x2 (i := a + q * 3) (by omega) (by omega) hn cl2 nf fun p3 h3 r3 x3 cl3 b3 _ => ?_
          exact hj2 _ _ ⟨p1, p2, p3, rfl, by omega, by omega, by omega, x3, cl3, (b1.trans b2 fun _ f => .inl f).trans b3 fun _ f => .inl f⟩
        · exact hj2 _ _ ⟨a + q, a + q * 2, a + q * 3, rfl, by omega, by omega, by omega, x0, cl0, .refl _ _⟩
      · rintro _ h1 ⟨p1, p2, p3, rfl, r1, r2, r3, x1, cl1, b1⟩
        refine t_median x1 (i := p1) (j := p2) (k := p3) (by omega) (by omega) (by omega) cl1 nf fun p h2 e2 x2 cl2 b2 _ => ?_
        exact hj _ _ ⟨p, rfl, by omega, by omega, x2, cl2, b1.trans b2 fun _ f => .inl f⟩
    · have c : ¬ 8 ≤ b - a := by omega
      exact hj _ _ ⟨a + q * 2, rfl, by omega, by omega, x0, cl0, .refl _ _⟩
  · rintro _ h1 ⟨p, rfl, r1, r2, x1, ⟨v, hv⟩, b1⟩
    refine w_load (At.own (l1 := []) (l2 := cInt .i64 v) (l3 := []) hv rfl) ?_
    have fin : ∀ t : Int, K ((p : Int), t) h1 := fun t => y p t h1 r1 r2 x1 (kk h1 b1)
    exact w_if (fun _ => fin 1) fun _ => w_if (fun _ => fin 2) fun _ => fin 0
end
end Go.Proofs.Yteeaelemfalkbaa.K
namespace Go.Proofs.Yteeaelemfalkbaa.K
open Go Go.Sort
section
variable {h : H} {s : Sl} {d : Array Int}
theorem shiftDown_go {j : Nat} {d : Array Int} (h1 : 1 ≤ j) (h2 : ltInt d[j]! d[j - 1]! = true) : shiftDown ltInt j d = shiftDown ltInt (j - 1) (swp d j (j - 1)) := by
  cases j with
  | zero => omega
  | succ j =>
    rw [shiftDown, if_neg]
    · rfl
    · have h2 : ltInt d[j + 1]! d[j]! = true := h2
      rw [h2]; simp
theorem shiftDown_stop {j : Nat} {d : Array Int} (h2 : j = 0 ∨ ltInt d[j]! d[j - 1]! = false) : shiftDown ltInt j d = d := by
  cases j with
  | zero => rfl
  | succ j =>
    rw [shiftDown, if_pos]
    rcases h2 with q | q
    · omega
    · have q : ltInt d[j + 1]! d[j]! = false := q
      rw [q]; rfl
theorem shiftDown_size : ∀ (j : Nat) (d : Array Int), (shiftDown ltInt j d).size = d.size := by
  intro j
  induction j with
  | zero => intro d; rfl
  | succ j ih =>
    intro d
    rw [shiftDown]
    split
    · rfl
    · rw [ih, swp_size]
theorem t_partialIns {a b : Nat} (x : BufI h s d) (hab : a < b) (hb : b ≤ d.size) (hn : d.size ≤ 2 ^ 40) {K : Bool → H → Prop} (y : ∀ h', BufI h' s (partialInsertionSort ltInt d a b).1 → Wrote s h h' → K (partialInsertionSort ltInt d a b).2 h') : m_slices_partialInsertionSortOrdered_int s (a : Int) (b : Int) K h := by
  unfold m_slices_partialInsertionSortOrdered_int
  rw [ia1 a (by omega), is_ b a (by omega) (by omega)]
  unfold partialInsertionSort at y
  refine w_loop (fun z => 5 - z.2.toNat) (fun z h' => ∃ (i t : Nat) (e : Array Int), z = ((i : Int), ((5 - t : Nat) : Int)) ∧ t ≤ 5 ∧ a < i ∧ i ≤ b ∧ e.size = d.size ∧ BufI h' s e ∧ partialIns ltInt a b t i e = partialIns ltInt a b 5 (a + 1) d ∧ Wrote s h h') ?_ ⟨a + 1, 5, d, rfl, Nat.le_refl _, by omega, hab, rfl, x, rfl, .refl _ _⟩
  rintro rec _ h1 ⟨i, t, e, rfl, ht, hai, hib, he, x1, eq1, w1⟩ more
  refine w_if' (fun c => ?_) fun c => ?_
  · have c : ((5 - t : Nat) : Int) < 5 := c
    obtain ⟨t, rfl⟩ : ∃ q, t = q + 1 := ⟨t - 1, by omega⟩
    rw [partialIns_succ] at eq1
    refine w_loop (fun z => b - z.toNat) (fun z h' => h1 = h' ∧ ∃ i' : Nat, z = (i' : Int) ∧ a < i' ∧ i' ≤ b ∧ scanSorted ltInt e b i' = scanSorted ltInt e b i) ?_ ⟨rfl, i, rfl, hai, hib, rfl⟩
    rintro rec2 _ _ ⟨rfl, k, rfl, hak, hkb, eqs⟩ more2
    refine w_joinV (decide (k < b) && !ltInt e[k]! e[k - 1]!) (fun j hj => w_if' (fun c2 => ?_) fun c2 => ?_) ?_
    · have c2 : k < b := by omega
      refine rdB x1 (i := k) (i' := k - 1) (by omega) (by omega) rfl (is1 k (by omega) (by omega)) (w_less ?_)
      rw [decide_eq_true c2, Bool.true_and] at hj
      exact hj
    · have c2 : ¬ k < b := by omega
      rw [decide_eq_false c2, Bool.false_and] at hj
      exact hj
    · rw [scanSorted] at eqs
      refine w_if (fun c2 => ?_) fun c2 => ?_
      · rw [if_pos c2] at eqs
        rw [Bool.and_eq_true, decide_eq_true_eq] at c2
        rw [ia1 k (by omega)]
        exact more2 _ _ ⟨rfl, k + 1, rfl, by omega, by omega, eqs⟩ (by simp only [Int.toNat_natCast]; omega)
      · rw [if_neg (by rw [c2]; simp)] at eqs
        rw [← eqs] at eq1
        clear more2 rec2 c2 eqs
        refine w_if' (fun c3 => ?_) fun c3 => ?_
        · have c3 : k = b := by omega
          rw [if_pos c3] at eq1
          rw [← eq1] at y
          exact y h1 x1 w1
        have c3 : ¬ k = b := by omega
        rw [if_neg c3] at eq1
        refine w_if' (fun c4 => ?_) fun c4 => ?_
        · have c4 : b - a < 50 := by omega
          rw [if_pos c4] at eq1
          rw [← eq1] at y
          exact y h1 x1 w1
        have c4 : ¬ b - a < 50 := by omega
        rw [if_neg c4] at eq1
        rw [is1 k (by omega) (by omega)]
        refine w_swp x1 (i := k) (j := k - 1) (by omega) (by omega) rfl rfl fun h2 x2 w2 => ?_
        have he2 : (swp e k (k - 1)).size = d.size := by rw [swp_size]; exact he
        have w12 := w1.trans w2
        generalize swp e k (k - 1) = e2 at eq1 x2 he2
        clear x1 w1 w2
        rw [is_ b k (by omega) hkb, is_ k a (by omega) (by omega), ia1 k (by omega)]
        have fin : ∀ (e3 : Array Int) (h3 : H), e3.size = d.size → BufI h3 s e3 → Wrote s h h3 → partialIns ltInt a b t k e3 = partialIns ltInt a b 5 (a + 1) d → rec ((k : Int), iAdd .i64 ((5 - (t + 1) : Nat) : Int) 1) h3 := fun e3 h3 z1 z2 z3 z4 => by
          have e5 : iAdd .i64 ((5 - (t + 1) : Nat) : Int) 1 = ((5 - t : Nat) : Int) := by rw [iAdd_eq (by omega) (by omega)]; omega
          rw [e5]
          exact more _ _ ⟨k, t, e3, rfl, by omega, hak, hkb, z1, z2, z4, z3⟩ (by show 5 - ((5 - t : Nat) : Int).toNat < 5 - ((5 - (t + 1) : Nat) : Int).toNat; omega)
        refine w_joinP (fun _ h' => ∃ e3 : Array Int, e3.size = d.size ∧ BufI h' s e3 ∧ fixDown ltInt a k e2 = e3 ∧ Wrote s h h') (fun j hj => ?_) ?_
        · unfold fixDown at hj
          refine w_if' (fun c5 => ?_) fun c5 => ?_
          · have c5 : k - a ≥ 2 := by omega
            simp only [if_pos c5] at hj
            refine w_loop (fun z => z.toNat) (fun z h' => ∃ (q : Nat) (e3 : Array Int), z = (q : Int) ∧ q < d.size ∧ e3.size = d.size ∧ BufI h' s e3 ∧ shiftDown ltInt q e3 = shiftDown ltInt (k - 1) e2 ∧ Wrote s h h') ?_ ⟨k - 1, e2, rfl, by omega, he2, x2, rfl, w12⟩
            rintro rec3 _ h3 ⟨q, e3, rfl, hq, he3, x3, eq3, w3⟩ more3
            refine w_if' (fun c6 => ?_) fun c6 => ?_
            · have c6 : 1 ≤ q := by omega
              rw [is1 q (by omega) (by omega)]
              refine rdB x3 (i := q) (i' := q - 1) (by omega) (by omega) rfl rfl (w_less (w_if (fun c7 => ?_) fun c7 => ?_))
              · rw [Bool.not_eq_true'] at c7
                rw [shiftDown_stop (.inr c7)] at eq3
                exact hj () h3 ⟨e3, he3, x3, eq3.symm, w3⟩
              · rw [Bool.not_eq_false'] at c7
                rw [shiftDown_go c6 c7] at eq3
                refine w_swp x3 (i := q) (j := q - 1) (by omega) (by omega) rfl rfl fun h4 x4 w4 => ?_
                exact more3 _ _ ⟨q - 1, _, rfl, by omega, by rw [swp_size]; exact he3, x4, eq3, w3.trans w4⟩ (by omega)
            · have c6 : q = 0 := by omega
              rw [shiftDown_stop (.inl c6)] at eq3
              exact hj () h3 ⟨e3, he3, x3, eq3.symm, w3⟩
          · have c5 : ¬ k - a ≥ 2 := by omega
            simp only [if_neg c5] at hj
            exact hj () h2 ⟨e2, he2, x2, rfl, w12⟩
        · rintro _ h3 ⟨e3, he3, x3, eq3, w3⟩
          rw [eq3] at eq1
          unfold fixUp at eq1
          refine w_if' (fun c5 => ?_) fun c5 => ?_
          · have c5 : b - k ≥ 2 := by omega
            rw [if_pos c5] at eq1
            refine w_loop (fun z => b - z.toNat) (fun z h' => ∃ (q : Nat) (e4 : Array Int), z = (q : Int) ∧ k < q ∧ q ≤ b ∧ e4.size = d.size ∧ BufI h' s e4 ∧ shiftUp ltInt b q e4 = shiftUp ltInt b (k + 1) e3 ∧ Wrote s h h') ?_ ⟨k + 1, e3, rfl, by omega, by omega, he3, x3, rfl, w3⟩
            rintro rec3 _ h4 ⟨q, e4, rfl, hkq, hq, he4, x4, eq4, w4⟩ more3
            rw [shiftUp] at eq4
            refine w_if' (fun c6 => ?_) fun c6 => ?_
            · have c6 : q < b := by omega
              rw [if_pos c6] at eq4
              rw [is1 q (by omega) (by omega)]
              refine rdB x4 (i := q) (i' := q - 1) (by omega) (by omega) rfl rfl (w_less (w_if (fun c7 => ?_) fun c7 => ?_))
              · rw [if_pos c7] at eq4
                exact fin e4 h4 he4 x4 w4 (by rw [eq4]; exact eq1)
              · rw [if_neg (by rw [c7]; simp)] at eq4
                refine w_swp x4 (i := q) (j := q - 1) (by omega) (by omega) rfl rfl fun h5 x5 w5 => ?_
                rw [ia1 q (by omega)]
                exact more3 _ _ ⟨q + 1, _, rfl, by omega, by omega, by rw [swp_size]; exact he4, x5, eq4, w4.trans w5⟩ (by simp only [Int.toNat_natCast]; omega)
            · have c6 : ¬ q < b := by omega
              rw [if_neg c6] at eq4
              exact fin e4 h4 he4 x4 w4 (by rw [eq4]; exact eq1)
          · have c5 : ¬ b - k ≥ 2 := by omega
            rw [if_neg c5] at eq1
            exact fin e3 h3 he3 x3 w3 eq1
  · have c : ¬ ((5 - t : Nat) : Int) < 5 := c
    have ht0 : t = 0 := by omega
    subst ht0
    rw [show partialIns ltInt a b 0 i e = (e, false) from rfl] at eq1
    rw [← eq1] at y
    exact y h1 x1 w1
/-! the scans -/
theorem scanUp_ge (p : Int → Bool) (d : Array Int) (j : Nat) : ∀ (m i : Nat), j + 1 - i ≤ m → i ≤ scanUp p d j i ∧ scanUp p d j i ≤ max i (j + 1) := by
  intro m
  induction m with
  | zero =>
    intro i hm
    rw [scanUp, if_neg (fun q => by rw [Bool.and_eq_true, decide_eq_true_eq] at q; omega)]
    omega
  | succ m ih =>
    intro i hm
    rw [scanUp]
    split
    · rename_i q
      rw [Bool.and_eq_true, decide_eq_true_eq] at q
      have := ih (i + 1) (by omega)
      omega
    · omega
theorem scanDown_le (p : Int → Bool) (d : Array Int) (i : Nat) : ∀ j, scanDown p d i j ≤ j ∧ min j (i - 1) ≤ scanDown p d i j := by
  intro j
  induction j with
  | zero => simp [scanDown]
  | succ j ih =>
    rw [scanDown]
    split
    · rename_i q
      rw [Bool.and_eq_true, decide_eq_true_eq] at q
      omega
    · omega
theorem scanDown_go {p : Int → Bool} {d : Array Int} {i j : Nat} (h0 : 1 ≤ i) (h : i ≤ j) (hp : p d[j]! = true) : scanDown p d i j = scanDown p d i (j - 1) := by
  cases j with
  | zero => omega
  | succ j =>
    rw [scanDown, if_pos]
    · rfl
    · rw [Bool.and_eq_true, decide_eq_true_eq]; exact ⟨h, hp⟩
theorem scanDown_stop {p : Int → Bool} {d : Array Int} {i j : Nat} (h : ¬ (i ≤ j ∧ p d[j]! = true)) : scanDown p d i j = j := by
  cases j with
  | zero => rfl
  | succ j =>
    rw [scanDown, if_neg]
    intro q
    rw [Bool.and_eq_true, decide_eq_true_eq] at q
    exact h q
theorem t_partEq {a b p : Nat} (x : BufI h s d) (hap : a ≤ p) (hpb : p < b) (hb : b ≤ d.size) (hn : d.size ≤ 2 ^ 40) {K : Int → H → Prop} (y : ∀ h', BufI h' s (partitionEqual ltInt d a b p).2 → Wrote s h h' → K (((partitionEqual ltInt d a b p).1 : Nat) : Int) h') : m_slices_partitionEqualOrdered_int s (a : Int) (b : Int) (p : Int) K h := by
  unfold m_slices_partitionEqualOrdered_int
  unfold partitionEqual at y
  refine w_swp x (i := a) (j := p) (by omega) (by omega) rfl rfl fun h0 x0 w0 => ?_
  have hs0 : (swp d a p).size = d.size := swp_size _ _ _
  generalize swp d a p = d0 at x0 y hs0
  rw [ia1 a (by omega), is1 b (by omega) (by omega)]
  refine w_loop (fun z => (z.2 + 1 - z.1).toNat) (fun z h' => ∃ (i j : Nat) (e : Array Int), z = ((i : Int), (j : Int)) ∧ a < i ∧ i ≤ j + 2 ∧ j < b ∧ e.size = d.size ∧ BufI h' s e ∧ partEqLoop ltInt a i j e = partEqLoop ltInt a (a + 1) (b - 1) d0 ∧ Wrote s h h') ?_ ⟨a + 1, b - 1, d0, rfl, by omega, by omega, by omega, hs0, x0, rfl, w0⟩
  rintro rec _ h1 ⟨i, j, e, rfl, hi, hij, hj, he, x1, eq1, w1⟩ more
  refine w_loop (fun z => j + 1 - z.toNat) (fun z h' => h1 = h' ∧ ∃ i' : Nat, z = (i' : Int) ∧ i ≤ i' ∧ i' ≤ max i (j + 1) ∧ scanUp (fun x => !ltInt e[a]! x) e j i' = scanUp (fun x => !ltInt e[a]! x) e j i) ?_ ⟨rfl, i, rfl, Nat.le_refl _, Nat.le_max_left _ _, rfl⟩
  rintro rec2 _ _ ⟨rfl, k, rfl, hik, hkj, eqs⟩ more2
  refine w_joinV (decide (k ≤ j) && !ltInt e[a]! e[k]!) (fun c hc => w_if' (fun c2 => ?_) fun c2 => ?_) ?_
  · have c2 : (k : Int) ≤ (j : Int) := c2
    have c2 : k ≤ j := by omega
    refine rdB x1 (i := a) (i' := k) (by omega) (by omega) rfl rfl (w_less ?_)
    rw [decide_eq_true c2, Bool.true_and] at hc
    exact hc
  · have c2 : ¬ (k : Int) ≤ (j : Int) := c2
    have c2 : ¬ k ≤ j := by omega
    rw [decide_eq_false c2, Bool.false_and] at hc
    exact hc
  rw [scanUp] at eqs
  refine w_if (fun c2 => ?_) fun c2 => ?_
  · rw [if_pos c2] at eqs
    rw [Bool.and_eq_true, decide_eq_true_eq] at c2
    rw [ia1 k (by omega)]
    exact more2 _ _ ⟨rfl, k + 1, rfl, by omega, by omega, eqs⟩ (by simp only [Int.toNat_natCast]; omega)
  rw [if_neg (by rw [c2]; simp)] at eqs
  clear more2 rec2 c2
  rw [partEqLoop, ← eqs] at eq1
  refine w_loop (fun z => z.toNat) (fun z h' => h1 = h' ∧ ∃ j' : Nat, z = (j' : Int) ∧ j' ≤ j ∧ min j (k - 1) ≤ j' ∧ scanDown (fun x => ltInt e[a]! x) e k j' = scanDown (fun x => ltInt e[a]! x) e k j) ?_ ⟨rfl, j, rfl, Nat.le_refl _, Nat.min_le_left _ _, rfl⟩
  rintro rec3 _ _ ⟨rfl, l, rfl, hlj, hlk, eqd⟩ more3
  refine w_joinV (decide (k ≤ l) && ltInt e[a]! e[l]!) (fun c hc => w_if' (fun c2 => ?_) fun c2 => ?_) ?_
  · have c2 : k ≤ l := by omega
    refine rdB x1 (i := a) (i' := l) (by omega) (by omega) rfl rfl (w_less ?_)
    rw [decide_eq_true c2, Bool.true_and] at hc
    exact hc
  · have c2 : ¬ k ≤ l := by omega
    rw [decide_eq_false c2, Bool.false_and] at hc
    exact hc
  refine w_if (fun c2 => ?_) fun c2 => ?_
  · rw [Bool.and_eq_true, decide_eq_true_eq] at c2
    rw [scanDown_go (by omega) c2.1 c2.2] at eqd
    rw [is1 l (by omega) (by omega)]
    exact more3 _ _ ⟨rfl, l - 1, rfl, by omega, by omega, eqd⟩ (by omega)
  have c2 : ¬ (k ≤ l ∧ ltInt e[a]! e[l]! = true) := fun q => by rw [q.2, decide_eq_true q.1] at c2; cases c2
  rw [scanDown_stop c2] at eqd
  rw [← eqd] at eq1
  clear more3 rec3
  refine w_if' (fun c3 => ?_) fun c3 => ?_
  · have c3 : k > l := by omega
    rw [if_pos c3] at eq1
    rw [← eq1] at y
    exact y h1 x1 w1
  have c3 : ¬ k > l := by omega
  rw [if_neg c3, dif_pos (by omega)] at eq1
  refine w_swp x1 (i := k) (j := l) (by omega) (by omega) rfl rfl fun h2 x2 w2 => ?_
  rw [ia1 k (by omega), is1 l (by omega) (by omega)]
  exact more _ _ ⟨k + 1, l - 1, _, rfl, by omega, by omega, by omega, by rw [swp_size]; exact he, x2, eq1, w1.trans w2⟩ (by show (((l - 1 : Nat) : Int) + 1 - ((k + 1 : Nat) : Int)).toNat < ((j : Int) + 1 - (i : Int)).toNat; omega)
end
end Go.Proofs.Yteeaelemfalkbaa.K
namespace Go.Proofs.Yteeaelemfalkbaa.K
open Go Go.Sort
section
variable {h : H} {s : Sl} {d : Array Int}
theorem t_partition {a b p : Nat} (x : BufI h s d) (hap : a ≤ p) (hpb : p < b) (hb : b ≤ d.size) (hn : d.size ≤ 2 ^ 40) {K : Int × Bool → H → Prop}
    (y : ∀ h', BufI h' s (partition ltInt d a b p).2.2 → Wrote s h h' → K ((((partition ltInt d a b p).1 : Nat) : Int), (partition ltInt d a b p).2.1) h') : m_slices_partitionOrdered_int s (a : Int) (b : Int) (p : Int) K h := by
  unfold m_slices_partitionOrdered_int
  refine w_swp x (i := a) (j := p) (by omega) (by omega) rfl rfl fun h0 x0 w0 => ?_
  have hs0 : (swp d a p).size = d.size := swp_size _ _ _
  have hP : partition ltInt d a b p = (if scanUp (fun x => ltInt x (swp d a p)[a]!) (swp d a p) (b - 1) (a + 1) > scanDown (fun x => !ltInt x (swp d a p)[a]!) (swp d a p) (scanUp (fun x => ltInt x (swp d a p)[a]!) (swp d a p) (b - 1) (a + 1)) (b - 1) then
      (scanDown (fun x => !ltInt x (swp d a p)[a]!) (swp d a p) (scanUp (fun x => ltInt x (swp d a p)[a]!) (swp d a p) (b - 1) (a + 1)) (b - 1), true, swp (swp d a p) (scanDown (fun x => !ltInt x (swp d a p)[a]!) (swp d a p) (scanUp (fun x => ltInt x (swp d a p)[a]!) (swp d a p) (b - 1) (a + 1)) (b - 1)) a) else
      ((partLoop ltInt a (scanUp (fun x => ltInt x (swp d a p)[a]!) (swp d a p) (b - 1) (a + 1) + 1) (scanDown (fun x => !ltInt x (swp d a p)[a]!) (swp d a p) (scanUp (fun x => ltInt x (swp d a p)[a]!) (swp d a p) (b - 1) (a + 1)) (b - 1) - 1) (swp (swp d a p) (scanUp (fun x => ltInt x (swp d a p)[a]!) (swp d a p) (b - 1) (a + 1)) (scanDown (fun x => !ltInt x (swp d a p)[a]!) (swp d a p) (scanUp (fun x => ltInt x (swp d a p)[a]!) (swp d a p) (b - 1) (a + 1)) (b - 1)))).1, false,
        swp (partLoop ltInt a (scanUp (fun x => ltInt x (swp d a p)[a]!) (swp d a p) (b - 1) (a + 1) + 1) (scanDown (fun x => !ltInt x (swp d a p)[a]!) (swp d a p) (scanUp (fun x => ltInt x (swp d a p)[a]!) (swp d a p) (b - 1) (a + 1)) (b - 1) - 1) (swp (swp d a p) (scanUp (fun x => ltInt x (swp d a p)[a]!) (swp d a p) (b - 1) (a + 1)) (scanDown (fun x => !ltInt x (swp d a p)[a]!) (swp d a p) (scanUp (fun x => ltInt x (swp d a p)[a]!) (swp d a p) (b - 1) (a + 1)) (b - 1)))).2
          (partLoop ltInt a (scanUp (fun x => ltInt x (swp d a p)[a]!) (swp d a p) (b - 1) (a + 1) + 1) (scanDown (fun x => !ltInt x (swp d a p)[a]!) (swp d a p) (scanUp (fun x => ltInt x (swp d a p)[a]!) (swp d a p) (b - 1) (a + 1)) (b - 1) - 1) (swp (swp d a p) (scanUp (fun x => ltInt x (swp d a p)[a]!) (swp d a p) (b - 1) (a + 1)) (scanDown (fun x => !ltInt x (swp d a p)[a]!) (swp d a p) (scanUp (fun x => ltInt x (swp d a p)[a]!) (swp d a p) (b - 1) (a + 1)) (b - 1)))).1 a)) := rfl
  rw [hP] at y
  clear hP
  generalize swp d a p = d0 at x0 y hs0
  rw [ia1 a (by omega), is1 b (by omega) (by omega)]
  refine w_loop (fun z => b - z.toNat) (fun z h' => h0 = h' ∧ ∃ i : Nat, z = (i : Int) ∧ a + 1 ≤ i ∧ i ≤ b ∧ scanUp (fun x => ltInt x d0[a]!) d0 (b - 1) i = scanUp (fun x => ltInt x d0[a]!) d0 (b - 1) (a + 1)) ?_ ⟨rfl, a + 1, rfl, Nat.le_refl _, by omega, rfl⟩
  rintro rec _ _ ⟨rfl, k, rfl, hak, hkb, eqs⟩ more
  refine w_joinV (decide (k ≤ b - 1) && ltInt d0[k]! d0[a]!) (fun c hc => w_if' (fun c2 => ?_) fun c2 => ?_) ?_
  · have c2 : k ≤ b - 1 := by omega
    refine rdB x0 (i := k) (i' := a) (by omega) (by omega) rfl rfl (w_less ?_)
    rw [decide_eq_true c2, Bool.true_and] at hc
    exact hc
  · have c2 : ¬ k ≤ b - 1 := by omega
    rw [decide_eq_false c2, Bool.false_and] at hc
    exact hc
  rw [scanUp] at eqs
  refine w_if (fun c2 => ?_) fun c2 => ?_
  · rw [if_pos c2] at eqs
    rw [Bool.and_eq_true, decide_eq_true_eq] at c2
    rw [ia1 k (by omega)]
    exact more _ _ ⟨rfl, k + 1, rfl, by omega, by omega, eqs⟩ (by simp only [Int.toNat_natCast]; omega)
  rw [if_neg (by rw [c2]; simp)] at eqs
  rw [← eqs] at y
  clear more rec c2 eqs
  refine w_loop (fun z => z.toNat) (fun z h' => h0 = h' ∧ ∃ j : Nat, z = (j : Int) ∧ j ≤ b - 1 ∧ min (b - 1) (k - 1) ≤ j ∧ scanDown (fun x => !ltInt x d0[a]!) d0 k j = scanDown (fun x => !ltInt x d0[a]!) d0 k (b - 1)) ?_ ⟨rfl, b - 1, rfl, Nat.le_refl _, Nat.min_le_left _ _, rfl⟩
  rintro rec _ _ ⟨rfl, l, rfl, hlb, hlk, eqd⟩ more
  refine w_joinV (decide (k ≤ l) && !ltInt d0[l]! d0[a]!) (fun c hc => w_if' (fun c2 => ?_) fun c2 => ?_) ?_
  · have c2 : k ≤ l := by omega
    refine rdB x0 (i := l) (i' := a) (by omega) (by omega) rfl rfl (w_less ?_)
    rw [decide_eq_true c2, Bool.true_and] at hc
    exact hc
  · have c2 : ¬ k ≤ l := by omega
    rw [decide_eq_false c2, Bool.false_and] at hc
    exact hc
  refine w_if (fun c2 => ?_) fun c2 => ?_
  · rw [Bool.and_eq_true, decide_eq_true_eq] at c2
    rw [scanDown_go (by omega) c2.1 c2.2] at eqd
    rw [is1 l (by omega) (by omega)]
    exact more _ _ ⟨rfl, l - 1, rfl, by omega, by omega, eqd⟩ (by omega)
  have c2 : ¬ (k ≤ l ∧ (!ltInt d0[l]! d0[a]!) = true) := fun q => by rw [q.2, decide_eq_true q.1] at c2; cases c2
  rw [scanDown_stop c2] at eqd
  rw [← eqd] at y
  clear more rec eqd c2
  refine w_if' (fun c3 => ?_) fun c3 => ?_
  · have c3 : k > l := by omega
    rw [if_pos c3] at y
    refine w_swp x0 (i := l) (j := a) (by omega) (by omega) rfl rfl fun h2 x2 w2 => ?_
    exact y h2 x2 (w0.trans w2)
  have c3 : ¬ k > l := by omega
  rw [if_neg c3] at y
  refine w_swp x0 (i := k) (j := l) (by omega) (by omega) rfl rfl fun h2 x2 w2 => ?_
  have hs2 : (swp d0 k l).size = d.size := by rw [swp_size]; exact hs0
  have w02 := w0.trans w2
  generalize swp d0 k l = d2 at x2 y hs2
  clear x0 w0 w2 hs0
  rw [ia1 k (by omega), is1 l (by omega) (by omega)]
  refine w_loop (fun z => (z.2 + 1 - z.1).toNat) (fun z h' => ∃ (i j : Nat) (e : Array Int), z = ((i : Int), (j : Int)) ∧ a < i ∧ i ≤ j + 2 ∧ j < b ∧ a ≤ j ∧ e.size = d.size ∧ BufI h' s e ∧ partLoop ltInt a i j e = partLoop ltInt a (k + 1) (l - 1) d2 ∧ Wrote s h h') ?_ ⟨k + 1, l - 1, d2, rfl, by omega, by omega, by omega, by omega, hs2, x2, rfl, w02⟩
  rintro rec _ h1 ⟨i, j, e, rfl, hi, hij, hj, haj, he, x1, eq1, w1⟩ more
  refine w_loop (fun z => j + 1 - z.toNat) (fun z h' => h1 = h' ∧ ∃ i' : Nat, z = (i' : Int) ∧ i ≤ i' ∧ i' ≤ max i (j + 1) ∧ scanUp (fun x => ltInt x e[a]!) e j i' = scanUp (fun x => ltInt x e[a]!) e j i) ?_ ⟨rfl, i, rfl, Nat.le_refl _, Nat.le_max_left _ _, rfl⟩
  rintro rec2 _ _ ⟨rfl, k2, rfl, hik, hkj, eqs⟩ more2
  refine w_joinV (decide (k2 ≤ j) && ltInt e[k2]! e[a]!) (fun c hc => w_if' (fun c2 => ?_) fun c2 => ?_) ?_
  · have c2 : (k2 : Int) ≤ (j : Int) := c2
    have c2 : k2 ≤ j := by omega
    refine rdB x1 (i := k2) (i' := a) (by omega) (by omega) rfl rfl (w_less ?_)
    rw [decide_eq_true c2, Bool.true_and] at hc
    exact hc
  · have c2 : ¬ (k2 : Int) ≤ (j : Int) := c2
    have c2 : ¬ k2 ≤ j := by omega
    rw [decide_eq_false c2, Bool.false_and] at hc
    exact hc
  rw [scanUp] at eqs
  refine w_if (fun c2 => ?_) fun c2 => ?_
  · rw [if_pos c2] at eqs
    rw [Bool.and_eq_true, decide_eq_true_eq] at c2
    rw [ia1 k2 (by omega)]
    exact more2 _ _ ⟨rfl, k2 + 1, rfl, by omega, by omega, eqs⟩ (by simp only [Int.toNat_natCast]; omega)
  rw [if_neg (by rw [c2]; simp)] at eqs
  clear more2 rec2 c2
  rw [partLoop, ← eqs] at eq1
  refine w_loop (fun z => z.toNat) (fun z h' => h1 = h' ∧ ∃ j' : Nat, z = (j' : Int) ∧ j' ≤ j ∧ min j (k2 - 1) ≤ j' ∧ scanDown (fun x => !ltInt x e[a]!) e k2 j' = scanDown (fun x => !ltInt x e[a]!) e k2 j) ?_ ⟨rfl, j, rfl, Nat.le_refl _, Nat.min_le_left _ _, rfl⟩
  rintro rec3 _ _ ⟨rfl, l2, rfl, hlj, hlk2, eqd⟩ more3
  refine w_joinV (decide (k2 ≤ l2) && !ltInt e[l2]! e[a]!) (fun c hc => w_if' (fun c2 => ?_) fun c2 => ?_) ?_
  · have c2 : k2 ≤ l2 := by omega
    refine rdB x1 (i := l2) (i' := a) (by omega) (by omega) rfl rfl (w_less ?_)
    rw [decide_eq_true c2, Bool.true_and] at hc
    exact hc
  · have c2 : ¬ k2 ≤ l2 := by omega
    rw [decide_eq_false c2, Bool.false_and] at hc
    exact hc
  refine w_if (fun c2 => ?_) fun c2 => ?_
  · rw [Bool.and_eq_true, decide_eq_true_eq] at c2
    rw [scanDown_go (by omega) c2.1 c2.2] at eqd
    rw [is1 l2 (by omega) (by omega)]
    exact more3 _ _ ⟨rfl, l2 - 1, rfl, by omega, by omega, eqd⟩ (by omega)
  have c2 : ¬ (k2 ≤ l2 ∧ (!ltInt e[l2]! e[a]!) = true) := fun q => by rw [q.2, decide_eq_true q.1] at c2; cases c2
  rw [scanDown_stop c2] at eqd
  rw [← eqd] at eq1
  clear more3 rec3
  refine w_if' (fun c3 => ?_) fun c3 => ?_
  · have c3 : k2 > l2 := by omega
    rw [if_pos c3] at eq1
    rw [← eq1] at y
    refine w_swp x1 (i := l2) (j := a) (by omega) (by omega) rfl rfl fun h2 x2 w2 => ?_
    exact y h2 x2 (w1.trans w2)
  have c3 : ¬ k2 > l2 := by omega
  rw [if_neg c3, dif_pos (by omega)] at eq1
  refine w_swp x1 (i := k2) (j := l2) (by omega) (by omega) rfl rfl fun h2 x2 w2 => ?_
  rw [ia1 k2 (by omega), is1 l2 (by omega) (by omega)]
  exact more _ _ ⟨k2 + 1, l2 - 1, _, rfl, by omega, by omega, by omega, by omega, by rw [swp_size]; exact he, x2, eq1, w1.trans w2⟩ (by show (((l2 - 1 : Nat) : Int) + 1 - ((k2 + 1 : Nat) : Int)).toNat < ((j : Int) + 1 - (i : Int)).toNat; omega)
end
end Go.Proofs.Yteeaelemfalkbaa.K
namespace Go.Proofs.Yteeaelemfalkbaa.K
open Go Go.Sort
theorem bitsLen_shift {x k : Nat} (h : 2 ^ k ≤ x) : bitsLen x = bitsLen (x / 2 ^ k) + k := by
  have key : ∀ m, k ≤ m → (x < 2 ^ m ↔ x / 2 ^ k < 2 ^ (m - k)) := fun m hm => by
    rw [Nat.div_lt_iff_lt_mul (Nat.two_pow_pos k), ← Nat.pow_add, Nat.sub_add_cancel hm]
  apply Nat.le_antisymm
  · rw [bitsLen_le_iff, key _ (by omega), Nat.add_sub_cancel]
    exact lt_two_pow_bitsLen _
  · have hk : k ≤ bitsLen x := by
      rcases Nat.lt_or_ge (bitsLen x) k with q | q
      · have h1 := lt_two_pow_bitsLen x
        have h2 : 2 ^ bitsLen x ≤ 2 ^ k := Nat.pow_le_pow_right (by decide) (by omega)
        omega
      · exact q
    have : bitsLen (x / 2 ^ k) ≤ bitsLen x - k := by
      rw [bitsLen_le_iff, ← key _ hk]
      exact lt_two_pow_bitsLen _
    omega
theorem wrap_u8 (x : Int) : IntKind.u8.wrap x = x % 256 := by
  unfold IntKind.wrap
  simp [IntKind.bits, IntKind.signed]
def tabOK (s : ByteArray) : Bool := (List.range 256).all fun x => s.data.toList[x]? == some (UInt8.ofNat (bitsLen x))
theorem bitsLen8 {x : Nat} (h : x < 256) : bitsLen x ≤ 8 := (bitsLen_le_iff x 8).2 h
section
variable {h : H}
theorem w_tab {s : ByteArray} (ht : tabOK s = true) {x : Nat} (hx : x < 256) {k : Int → H → Prop} (y : k ((bitsLen x : Nat) : Int) h) : mByte s (x : Int) k h := by
  unfold tabOK at ht
  rw [List.all_eq_true] at ht
  have := ht x (List.mem_range.2 hx)
  rw [beq_iff_eq] at this
  have hlt := lt_of_get this
  rw [List.getElem?_eq_getElem hlt] at this
  have e := Option.some.inj this
  have hs : x < s.size := by simpa using hlt
  have hb : (UInt8.ofNat (bitsLen x)).toNat = bitsLen x := by
    have := bitsLen8 hx
    rw [UInt8.toNat_ofNat']; exact Nat.mod_eq_of_lt (by omega)
  refine ⟨((UInt8.ofNat (bitsLen x)).toNat : Nat), ⟨UInt8.ofNat (bitsLen x), by omega, ?_, rfl⟩, by rw [hb]; exact y⟩
  rw [Int.toNat_natCast, ← e]
  show s.data[x]? = _
  rw [← Array.getElem?_toList, List.getElem?_eq_getElem hlt]
set_option maxRecDepth 100000 in
theorem t_Len64 {x : Nat} (hx : x < 2 ^ 64) {K : Int → H → Prop} (y : K ((bitsLen x : Nat) : Int) h) : m_math_bits_Len64 (x : Int) K h := by
  unfold m_math_bits_Len64
  refine w_joinP (fun z h' => h = h' ∧ ∃ (u n : Nat), z = ((u : Int), (n : Int)) ∧ u < 2 ^ 32 ∧ n ≤ 32 ∧ bitsLen x = bitsLen u + n) (fun j hj => w_if' (fun c => ?_) fun c => ?_) ?_
  · have e : iShr .u64 (x : Int) 32 = ((x / 2 ^ 32 : Nat) : Int) := u_shr (n := 32) (by omega)
    rw [e]
    exact hj _ _ ⟨rfl, x / 2 ^ 32, 32, rfl, by omega, by omega, bitsLen_shift (by omega)⟩
  · exact hj _ _ ⟨rfl, x, 0, rfl, by omega, by omega, rfl⟩
  rintro _ _ ⟨rfl, u, n, rfl, hu, hn, e1⟩
  refine w_joinP (fun z h' => h = h' ∧ ∃ (v m : Nat), z = ((v : Int), (m : Int)) ∧ v < 2 ^ 16 ∧ m ≤ 48 ∧ bitsLen x = bitsLen v + m) (fun j hj => w_if' (fun c => ?_) fun c => ?_) ?_
  · have c : (65536 : Int) ≤ (u : Int) := c
    have e : iShr .u64 (u : Int) 16 = ((u / 2 ^ 16 : Nat) : Int) := u_shr (n := 16) (by omega)
    have a : iAdd .i64 (n : Int) 16 = ((n + 16 : Nat) : Int) := ia n 16 (by omega)
    show j (iShr .u64 (u : Int) 16, iAdd .i64 (n : Int) 16) h
    rw [e, a]
    exact hj _ _ ⟨rfl, u / 2 ^ 16, n + 16, rfl, by omega, by omega, by rw [e1, bitsLen_shift (x := u) (k := 16) (by omega)]; omega⟩
  · have c : ¬ (65536 : Int) ≤ (u : Int) := c
    exact hj _ _ ⟨rfl, u, n, rfl, by omega, by omega, e1⟩
  rintro _ _ ⟨rfl, v, m, rfl, hv, hm, e2⟩
  refine w_joinP (fun z h' => h = h' ∧ ∃ (w q : Nat), z = ((w : Int), (q : Int)) ∧ w < 2 ^ 8 ∧ q ≤ 56 ∧ bitsLen x = bitsLen w + q) (fun j hj => w_if' (fun c => ?_) fun c => ?_) ?_
  · have c : (256 : Int) ≤ (v : Int) := c
    have e : iShr .u64 (v : Int) 8 = ((v / 2 ^ 8 : Nat) : Int) := u_shr (n := 8) (by omega)
    have a : iAdd .i64 (m : Int) 8 = ((m + 8 : Nat) : Int) := ia m 8 (by omega)
    show j (iShr .u64 (v : Int) 8, iAdd .i64 (m : Int) 8) h
    rw [e, a]
    exact hj _ _ ⟨rfl, v / 2 ^ 8, m + 8, rfl, by omega, by omega, by rw [e2, bitsLen_shift (x := v) (k := 8) (by omega)]; omega⟩
  · have c : ¬ (256 : Int) ≤ (v : Int) := c
    exact hj _ _ ⟨rfl, v, m, rfl, by omega, by omega, e2⟩
  rintro _ _ ⟨rfl, w, q, rfl, hw, hq, e3⟩
  have hl := bitsLen8 (x := w) hw
  have e4 : IntKind.wrap .i64 ((bitsLen w : Nat) : Int) = ((bitsLen w : Nat) : Int) := i64_eq (by omega) (by omega)
  have fin : ∀ tb : ByteArray, tabOK tb = true → mByte tb (w : Int) (fun x7 => K (iAdd .i64 (q : Int) (IntKind.wrap .i64 x7))) h := fun tb ht => w_tab ht hw (by
    rw [e4, ia q (bitsLen w) (by omega)]
    rw [e3, Nat.add_comm] at y
    exact y)
  have e5 : IntKind.wrap .u8 (w : Int) = (w : Int) := by
    rw [wrap_u8]; omega
  show mByte _ (IntKind.wrap .u8 (w : Int)) (fun x7 => K (iAdd .i64 (q : Int) (IntKind.wrap .i64 x7))) h
  rw [e5]
  exact fin _ (by kernel_rfl)
theorem w_Len {x : Nat} (hx : x < 2 ^ 62) {K : Int → H → Prop} (y : K ((bitsLen x : Nat) : Int) h) : mPure (m_math_bits_Len (IntKind.wrap .u64 (x : Int))) K h := by
  refine w_pure ((bitsLen x : Nat) : Int) (fun h' k' q => ?_) y
  unfold m_math_bits_Len
  rw [u_wrap (by omega)]
  exact w_pure ((bitsLen x : Nat) : Int) (fun h'' k'' q' => t_Len64 (by omega) q') q
/-! breakPatternsOrdered: a permutation. -/
def CellU (c0 : Nat) (h : H) : Prop := ∃ (v : Int) (t : TypeId), h c0 = some (.cells #[Value.int .u64 v] t (0, 0))
theorem t_xor {c0 : Nat} (hc : CellU c0 h) {K : Int → H → Prop} (y : ∀ (r : Nat) h', r < 2 ^ 64 → CellU c0 h' → But (· = c0) h h' → (∀ c, h' c = none → h c = none) → K (r : Int) h') : m_slices_xorshift_Next (some ⟨c0, 0, none⟩) K h := by
  unfold m_slices_xorshift_Next
  obtain ⟨v, t, hv⟩ := hc
  have rd : ∀ {g : H} {u : Int}, g c0 = some (.cells #[Value.int .u64 u] t (0, 0)) → At g ⟨c0, 0, none⟩ (cInt .u64 u) := fun e => At.own (l1 := []) (l3 := []) e rfl
  refine w_deref (w_deref (w_load (rd hv) (w_load (rd hv) (w_deref (w_store (l1 := []) (l2 := cInt .u64 v) (l3 := []) rfl hv rfl rfl ?_)))))
  refine w_deref (w_deref (w_load (rd (upd_same _ _ _)) (w_load (rd (upd_same _ _ _)) (w_deref (w_store (l1 := []) (l2 := cInt .u64 _) (l3 := []) rfl (upd_same _ _ _) rfl rfl ?_)))))
  refine w_deref (w_deref (w_load (rd (upd_same _ _ _)) (w_load (rd (upd_same _ _ _)) (w_deref (w_store (l1 := []) (l2 := cInt .u64 _) (l3 := []) rfl (upd_same _ _ _) rfl rfl ?_)))))
  refine w_deref (w_load (rd (upd_same _ _ _)) ?_)
  rw [upd_upd, upd_upd]
  have rng : ∀ z w : Int, ∃ r : Nat, iXor .u64 z w = (r : Int) ∧ r < 2 ^ 64 := fun z w => by
    unfold iXor
    rw [wrap_u64]
    exact ⟨(((BitVec.ofInt IntKind.u64.bits z ^^^ BitVec.ofInt IntKind.u64.bits w).toNat : Int) % 18446744073709551616).toNat, by omega, by omega⟩
  suffices z : ∀ A B : Int, K (iXor .u64 A B) (upd h c0 (.cells ([] ++ [Value.int .u64 (iXor .u64 A B)] ++ []).toArray t (0, 0))) from z _ _
  intro A B
  obtain ⟨r, hr, hlt⟩ := rng A B
  rw [hr]
  exact y r _ hlt ⟨r, t, upd_same _ _ _⟩ (But.upd rfl) fun c e => (upd_none.1 e).2
variable {s : Sl} {d : Array Int}
theorem t_breakPatterns {a b : Nat} (x : BufI h s d) (hab : a ≤ b) (hb : b ≤ d.size) (hn : d.size ≤ 2 ^ 40) {K : Unit → H → Prop} (y : ∀ e h', PermIn a b d e → BufI h' s e → Wrote s h h' → K () h') : m_slices_breakPatternsOrdered_int s (a : Int) (b : Int) K h := by
  unfold m_slices_breakPatternsOrdered_int
  rw [is_ b a (by omega) hab]
  refine w_if' (fun c => ?_) fun c => y d h (permIn_refl d a b) x (.refl _ _)
  have c : 8 ≤ b - a := by omega
  refine w_newQ (fun c0 h0 => (∃ t, h0 c0 = some (.cells ([] ++ cInt .u64 0 ++ []).toArray t (0, 0))) ∧ Keeps h h0) (fun c0 hc0 => ⟨⟨_, upd_same _ _ _⟩, .new hc0⟩) fun c0 h0 hc0 ⟨⟨t, hv⟩, k0⟩ => ?_
  have nf : ¬ s.foot c0 := fun f => by
    obtain ⟨A, hA, e⟩ := f
    rcases x.at_ with ⟨q, _⟩ | ⟨B, z, fz, q, hB, _⟩
    · rw [q] at hA; cases hA
    · rw [q] at hA; cases hA; subst e; rw [hc0] at hB; cases hB
  refine w_store (l1 := []) (l2 := cInt .u64 0) (l3 := []) rfl hv rfl rfl ?_
  have x1 : BufI (upd h0 c0 (.cells ([] ++ [Value.int .u64 (IntKind.wrap .u64 ((b - a : Nat) : Int))] ++ []).toArray t (0, 0))) s d := (x.keep k0).but (But.upd (F := (· = c0)) rfl) fun A hA e => nf ⟨A, hA, e⟩
  have w1 : Wrote s h (upd h0 c0 (.cells ([] ++ [Value.int .u64 (IntKind.wrap .u64 ((b - a : Nat) : Int))] ++ []).toArray t (0, 0))) := ⟨.of (k0.but (But.upd (F := (· = c0)) rfl) fun n e => by subst e; exact hc0), fun c e => k0.fresh (upd_none.1 e).2⟩
  have cl1 : CellU c0 (upd h0 c0 (.cells ([] ++ [Value.int .u64 (IntKind.wrap .u64 ((b - a : Nat) : Int))] ++ []).toArray t (0, 0))) := ⟨_, t, upd_same _ _ _⟩
  generalize upd h0 c0 (.cells ([] ++ [Value.int .u64 (IntKind.wrap .u64 ((b - a : Nat) : Int))] ++ []).toArray t (0, 0)) = h1 at x1 w1 cl1 ⊢
  have hl8 : bitsLen (b - a) < 62 := Nat.lt_succ_of_le ((bitsLen_le_iff _ 61).2 (by omega))
  have hp := two_pow_bitsLen_le (n := b - a) (by omega)
  generalize hL : bitsLen (b - a) = L at hl8 hp
  refine w_pure (iShl .u64 1 (L : Int)) (fun h' k' q => ?_) ?_
  · unfold m_slices_nextPowerOfTwo
    refine w_Len (by omega) ?_
    rw [hL]
    exact w_nn (by omega) q
  have q4 : (b - a) / 4 ≤ b - a := Nat.div_le_self _ _
  have q4' : 4 * ((b - a) / 4) ≤ b - a := Nat.mul_div_le _ _
  have q48 : 2 ≤ (b - a) / 4 := by omega
  have e4 : iQuo .i64 ((b - a : Nat) : Int) 4 = (((b - a) / 4 : Nat) : Int) := iq (b - a) 4 (by omega)
  generalize (b - a) / 4 = q at q4 q4' q48 e4
  have m2 : iMul .i64 (q : Int) 2 = ((q * 2 : Nat) : Int) := (i64_eq (x := (q : Int) * 2) (by omega) (by omega)).trans (by omega)
  rw [e4, m2, ia a (q * 2) (by omega), is1 (a + q * 2) (by omega) (by omega), ia1 (a + q * 2) (by omega)]
  refine w_loop (fun z => a + q * 2 + 2 - z.toNat) (fun z h' => ∃ (i : Nat) (e : Array Int), z = (i : Int) ∧ a + q * 2 ≤ i + 1 ∧ i ≤ a + q * 2 + 2 ∧ PermIn a b d e ∧ BufI h' s e ∧ CellU c0 h' ∧ Wrote s h h') ?_ ⟨a + q * 2 - 1, d, rfl, by omega, by omega, permIn_refl d a b, x1, cl1, w1⟩
  rintro rec _ h2 ⟨i, e, rfl, hi1, hi2, pe, x2, cl2, w2⟩ more
  refine w_if' (fun c2 => ?_) fun c2 => y e h2 pe x2 w2
  have c2 : i ≤ a + q * 2 + 1 := by omega
  refine t_xor cl2 fun r h3 hr cl3 b3 d3 => ?_
  have x3 : BufI h3 s e := x2.but b3 fun A hA z => nf ⟨A, hA, z⟩
  have w3 : Wrote s h h3 := ⟨w2.but.trans b3 fun n z => .inr (by subst z; exact hc0), fun c z => w2.dom c (d3 c z)⟩
  rw [u_low hr (by omega)]
  have hm : r % 2 ^ L < 2 ^ L := Nat.mod_lt _ (Nat.two_pow_pos _)
  generalize r % 2 ^ L = m at hm
  have wm : IntKind.wrap .i64 (m : Int) = (m : Int) := i64_eq (by omega) (by omega)
  rw [wm]
  refine w_joinP (fun z h' => h3 = h' ∧ ∃ m' : Nat, z = (m' : Int) ∧ m' < b - a) (fun j hj => w_if' (fun c3 => ?_) fun c3 => ?_) ?_
  · rw [is_ m (b - a) (by omega) (by omega)]
    exact hj _ _ ⟨rfl, m - (b - a), rfl, by omega⟩
  · exact hj _ _ ⟨rfl, m, rfl, by omega⟩
  rintro _ _ ⟨rfl, m', rfl, hm'⟩
  have es : e.size = d.size := pe.1
  have em := ia a m' (by omega)
  rw [em]
  refine w_swp x3 (i := i) (j := a + m') (by omega) (by omega) rfl rfl fun h4 x4 w4 => ?_
  rw [ia1 i (by omega)]
  have cl4 : CellU c0 h4 := by
    obtain ⟨v, t, e⟩ := cl3
    exact ⟨v, t, w4.but _ _ e nf⟩
  exact more _ _ ⟨i + 1, _, rfl, by omega, by omega, permIn_trans _ _ _ a b pe (swp_permIn e a b i (a + m') (by omega) (by omega) (by omega) (by omega) (by omega)), x4, cl4, w3.trans w4⟩ (by simp only [Int.toNat_natCast]; omega)
/-! pdqsortOrdered -/
theorem t_pdq_n : ∀ (n : Nat) {h : H} {d : Array Int} {a b : Nat}, b - a < n → BufI h s d → a ≤ b → b ≤ d.size → d.size ≤ 2 ^ 40 → Go.Sort.Below ltInt a b d → ∀ {limit : Int} {K : Unit → H → Prop},
    (∀ e h', PermIn a b d e → SortedIn ltInt a b e → BufI h' s e → Wrote s h h' → K () h') → m_slices_pdqsortOrdered_int_n n s (a : Int) (b : Int) limit K h := by
  intro n
  induction n with
  | zero => intro h d a b hn; omega
  | succ n ih =>
    intro h d a0 b0 hn x hab0 hb0 hsz hB0 limit K y
    show m_slices_pdqsortOrdered_int_s (m_slices_pdqsortOrdered_int_n n) s (a0 : Int) (b0 : Int) limit K h
    unfold m_slices_pdqsortOrdered_int_s
    refine w_loop (fun z => (z.2.1 - z.1).toNat) (fun z h' => ∃ (a b : Nat) (lim : Int) (wb wp : Bool) (e : Array Int), z = ((a : Int), (b : Int), lim, wb, wp) ∧ a ≤ b ∧ b - a ≤ b0 - a0 ∧ b ≤ e.size ∧ e.size = d.size ∧ Go.Sort.Below ltInt a b e ∧ BufI h' s e ∧ Wrote s h h' ∧ ∀ R, PermIn a b e R → SortedIn ltInt a b R → PermIn a0 b0 d R ∧ SortedIn ltInt a0 b0 R) ?_
      ⟨a0, b0, limit, true, true, d, rfl, hab0, Nat.le_refl _, hb0, rfl, hB0, x, .refl _ _, fun R h1 h2 => ⟨h1, h2⟩⟩
    clear x hab0 hb0 hB0
    rintro rec _ h1 ⟨a, b, lim, wb, wp, e, rfl, hab, hlen, hb, he, hB, x1, w1, fin⟩ more
    have fin' : ∀ (R : Array Int) (h' : H), PermIn a b e R → SortedIn ltInt a b R → BufI h' s R → Wrote s h h' → K () h' := fun R h' p q r w => y R h' (fin R p q).1 (fin R p q).2 r w
    show mIf (decide ((iSub .i64 (b : Int) (a : Int)) ≤ 12)) _ _ h1
    rw [is_ b a (by omega) hab]
    refine w_if' (fun c => ?_) fun c => ?_
    · refine t_insertion x1 hb (by omega) (fun h2 x2 w2 => ?_) hab
      have := insertionSort_holds swo_ltInt e a b hab hb
      exact fin' _ h2 this.1 this.2 x2 (w1.trans w2)
    have c : 12 < b - a := by omega
    refine w_if' (fun c2 => ?_) fun c2 => ?_
    · refine t_heapSort x1 hab hb (by omega) fun h2 x2 w2 => ?_
      have := heapSort_holds swo_ltInt e a b hab hb
      exact fin' _ h2 this.1 this.2 x2 (w1.trans w2)
    refine w_joinP (fun _ h' => ∃ e1, PermIn a b e e1 ∧ BufI h' s e1 ∧ Wrote s h h') (fun j hj => w_if (fun c3 => ?_) fun c3 => ?_) ?_
    · refine t_breakPatterns x1 hab hb (by omega) fun e1 h2 p1 x2 w2 => ?_
      exact hj _ _ ⟨e1, p1, x2, w1.trans w2⟩
    · exact hj _ _ ⟨e, permIn_refl e a b, x1, w1⟩
    rintro lim2 h2 ⟨e1, p1, x2, w2⟩
    refine t_choosePivot x2 (by omega) (by rw [p1.1]; exact hb) (by rw [p1.1]; omega) fun p hint h3 hp1 hp2 x3 k3 => ?_
    have w3 : Wrote s h h3 := ⟨w2.but.trans (.of k3) fun _ f => .inl f, fun c z => w2.dom c (k3.fresh z)⟩
    refine w_joinP (fun z h' => ∃ (p' : Nat) (t : Int) (e2 : Array Int), z = ((p' : Int), t) ∧ a ≤ p' ∧ p' < b ∧ PermIn a b e e2 ∧ BufI h' s e2 ∧ Wrote s h h') (fun j hj => w_if' (fun c3 => ?_) fun c3 => ?_) ?_
    · refine t_reverse x3 (by omega) (by rw [p1.1]; exact hb) (by rw [p1.1]; omega) fun h4 x4 w4 => ?_
      have hp1' : (a : Int) ≤ (p : Int) := by omega
      show j (iSub .i64 (iSub .i64 (b : Int) 1) (iSub .i64 (p : Int) (a : Int)), 1) h4
      rw [is1 b (by omega) (by omega), is_ p a (by omega) hp1, is_ (b - 1) (p - a) (by omega) (by omega)]
      exact hj _ _ ⟨b - 1 - (p - a), 1, _, rfl, by omega, by omega, permIn_trans _ _ _ a b p1 (reverseRange_holds e1 a b hab (by rw [p1.1]; exact hb)), x4, w3.trans w4⟩
    · exact hj _ _ ⟨p, hint, e1, rfl, hp1, hp2, p1, x3, w3⟩
    clear x3 x2 w2 w3 p1 k3 hp1 hp2 x1 w1
    rintro _ h4 ⟨p', t, e2, rfl, hp1, hp2, p2, x4, w4⟩
    refine w_joinP (fun _ h' => ∃ e3, PermIn a b e e3 ∧ BufI h' s e3 ∧ Wrote s h h') (fun j hj => w_if (fun c3 => ?_) fun c3 => ?_) ?_
    · refine t_partialIns x4 (by omega) (by rw [p2.1]; exact hb) (by rw [p2.1]; omega) fun h5 x5 w5 => ?_
      have q := partialInsertionSort_holds swo_ltInt e2 a b (by omega) (by rw [p2.1]; exact hb) (hB.perm hb p2)
      refine w_if (fun c4 => ?_) fun c4 => ?_
      · exact fin' _ h5 (permIn_trans _ _ _ a b p2 q.1) (q.2 c4) x5 (w4.trans w5)
      · exact hj () h5 ⟨_, permIn_trans _ _ _ a b p2 q.1, x5, w4.trans w5⟩
    · exact hj () h4 ⟨e2, p2, x4, w4⟩
    clear x4 w4 p2
    rintro _ h5 ⟨e3, p3, x5, w5⟩
    have hb3 : b ≤ e3.size := by rw [p3.1]; exact hb
    have hB3 := hB.perm hb p3
    have hs3 : e3.size = d.size := by rw [p3.1]; exact he
    refine w_joinP (fun z h' => h5 = h' ∧ (z = true → 0 < a ∧ ltInt e3[a - 1]! e3[p']! = false)) (fun j hj => w_if' (fun c3 => ?_) fun c3 => ?_) ?_
    · have c3 : 0 < a := by have c3 : (0 : Int) < (a : Int) := c3; omega
      show mIdx s (iSub .i64 (a : Int) 1) 1 _ h5
      rw [is1 a (by omega) c3]
      refine rdB x5 (i := a - 1) (i' := p') (by omega) (by omega) rfl rfl (w_less ?_)
      exact hj _ _ ⟨rfl, fun q => ⟨c3, by rwa [Bool.not_eq_true'] at q⟩⟩
    · exact hj _ _ ⟨rfl, fun q => by cases q⟩
    rintro z _ ⟨rfl, hz⟩
    refine w_if (fun c3 => ?_) fun c3 => ?_
    · obtain ⟨ha0, hnl⟩ := hz c3
      refine t_partEq x5 hp1 hp2 hb3 (by omega) fun h6 x6 w6 => ?_
      obtain ⟨r1, r2, r3, r4, r5⟩ := round_eq swo_ltInt (partitionEqual_holds ltInt) (mid := (partitionEqual ltInt e3 a b p').1) (d4 := (partitionEqual ltInt e3 a b p').2) ha0 hp1 hp2 hb3 hB3 hnl rfl
      refine more _ _ ⟨(partitionEqual ltInt e3 a b p').1, b, lim2, wb, wp, _, rfl, r2, by omega, by rw [r3]; exact hb3, by rw [r3]; exact hs3, r4, x6, w5.trans w6, fun R q1 q2 => ?_⟩ (by show ((b : Int) - (((partitionEqual ltInt e3 a b p').1 : Nat) : Int)).toNat < ((b : Int) - (a : Int)).toNat; omega)
      exact fin R (permIn_trans _ _ _ a b p3 (r5 R q1 q2).1) (r5 R q1 q2).2
    refine t_partition x5 hp1 hp2 hb3 (by omega) fun h6 x6 w6 => ?_
    obtain ⟨r1, r2, r3, r4, r5, r6, r7⟩ := round_part swo_ltInt (partition_holds ltInt) (mid := (partition ltInt e3 a b p').1) (ap := (partition ltInt e3 a b p').2.1) (d4 := (partition ltInt e3 a b p').2.2) hp1 hp2 hb3 hB3 rfl
    have w56 := w5.trans w6
    generalize (partition ltInt e3 a b p').1 = mid at r1 r2 r4 r5 r6 r7
    generalize (partition ltInt e3 a b p').2.1 = ap
    generalize (partition ltInt e3 a b p').2.2 = e4 at x6 r3 r4 r5 r6 r7
    show mIf (decide ((iSub .i64 (mid : Int) (a : Int)) < (iSub .i64 (b : Int) (mid : Int)))) _ _ h6
    rw [is_ mid a (by omega) r1, is_ b mid (by omega) (by omega)]
    refine w_if' (fun c4 => ?_) fun c4 => ?_
    · refine ih (d := e4) (a := a) (b := mid) (by omega) x6 r1 (by omega) (by omega) r4 fun e5 h7 q1 q2 x7 w7 => ?_
      obtain ⟨s1, s2⟩ := r6 e5 q1 q2
      show rec (iAdd .i64 (mid : Int) 1, (b : Int), lim2, _, ap) h7
      rw [ia1 mid (by omega)]
      refine more _ _ ⟨mid + 1, b, lim2, _, ap, e5, rfl, r2, by omega, by rw [q1.1, r3]; exact hb3, by rw [q1.1, r3]; exact hs3, s1, x7, w56.trans w7, fun R t1 t2 => ?_⟩ (by show ((b : Int) - ((mid + 1 : Nat) : Int)).toNat < ((b : Int) - (a : Int)).toNat; omega)
      exact fin R (permIn_trans _ _ _ a b p3 (s2 R t1 t2).1) (s2 R t1 t2).2
    · show m_slices_pdqsortOrdered_int_n n s (iAdd .i64 (mid : Int) 1) (b : Int) lim2 _ h6
      rw [ia1 mid (by omega)]
      refine ih (d := e4) (a := mid + 1) (b := b) (by omega) x6 r2 (by omega) (by omega) r5 fun e5 h7 q1 q2 x7 w7 => ?_
      obtain ⟨s1, s2⟩ := r7 e5 q1 q2
      refine more _ _ ⟨a, mid, lim2, _, ap, e5, rfl, r1, by omega, by rw [q1.1]; omega, by rw [q1.1, r3]; exact hs3, s1, x7, w56.trans w7, fun R t1 t2 => ?_⟩ (by show ((mid : Int) - (a : Int)).toNat < ((b : Int) - (a : Int)).toNat; omega)
      exact fin R (permIn_trans _ _ _ a b p3 (s2 R t1 t2).1) (s2 R t1 t2).2
/-- slices.Sort at []int. -/
theorem t_Sort {zs : List Int} (x : Buf (cInt .i64) 1 N_int h s zs) (hn : zs.length ≤ 2 ^ 40) {K : Unit → H → Prop} (y : ∀ h', Buf (cInt .i64) 1 N_int h' s (zs.mergeSort fun x y => decide (x ≤ y)) → Wrote s h h' → K () h') : m_slices_Sort_int_int s K h := by
  unfold m_slices_Sort_int_int
  have hl := x.len
  rw [hl]
  refine w_Len (by omega) ?_
  have x0 : BufI h s zs.toArray := x
  unfold m_slices_pdqsortOrdered_int
  refine ⟨zs.length + 1, t_pdq_n (zs.length + 1) (d := zs.toArray) (a := 0) (b := zs.length) (by omega) x0 (Nat.zero_le _) (by simp) (by simpa using hn) (.inl rfl) fun e h' p1 p2 x1 w1 => ?_⟩
  refine y h' ?_ w1
  have hsz : zs.length = zs.toArray.size := by simp
  rw [hsz] at p1 p2
  have h1 := sorted_unique_holds (lt := ltInt) swo_ltInt (fun x y h1 h2 => by
    unfold ltInt at h1 h2
    rw [decide_eq_false_iff_not] at h1 h2
    omega) zs.toArray e p1 p2
  have h2 : (fun x y : Int => !ltInt y x) = fun x y => decide (x ≤ y) := by
    funext x y
    unfold ltInt
    rw [Bool.eq_iff_iff]
    simp
  rw [h2] at h1
  have h1 : e.toList = zs.mergeSort fun x y => decide (x ≤ y) := h1
  rw [← h1]; exact x1
end
end Go.Proofs.Yteeaelemfalkbaa.K
