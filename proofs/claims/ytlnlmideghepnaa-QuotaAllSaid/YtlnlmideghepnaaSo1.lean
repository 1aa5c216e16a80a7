/- slices.Sort of whole numbers, its parts: what each does to the row (the plain functions are the kit's own, Derived/Sort). -/
import Derived.Test.YtlnlmideghepnaaL2
import Derived.Test.YtlnlmideghepnaaU1
import Derived.Test.YtlnlmideghepnaaFslices
import Derived.Test.YtlnlmideghepnaaFslicesx2
import Derived.Sort.AssemblyPlain
namespace Go.Proofs.Ytlnlmideghepnaa.K
open Go Go.Sort
/-- int is type 3 in every dump. -/
abbrev N_int : Nat := 3
abbrev BufI (h : H) (s : Sl) (d : Array Int) : Prop := Buf (cInt .i64) 1 N_int h s d.toList
/-- The row's own memory was written, no other. -/
structure Wrote (s : Sl) (h h' : H) : Prop where
  but : But s.foot h h'
  dom : ∀ c, h' c = none → h c = none
theorem Wrote.refl (s : Sl) (h : H) : Wrote s h h := ⟨.refl _ _, fun _ e => e⟩
theorem Wrote.trans {s : Sl} {a b c : H} (x : Wrote s a b) (y : Wrote s b c) : Wrote s a c := ⟨x.but.trans y.but fun _ f => .inl f, fun n e => x.dom n (y.dom n e)⟩
theorem ci_len : ∀ x : Int, (cInt .i64 x).length = 1 := fun _ => rfl
theorem ia (a b : Nat) (h : a + b < 2 ^ 62) : iAdd .i64 (a : Int) (b : Int) = ((a + b : Nat) : Int) := (iAdd_eq (a := (a : Int)) (b := (b : Int)) (by omega) (by omega)).trans (by omega)
theorem ia1 (a : Nat) (h : a < 2 ^ 61) : iAdd .i64 (a : Int) 1 = ((a + 1 : Nat) : Int) := ia a 1 (by omega)
theorem is_ (a b : Nat) (h : a < 2 ^ 62) (hb : b ≤ a) : iSub .i64 (a : Int) (b : Int) = ((a - b : Nat) : Int) := (iSub_eq (a := (a : Int)) (b := (b : Int)) (by omega) (by omega)).trans (by omega)
theorem is1 (a : Nat) (h : a < 2 ^ 62) (hb : 1 ≤ a) : iSub .i64 (a : Int) 1 = ((a - 1 : Nat) : Int) := is_ a 1 h hb
theorem im2 (a : Nat) (h : a < 2 ^ 60) : iMul .i64 2 (a : Int) = ((2 * a : Nat) : Int) := by
  have : iMul .i64 2 (a : Int) = 2 * (a : Int) := i64_eq (by omega) (by omega)
  rw [this]; omega
theorem iq (a k : Nat) (h : a < 2 ^ 62) : iQuo .i64 (a : Int) (k : Int) = ((a / k : Nat) : Int) := by
  have e : (a : Int).tdiv (k : Int) = ((a / k : Nat) : Int) := rfl
  have l : a / k ≤ a := Nat.div_le_self a k
  show IntKind.i64.wrap ((a : Int).tdiv (k : Int)) = _
  rw [e]
  generalize a / k = c at l
  exact i64_eq (by omega) (by omega)
section
variable {h : H} {s : Sl} {d : Array Int}
theorem get_bang {i : Nat} (hi : i < d.size) : d.toList[i]? = some d[i]! := by
  rw [Array.getElem?_toList, getElem!_pos d i hi, Array.getElem?_eq_getElem hi]
theorem rdA (x : BufI h s d) {i : Nat} (hi : i < d.size) {j : Int} (hj : j = i) {k : Int → H → Prop} (y : k d[i]! h) : mIdx s j 1 (fun a => mLoad (cInt .i64) a k) h :=
  w_get ci_len x.arr (get_bang hi) hj rfl y
theorem rdB (x : BufI h s d) {i i' : Nat} (hi : i < d.size) (hi' : i' < d.size) {j j' : Int} (hj : j = i) (hj' : j' = i') {k : Int → Int → H → Prop} (y : k d[i]! d[i']! h) :
    mIdx s j 1 (fun a => mIdx s j' 1 fun a' => mLoad (cInt .i64) a fun x => mLoad (cInt .i64) a' fun x' => k x x') h :=
  w_idx ci_len x.arr (get_bang hi) hj fun _ _ h1 => w_idx ci_len x.arr (get_bang hi') hj' fun _ _ h2 => w_load h1 (w_load h2 y)
/-- data[i], data[j] = data[j], data[i]. -/
theorem w_swp (x : BufI h s d) {i j : Nat} (hi : i < d.size) (hj : j < d.size) {I J : Int} (eI : I = i) (eJ : J = j) {k : H → Prop} (y : ∀ h', BufI h' s (swp d i j) → Wrote s h h' → k h') :
    mIdx s J 1 (fun a => mIdx s I 1 fun a' => mLoad (cInt .i64) a fun x => mLoad (cInt .i64) a' fun x' => mIdx s I 1 fun b => mStore b [Value.int .i64 x] <| mIdx s J 1 fun b' => mStore b' [Value.int .i64 x'] k) h := by
  refine rdB x hj hi eJ eI ?_
  refine w_put ci_len x (i := i) (by simpa using hi) eI d[j]! rfl fun h1 x1 b1 d1 => ?_
  refine w_put ci_len x1 (i := j) (by simpa using hj) eJ d[i]! rfl fun h2 x2 b2 d2 => y h2 ?_ ⟨b1.trans b2 fun _ f => .inl f, fun c e => d1 c (d2 c e)⟩
  show Buf (cInt .i64) 1 N_int h2 s (swp d i j).toList
  unfold swp
  rw [Array.toList_setIfInBounds, Array.toList_setIfInBounds]
  exact x2
theorem w_less {x y : Int} {k : Bool → H → Prop} (z : k (ltInt x y) h) : mPure (m_cmp_Less_int x y) k h := by
  refine w_pure (ltInt x y) (fun h' k' q => ?_) z
  unfold m_cmp_Less_int
  refine w_pure false (fun h'' k'' q' => ?_) (w_ifF rfl q)
  unfold m_cmp_isNaN_int
  rw [decide_eq_true rfl]; exact q'
/-! insertionSortOrdered -/
theorem insInner_stop {a j : Nat} {d : Array Int} (h : ¬ (a < j ∧ ltInt d[j]! d[j - 1]! = true)) : insInner ltInt a j d = d := by
  cases j with
  | zero => rfl
  | succ j =>
    unfold insInner
    rw [if_neg]
    intro q
    rw [Bool.and_eq_true, decide_eq_true_eq] at q
    exact h q
theorem insInner_go {a j : Nat} {d : Array Int} (h1 : a < j) (h2 : ltInt d[j]! d[j - 1]! = true) : insInner ltInt a j d = insInner ltInt a (j - 1) (swp d j (j - 1)) := by
  cases j with
  | zero => omega
  | succ j =>
    rw [insInner, if_pos]
    · rfl
    · rw [Bool.and_eq_true, decide_eq_true_eq]; exact ⟨h1, h2⟩
theorem t_insertion {a b : Nat} (x : BufI h s d) (hb : b ≤ d.size) (hn : d.size ≤ 2 ^ 40) {K : Unit → H → Prop} (y : ∀ h', BufI h' s (insertionSort ltInt d a b) → Wrote s h h' → K () h') (ha : a ≤ b) : m_slices_insertionSortOrdered_int s (a : Int) (b : Int) K h := by
  unfold m_slices_insertionSortOrdered_int
  rw [ia1 a (by omega)]
  refine w_loop (fun z => b - z.toNat) (fun z h' => ∃ (i : Nat) (e : Array Int), z = (i : Int) ∧ a + 1 ≤ i ∧ e.size = d.size ∧ BufI h' s e ∧ insOuter ltInt a b i e = insOuter ltInt a b (a + 1) d ∧ Wrote s h h') ?_ ⟨a + 1, d, rfl, Nat.le_refl _, rfl, x, rfl, .refl _ _⟩
  rintro rec _ h1 ⟨i, e, rfl, hi, he, x1, eq1, w1⟩ more
  refine w_if' (fun c => ?_) fun c => ?_
  · have c : i < b := by omega
    refine w_loop (fun z => z.toNat) (fun z h' => ∃ (j : Nat) (e' : Array Int), z = (j : Int) ∧ j ≤ i ∧ e'.size = d.size ∧ BufI h' s e' ∧ insInner ltInt a j e' = insInner ltInt a i e ∧ Wrote s h h') ?_ ⟨i, e, rfl, Nat.le_refl _, he, x1, rfl, w1⟩
    rintro rec2 _ h2 ⟨j, e', rfl, hj, he', x2, eq2, w2⟩ more2
    refine w_joinV (decide (a < j) && ltInt e'[j]! e'[j - 1]!) (fun k hk => w_if' (fun c2 => ?_) fun c2 => ?_) ?_
    · have c2 : a < j := by omega
      refine rdB x2 (i := j) (i' := j - 1) (by omega) (by omega) rfl (is1 j (by omega) (by omega)) (w_less ?_)
      rw [decide_eq_true c2, Bool.true_and] at hk
      exact hk
    · have c2 : ¬ a < j := by omega
      rw [decide_eq_false c2, Bool.false_and] at hk
      exact hk
    · refine w_if (fun c2 => ?_) fun c2 => ?_
      · rw [Bool.and_eq_true, decide_eq_true_eq] at c2
        rw [is1 j (by omega) (by omega)]
        refine w_swp x2 (i := j) (j := j - 1) (by omega) (by omega) rfl rfl fun h3 x3 w3 => ?_
        exact more2 _ _ ⟨j - 1, _, rfl, by omega, by rw [swp_size]; exact he', x3, by rw [← insInner_go c2.1 c2.2]; exact eq2, w2.trans w3⟩ (by omega)
      · have c2 : ¬ (a < j ∧ ltInt e'[j]! e'[j - 1]! = true) := by
          intro q
          rw [q.2, decide_eq_true q.1] at c2; cases c2
        rw [ia1 i (by omega)]
        rw [insInner_stop c2] at eq2
        refine more _ _ ⟨i + 1, e', rfl, by omega, he', x2, ?_, w2⟩ (by simp only [Int.toNat_natCast]; omega)
        rw [← eq1, eq2]
        conv => rhs; rw [insOuter, if_pos c]
  · have c : ¬ i < b := by omega
    refine y h1 ?_ w1
    have : insOuter ltInt a b i e = e := by rw [insOuter, if_neg c]
    unfold insertionSort
    rw [← eq1, this]; exact x1
/-! siftDownOrdered, heapSortOrdered -/
theorem t_sift {lo hi first : Nat} (x : BufI h s d) (hb : first + hi ≤ d.size) (hlo : lo ≤ d.size) (hn : d.size ≤ 2 ^ 40) {K : Unit → H → Prop} (y : ∀ h', BufI h' s (siftDown ltInt hi first lo d) → Wrote s h h' → K () h') : m_slices_siftDownOrdered_int s (lo : Int) (hi : Int) (first : Int) K h := by
  unfold m_slices_siftDownOrdered_int
  refine w_loop (fun z => hi - z.toNat) (fun z h' => ∃ (r : Nat) (e : Array Int), z = (r : Int) ∧ r ≤ d.size ∧ e.size = d.size ∧ BufI h' s e ∧ siftDown ltInt hi first r e = siftDown ltInt hi first lo d ∧ Wrote s h h') ?_ ⟨lo, d, rfl, hlo, rfl, x, rfl, .refl _ _⟩
  rintro rec _ h1 ⟨r, e, rfl, hr, he, x1, eq1, w1⟩ more
  rw [im2 r (by omega), ia1 (2 * r) (by omega), ia1 (2 * r + 1) (by omega)]
  rw [siftDown] at eq1
  refine w_if' (fun c => ?_) fun c => ?_
  · have c : 2 * r + 1 ≥ hi := by omega
    rw [dif_pos c] at eq1
    exact y h1 (by rw [← eq1]; exact x1) w1
  have c : ¬ 2 * r + 1 ≥ hi := by omega
  rw [dif_neg c] at eq1
  rw [ia first (2 * r + 1) (by omega), ia1 (first + (2 * r + 1)) (by omega)]
  -- which child
  have rest : ∀ ch : Nat, 2 * r + 1 ≤ ch → ch < hi → (if (!ltInt e[first + r]! e[first + ch]!) = true then e else siftDown ltInt hi first ch (swp e (first + r) (first + ch))) = siftDown ltInt hi first lo d →
      (mIdx s (iAdd .i64 (first : Int) (r : Int)) 1 fun ad5 => mIdx s (iAdd .i64 (first : Int) (ch : Int)) 1 fun ad6 => mLoad (cInt .i64) ad5 fun x7 => mLoad (cInt .i64) ad6 fun x8 => mPure (m_cmp_Less_int x7 x8) fun r9 =>
        mIf (!r9) (K ()) (mIdx s (iAdd .i64 (first : Int) (ch : Int)) 1 fun ad10 => mIdx s (iAdd .i64 (first : Int) (r : Int)) 1 fun ad11 => mLoad (cInt .i64) ad10 fun x12 => mLoad (cInt .i64) ad11 fun x13 =>
          mIdx s (iAdd .i64 (first : Int) (r : Int)) 1 fun ad14 => mStore ad14 [Value.int .i64 x12] <| mIdx s (iAdd .i64 (first : Int) (ch : Int)) 1 fun ad15 => mStore ad15 [Value.int .i64 x13] <| rec (ch : Int))) h1 := fun ch h1c h2c q => by
    have e1 := ia first r (by omega)
    have e2 := ia first ch (by omega)
    rw [e1, e2]
    refine rdB x1 (i := first + r) (i' := first + ch) (by omega) (by omega) rfl rfl (w_less ?_)
    refine w_if (fun c2 => ?_) fun c2 => ?_
    · rw [if_pos c2] at q
      exact y h1 (by rw [← q]; exact x1) w1
    · rw [if_neg (by rw [c2]; simp)] at q
      refine w_swp x1 (i := first + r) (j := first + ch) (by omega) (by omega) rfl rfl fun h3 x3 w3 => ?_
      exact more _ _ ⟨ch, _, rfl, by omega, by rw [swp_size]; exact he, x3, q, w1.trans w3⟩ (by simp only [Int.toNat_natCast]; omega)
  refine w_joinP (fun z h' => h1 = h' ∧ ∃ ch : Nat, z = (ch : Int) ∧ 2 * r + 1 ≤ ch ∧ ch < hi ∧ (if (!ltInt e[first + r]! e[first + ch]!) = true then e else siftDown ltInt hi first ch (swp e (first + r) (first + ch))) = siftDown ltInt hi first lo d) (fun j hj => ?_) ?_
  · refine w_joinV (decide (2 * r + 1 + 1 < hi) && ltInt e[first + (2 * r + 1)]! e[first + (2 * r + 1) + 1]!) (fun k hk => w_if' (fun c2 => ?_) fun c2 => ?_) ?_
    · have c2 : 2 * r + 1 + 1 < hi := by omega
      refine rdB x1 (i := first + (2 * r + 1)) (i' := first + (2 * r + 1) + 1) (by omega) (by omega) rfl rfl (w_less ?_)
      rw [decide_eq_true c2, Bool.true_and] at hk
      exact hk
    · have c2 : ¬ 2 * r + 1 + 1 < hi := by omega
      rw [decide_eq_false c2, Bool.false_and] at hk
      exact hk
    · refine w_if (fun c2 => ?_) fun c2 => ?_
      · rw [if_pos c2] at eq1
        rw [Bool.and_eq_true, decide_eq_true_eq] at c2
        rw [dif_pos (show 2 * r + 2 < hi from c2.1)] at eq1
        exact hj _ _ ⟨rfl, 2 * r + 2, rfl, by omega, c2.1, eq1⟩
      · rw [if_neg (by rw [c2]; simp)] at eq1
        exact hj _ _ ⟨rfl, 2 * r + 1, rfl, by omega, by omega, eq1⟩
  · rintro _ _ ⟨rfl, ch, rfl, h1c, h2c, q⟩
    exact rest ch h1c h2c q
end
end Go.Proofs.Ytlnlmideghepnaa.K
