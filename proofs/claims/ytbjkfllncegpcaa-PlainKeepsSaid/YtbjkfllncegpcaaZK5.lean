/- plainKeeps: true at every input, the arguments as they were: no condition. Part 5 of 6. -/
import Derived.Test.YtbjkfllncegpcaaZK4
namespace Go.Proofs.Ytbjkfllncegpcaa.K
open Go Go.Sort
abbrev BufI (h : H) (s : Sl) (d : Array Int) : Prop := Buf (cInt .i64) 1 N_int h s d.toList
structure Wrote (s : Sl) (h h' : H) : Prop where
  but : But s.foot h h'
  dom : ∀ c, h' c = none → h c = none
theorem Wrote.refl (s : Sl) (h : H) : Wrote s h h := ⟨.refl _ _, fun _ e => e⟩
theorem Wrote.trans {s : Sl} {a b c : H} (x : Wrote s a b) (y : Wrote s b c) : Wrote s a c := ⟨x.but.trans y.but fun _ f => .inl f, fun n e => x.dom n (y.dom n e)⟩
section
variable {h : H} {s : Sl} {d : Array Int}
theorem get_bang {i : Nat} (hi : i < d.size) : d.toList[i]? = some d[i]! := by
  rw [Array.getElem?_toList, getElem!_pos d i hi, Array.getElem?_eq_getElem hi]
theorem rdB (x : BufI h s d) {i i' : Nat} (hi : i < d.size) (hi' : i' < d.size) {j j' : Int} (hj : j = i) (hj' : j' = i') {k : Int → Int → H → Prop} (y : k d[i]! d[i']! h) :
    mIdx s j 1 (fun a => mIdx s j' 1 fun a' => mLoad (cInt .i64) a fun x => mLoad (cInt .i64) a' fun x' => k x x') h :=
  w_idx ci_len x.arr (get_bang hi) hj fun _ _ h1 => w_idx ci_len x.arr (get_bang hi') hj' fun _ _ h2 => w_load h1 (w_load h2 y)
theorem w_swp (x : BufI h s d) {i j : Nat} (hi : i < d.size) (hj : j < d.size) {I J : Int} (eI : I = i) (eJ : J = j) {k : H → Prop} (y : ∀ h', BufI h' s (swp d i j) → Wrote s h h' → k h') :
    mIdx s J 1 (fun a => mIdx s I 1 fun a' => mLoad (cInt .i64) a fun x => mLoad (cInt .i64) a' fun x' => mIdx s I 1 fun b => mStore b [Value.int .i64 x] <| mIdx s J 1 fun b' => mStore b' [Value.int .i64 x'] k) h := by
  refine rdB x hj hi eJ eI ?_
  refine w_put ci_len x (i := i) (by simpa using hi) eI d[j]! rfl fun h1 x1 b1 d1 => ?_
  refine w_put ci_len x1 (i := j) (by simpa using hj) eJ d[i]! rfl fun h2 x2 b2 d2 => y h2 ?_ ⟨b1.trans b2 fun _ f => .inl f, fun c e => d1 c (d2 c e)⟩
  show Buf (cInt .i64) 1 N_int h2 s (swp d i j).toList
  unfold swp
  rw [Array.toList_setIfInBounds, Array.toList_setIfInBounds]
  exact x2
theorem w_less {x y : Int} {k : Bool → H → Prop} (z : k (ltInt x y) h) : mPure (m_cmp_Less_int x y) k h := by
  refine w_pure (ltInt x y) (fun h' k' q => ?_) z
  unfold m_cmp_Less_int
  refine w_pure false (fun h'' k'' q' => ?_) (w_ifF rfl q)
  unfold m_cmp_isNaN_int
  rw [decide_eq_true rfl]; exact q'
theorem insInner_stop {a j : Nat} {d : Array Int} (h : ¬ (a < j ∧ ltInt d[j]! d[j - 1]! = true)) : insInner ltInt a j d = d := by
  cases j with
  | zero => rfl
  | succ j =>
    unfold insInner
    rw [if_neg]
    intro q
    rw [Bool.and_eq_true, decide_eq_true_eq] at q
    exact h q
theorem insInner_go {a j : Nat} {d : Array Int} (h1 : a < j) (h2 : ltInt d[j]! d[j - 1]! = true) : insInner ltInt a j d = insInner ltInt a (j - 1) (swp d j (j - 1)) := by
  cases j with
  | zero => omega
  | succ j =>
    rw [insInner, if_pos]
    · rfl
    · rw [Bool.and_eq_true, decide_eq_true_eq]; exact ⟨h1, h2⟩
theorem t_insertion {a b : Nat} (x : BufI h s d) (hb : b ≤ d.size) (hn : d.size ≤ 2 ^ 40) {K : Unit → H → Prop} (y : ∀ h', BufI h' s (insertionSort ltInt d a b) → Wrote s h h' → K () h') (ha : a ≤ b) : m_slices_insertionSortOrdered_int s (a : Int) (b : Int) K h := by
  unfold m_slices_insertionSortOrdered_int
  rw [ia1 a (by omega)]
  refine w_loop (fun z => b - z.toNat) (fun z h' => ∃ (i : Nat) (e : Array Int), z = (i : Int) ∧ a + 1 ≤ i ∧ e.size = d.size ∧ BufI h' s e ∧ insOuter ltInt a b i e = insOuter ltInt a b (a + 1) d ∧ Wrote s h h') ?_ ⟨a + 1, d, rfl, Nat.le_refl _, rfl, x, rfl, .refl _ _⟩
  rintro rec _ h1 ⟨i, e, rfl, hi, he, x1, eq1, w1⟩ more
  refine w_if' (fun c => ?_) fun c => ?_
  · have c : i < b := by omega
    refine w_loop (fun z => z.toNat) (fun z h' => ∃ (j : Nat) (e' : Array Int), z = (j : Int) ∧ j ≤ i ∧ e'.size = d.size ∧ BufI h' s e' ∧ insInner ltInt a j e' = insInner ltInt a i e ∧ Wrote s h h') ?_ ⟨i, e, rfl, Nat.le_refl _, he, x1, rfl, w1⟩
    rintro rec2 _ h2 ⟨j, e', rfl, hj, he', x2, eq2, w2⟩ more2
    refine w_joinV (decide (a < j) && ltInt e'[j]! e'[j - 1]!) (fun k hk => w_if' (fun c2 => ?_) fun c2 => ?_) ?_
    · have c2 : a < j := by omega
      refine rdB x2 (i := j) (i' := j - 1) (by omega) (by omega) rfl (is1 j (by omega) (by omega)) (w_less ?_)
      rw [decide_eq_true c2, Bool.true_and] at hk
      exact hk
    · have c2 : ¬ a < j := by omega
      rw [decide_eq_false c2, Bool.false_and] at hk
      exact hk
    · refine w_if (fun c2 => ?_) fun c2 => ?_
      · rw [Bool.and_eq_true, decide_eq_true_eq] at c2
        rw [is1 j (by omega) (by omega)]
        refine w_swp x2 (i := j) (j := j - 1) (by omega) (by omega) rfl rfl fun h3 x3 w3 => ?_
        exact more2 _ _ ⟨j - 1, _, rfl, by omega, by rw [swp_size]; exact he', x3, by rw [← insInner_go c2.1 c2.2]; exact eq2, w2.trans w3⟩ (by omega)
      · have c2 : ¬ (a < j ∧ ltInt e'[j]! e'[j - 1]! = true) := by
          intro q
          rw [q.2, decide_eq_true q.1] at c2; cases c2
        rw [ia1 i (by omega)]
        rw [insInner_stop c2] at eq2
        refine more _ _ ⟨i + 1, e', rfl, by omega, he', x2, ?_, w2⟩ (by simp only [Int.toNat_natCast]; omega)
        rw [← eq1, eq2]
        conv => rhs; rw [insOuter, if_pos c]
  · have c : ¬ i < b := by omega
    refine y h1 ?_ w1
    have : insOuter ltInt a b i e = e := by rw [insOuter, if_neg c]
    unfold insertionSort
    rw [← eq1, this]; exact x1
theorem t_sift {lo hi first : Nat} (x : BufI h s d) (hb : first + hi ≤ d.size) (hlo : lo ≤ d.size) (hn : d.size ≤ 2 ^ 40) {K : Unit → H → Prop} (y : ∀ h', BufI h' s (siftDown ltInt hi first lo d) → Wrote s h h' → K () h') : m_slices_siftDownOrdered_int s (lo : Int) (hi : Int) (first : Int) K h := by
  unfold m_slices_siftDownOrdered_int
  refine w_loop (fun z => hi - z.toNat) (fun z h' => ∃ (r : Nat) (e : Array Int), z = (r : Int) ∧ r ≤ d.size ∧ e.size = d.size ∧ BufI h' s e ∧ siftDown ltInt hi first r e = siftDown ltInt hi first lo d ∧ Wrote s h h') ?_ ⟨lo, d, rfl, hlo, rfl, x, rfl, .refl _ _⟩
  rintro rec _ h1 ⟨r, e, rfl, hr, he, x1, eq1, w1⟩ more
  rw [im2 r (by omega), ia1 (2 * r) (by omega), ia1 (2 * r + 1) (by omega)]
  rw [siftDown] at eq1
  refine w_if' (fun c => ?_) fun c => ?_
  · have c : 2 * r + 1 ≥ hi := by omega
    rw [dif_pos c] at eq1
    exact y h1 (by rw [← eq1]; exact x1) w1
  have c : ¬ 2 * r + 1 ≥ hi := by omega
  rw [dif_neg c] at eq1
  rw [ia first (2 * r + 1) (by omega), ia1 (first + (2 * r + 1)) (by omega)]
  have rest : ∀ ch : Nat, 2 * r + 1 ≤ ch → ch < hi → (if (!ltInt e[first + r]! e[first + ch]!) = true then e else siftDown ltInt hi first ch (swp e (first + r) (first + ch))) = siftDown ltInt hi first lo d →
      (mIdx s (iAdd .i64 (first : Int) (r : Int)) 1 fun ad5 => mIdx s (iAdd .i64 (first : Int) (ch : Int)) 1 fun ad6 => mLoad (cInt .i64) ad5 fun x7 => mLoad (cInt .i64) ad6 fun x8 => mPure (m_cmp_Less_int x7 x8) fun r9 =>
        mIf (!r9) (K ()) (mIdx s (iAdd .i64 (first : Int) (ch : Int)) 1 fun ad10 => mIdx s (iAdd .i64 (first : Int) (r : Int)) 1 fun ad11 => mLoad (cInt .i64) ad10 fun x12 => mLoad (cInt .i64) ad11 fun x13 =>
          mIdx s (iAdd .i64 (first : Int) (r : Int)) 1 fun ad14 => mStore ad14 [Value.int .i64 x12] <| mIdx s (iAdd .i64 (first : Int) (ch : Int)) 1 fun ad15 => mStore ad15 [Value.int .i64 x13] <| rec (ch : Int))) h1 := fun ch h1c h2c q => by
    have e1 := ia first r (by omega)
    have e2 := ia first ch (by omega)
    rw [e1, e2]
    refine rdB x1 (i := first + r) (i' := first + ch) (by omega) (by omega) rfl rfl (w_less ?_)
    refine w_if (fun c2 => ?_) fun c2 => ?_
    · rw [if_pos c2] at q
      exact y h1 (by rw [← q]; exact x1) w1
    · rw [if_neg (by rw [c2]; simp)] at q
      refine w_swp x1 (i := first + r) (j := first + ch) (by omega) (by omega) rfl rfl fun h3 x3 w3 => ?_
      exact more _ _ ⟨ch, _, rfl, by omega, by rw [swp_size]; exact he, x3, q, w1.trans w3⟩ (by simp only [Int.toNat_natCast]; omega)
  refine w_joinP (fun z h' => h1 = h' ∧ ∃ ch : Nat, z = (ch : Int) ∧ 2 * r + 1 ≤ ch ∧ ch < hi ∧ (if (!ltInt e[first + r]! e[first + ch]!) = true then e else siftDown ltInt hi first ch (swp e (first + r) (first + ch))) = siftDown ltInt hi first lo d) (fun j hj => ?_) ?_
  · refine w_joinV (decide (2 * r + 1 + 1 < hi) && ltInt e[first + (2 * r + 1)]! e[first + (2 * r + 1) + 1]!) (fun k hk => w_if' (fun c2 => ?_) fun c2 => ?_) ?_
    · have c2 : 2 * r + 1 + 1 < hi := by omega
      refine rdB x1 (i := first + (2 * r + 1)) (i' := first + (2 * r + 1) + 1) (by omega) (by omega) rfl rfl (w_less ?_)
      rw [decide_eq_true c2, Bool.true_and] at hk
      exact hk
    · have c2 : ¬ 2 * r + 1 + 1 < hi := by omega
      rw [decide_eq_false c2, Bool.false_and] at hk
      exact hk
    · refine w_if (fun c2 => ?_) fun c2 => ?_
      · rw [if_pos c2] at eq1
        rw [Bool.and_eq_true, decide_eq_true_eq] at c2
        rw [dif_pos (show 2 * r + 2 < hi from c2.1)] at eq1
        exact hj _ _ ⟨rfl, 2 * r + 2, rfl, by omega, c2.1, eq1⟩
      · rw [if_neg (by rw [c2]; simp)] at eq1
        exact hj _ _ ⟨rfl, 2 * r + 1, rfl, by omega, by omega, eq1⟩
  · rintro _ _ ⟨rfl, ch, rfl, h1c, h2c, q⟩
    exact rest ch h1c h2c q
end
section
variable {h : H} {s : Sl} {d : Array Int}
theorem sift_size (hi first : Nat) : ∀ (m r : Nat) (e : Array Int), hi - r ≤ m → (siftDown ltInt hi first r e).size = e.size := by
  intro m
  induction m with
  | zero => intro r e hm; rw [siftDown, dif_pos (by omega)]
  | succ m ih =>
    intro r e hm
    rw [siftDown]
    by_cases c : 2 * r + 1 ≥ hi
    · rw [dif_pos c]
    rw [dif_neg c]
    split
    · split
      · rfl
      · split
        · rw [ih _ _ (by omega), swp_size]
        · rfl
    · split
      · rfl
      · rw [ih _ _ (by omega), swp_size]
theorem t_heapSort {a b : Nat} (x : BufI h s d) (hab : a ≤ b) (hb : b ≤ d.size) (hn : d.size ≤ 2 ^ 40) {K : Unit → H → Prop} (y : ∀ h', BufI h' s (heapSort ltInt d a b) → Wrote s h h' → K () h') : m_slices_heapSortOrdered_int s (a : Int) (b : Int) K h := by
  unfold m_slices_heapSortOrdered_int
  rw [is_ b a (by omega) hab]
  have e0 : iQuo .i64 (iSub .i64 ((b - a : Nat) : Int) 1) 2 = (((b - a - 1) / 2 + 1 : Nat) : Int) - 1 := by
    rw [iSub_eq (by omega) (by omega)]
    rcases Nat.eq_zero_or_pos (b - a) with q | q
    · rw [q]; rfl
    · rw [show ((b - a : Nat) : Int) - 1 = ((b - a - 1 : Nat) : Int) from by omega]
      refine (iq (b - a - 1) 2 (by omega)).trans ?_
      omega
  rw [e0]
  refine w_loop (fun z => (z + 1).toNat) (fun z h' => ∃ (k : Nat) (e : Array Int), z = (k : Int) - 1 ∧ k ≤ b - a + 1 ∧ e.size = d.size ∧ BufI h' s e ∧ heapBuild ltInt (b - a) a k e = heapBuild ltInt (b - a) a ((b - a - 1) / 2 + 1) d ∧ Wrote s h h') ?_ ⟨_, d, rfl, by omega, rfl, x, rfl, .refl _ _⟩
  rintro rec _ h1 ⟨k, e, rfl, hk, he, x1, eq1, w1⟩ more
  refine w_if' (fun c => ?_) fun c => ?_
  · obtain ⟨k, rfl⟩ : ∃ q, k = q + 1 := ⟨k - 1, by omega⟩
    rw [show ((k + 1 : Nat) : Int) - 1 = (k : Int) from by omega]
    refine t_sift x1 (by omega) (by omega) (by omega) fun h2 x2 w2 => ?_
    refine more _ _ ⟨k, _, by rw [iSub_eq (by omega) (by omega)], by omega, ?_, x2, ?_, w1.trans w2⟩ ?_
    · rw [sift_size _ _ _ _ _ (Nat.le_refl _)]; exact he
    · rw [← eq1]; rfl
    · rw [iSub_eq (by omega) (by omega)]; omega
  have hk0 : k = 0 := by omega
  subst hk0
  rw [show heapBuild ltInt (b - a) a 0 e = e from rfl] at eq1
  clear more rec c hk
  rw [iSub_eq (by omega) (by omega)]
  refine w_loop (fun z => (z + 1).toNat) (fun z h' => ∃ (k : Nat) (e' : Array Int), z = (k : Int) - 1 ∧ k ≤ b - a ∧ e'.size = d.size ∧ BufI h' s e' ∧ heapPop ltInt a k e' = heapPop ltInt a (b - a) e ∧ Wrote s h h') ?_ ⟨_, e, rfl, Nat.le_refl _, he, x1, rfl, w1⟩
  rintro rec _ h2 ⟨k, e', rfl, hk, he', x2, eq2, w2⟩ more
  refine w_if' (fun c => ?_) fun c => ?_
  · obtain ⟨k, rfl⟩ : ∃ q, k = q + 1 := ⟨k - 1, by omega⟩
    rw [show ((k + 1 : Nat) : Int) - 1 = (k : Int) from by omega]
    have ek := ia a k (by omega)
    rw [ek]
    refine w_swp x2 (i := a) (j := a + k) (by omega) (by omega) rfl rfl fun h3 x3 w3 => ?_
    refine t_sift (lo := 0) x3 (by rw [swp_size]; omega) (Nat.zero_le _) (by rw [swp_size]; omega) fun h4 x4 w4 => ?_
    refine more _ _ ⟨k, _, by rw [iSub_eq (by omega) (by omega)], by omega, ?_, x4, ?_, (w2.trans w3).trans w4⟩ ?_
    · rw [sift_size _ _ _ _ _ (Nat.le_refl _), swp_size]; exact he'
    · rw [← eq2]; rfl
    · rw [iSub_eq (by omega) (by omega)]; omega
  · have hk0 : k = 0 := by omega
    subst hk0
    refine y h2 ?_ w2
    unfold heapSort
    rw [← eq1, ← eq2]; exact x2
theorem t_reverse {a b : Nat} (x : BufI h s d) (hab : a < b) (hb : b ≤ d.size) (hn : d.size ≤ 2 ^ 40) {K : Unit → H → Prop} (y : ∀ h', BufI h' s (reverseRange d a b) → Wrote s h h' → K () h') : m_slices_reverseRangeOrdered_int s (a : Int) (b : Int) K h := by
  unfold m_slices_reverseRangeOrdered_int
  rw [is1 b (by omega) (by omega)]
  refine w_loop (fun z => (z.2 - z.1).toNat) (fun z h' => ∃ (i j : Nat) (e : Array Int), z = ((i : Int), (j : Int)) ∧ i < d.size ∧ j < d.size ∧ e.size = d.size ∧ BufI h' s e ∧ reverseLoop i j e = reverseLoop a (b - 1) d ∧ Wrote s h h') ?_ ⟨a, b - 1, d, rfl, by omega, by omega, rfl, x, rfl, .refl _ _⟩
  rintro rec _ h1 ⟨i, j, e, rfl, hi, hj, he, x1, eq1, w1⟩ more
  rw [reverseLoop] at eq1
  refine w_if' (fun c => ?_) fun c => ?_
  · have c : i < j := by have c : (i : Int) < (j : Int) := c; omega
    rw [if_pos c] at eq1
    refine w_swp x1 (i := i) (j := j) (by omega) (by omega) rfl rfl fun h2 x2 w2 => ?_
    show rec (iAdd .i64 (i : Int) 1, iSub .i64 (j : Int) 1) h2
    rw [ia1 i (by omega), is1 j (by omega) (by omega)]
    exact more _ _ ⟨i + 1, j - 1, _, rfl, by omega, by omega, by rw [swp_size]; exact he, x2, eq1, w1.trans w2⟩ (by show ((j - 1 : Nat) - (i + 1 : Nat) : Int).toNat < ((j : Int) - (i : Int)).toNat; omega)
  · have c : ¬ i < j := by have c : ¬ (i : Int) < (j : Int) := c; omega
    rw [if_neg c] at eq1
    refine y h1 ?_ w1
    unfold reverseRange
    rw [← eq1]; exact x1
def Cell1 (c0 : Nat) (h : H) : Prop := ∃ v : Int, h c0 = some (.cells #[Value.int .i64 v] N_int (0, 0))
theorem t_order2 {i j c0 : Nat} (x : BufI h s d) (hi : i < d.size) (hj : j < d.size) (hc : Cell1 c0 h) (nf : ¬ s.foot c0) {K : Int × Int → H → Prop}
    (y : ∀ p q h', (p = i ∧ q = j ∨ p = j ∧ q = i) → BufI h' s d → Cell1 c0 h' → But (· = c0) h h' → (∀ c, h' c = none → h c = none) → K ((p : Nat), (q : Nat)) h') : m_slices_order2Ordered_int s (i : Int) (j : Int) (some ⟨c0, 0, none⟩) K h := by
  unfold m_slices_order2Ordered_int
  obtain ⟨v, hv⟩ := hc
  refine rdB x hj hi rfl rfl (w_less (w_if (fun _ => ?_) fun _ => y i j h (.inl ⟨rfl, rfl⟩) x ⟨v, hv⟩ (.refl _ _) fun _ e => e))
  refine w_deref (w_load (At.own (l1 := []) (l2 := cInt .i64 v) (l3 := []) hv rfl) (w_deref (w_store (l1 := []) (l2 := cInt .i64 v) (l3 := []) rfl hv rfl rfl ?_)))
  exact y j i _ (.inr ⟨rfl, rfl⟩) (x.but (But.upd (F := (· = c0)) rfl) fun a ha e => nf ⟨a, ha, e⟩) ⟨_, upd_same _ _ _⟩ (But.upd rfl) fun c e => (upd_none.1 e).2
theorem t_median {i j k c0 : Nat} (x : BufI h s d) (hi : i < d.size) (hj : j < d.size) (hk : k < d.size) (hc : Cell1 c0 h) (nf : ¬ s.foot c0) {K : Int → H → Prop}
    (y : ∀ p h', (p = i ∨ p = j ∨ p = k) → BufI h' s d → Cell1 c0 h' → But (· = c0) h h' → (∀ c, h' c = none → h c = none) → K (p : Nat) h') : m_slices_medianOrdered_int s (i : Int) (j : Int) (k : Int) (some ⟨c0, 0, none⟩) K h := by
  unfold m_slices_medianOrdered_int
  refine t_order2 x hi hj hc nf fun p1 q1 h1 e1 x1 c1 b1 d1 => ?_
  refine t_order2 (i := q1) (j := k) x1 (by rcases e1 with ⟨rfl, rfl⟩ | ⟨rfl, rfl⟩ <;> assumption) hk c1 nf fun p2 q2 h2 e2 x2 c2 b2 d2 => ?_
  have hp2 : p2 < d.size := by rcases e1 with ⟨rfl, rfl⟩ | ⟨rfl, rfl⟩ <;> rcases e2 with ⟨rfl, rfl⟩ | ⟨rfl, rfl⟩ <;> assumption
  refine t_order2 (i := p1) (j := p2) x2 (by rcases e1 with ⟨rfl, rfl⟩ | ⟨rfl, rfl⟩ <;> assumption) hp2 c2 nf fun p3 q3 h3 e3 x3 c3 b3 d3 => ?_
  refine y q3 h3 ?_ x3 c3 ((b1.trans b2 fun _ f => .inl f).trans b3 fun _ f => .inl f) fun c e => d1 c (d2 c (d3 c e))
  rcases e1 with ⟨rfl, rfl⟩ | ⟨rfl, rfl⟩ <;> rcases e2 with ⟨rfl, rfl⟩ | ⟨rfl, rfl⟩ <;> rcases e3 with ⟨rfl, rfl⟩ | ⟨rfl, rfl⟩ <;> simp
theorem t_medianA {i c0 : Nat} (x : BufI h s d) (h1 : 1 ≤ i) (hi : i + 1 < d.size) (hn : d.size ≤ 2 ^ 40) (hc : Cell1 c0 h) (nf : ¬ s.foot c0) {K : Int → H → Prop}
    (y : ∀ p h', (i ≤ p + 1 ∧ p ≤ i + 1) → BufI h' s d → Cell1 c0 h' → But (· = c0) h h' → (∀ c, h' c = none → h c = none) → K (p : Nat) h') : m_slices_medianAdjacentOrdered_int s (i : Int) (some ⟨c0, 0, none⟩) K h := by
  unfold m_slices_medianAdjacentOrdered_int
  rw [is1 i (by omega) h1, ia1 i (by omega)]
  exact t_median x (by omega) (by omega) hi hc nf fun p h' e => y p h' (by omega)
theorem w_newQ {t : TypeId} {c : Array Value} {k : Addr → H → Prop} (Q : Nat → H → Prop) (hq : ∀ b, h b = none → Q b (upd h b (.cells c t (0, 0)))) (x : ∀ b h0, h b = none → Q b h0 → k ⟨b, 0, none⟩ h0) : mNew t c k h := fun b hb => x b _ hb (hq b hb)
theorem t_choosePivot {a b : Nat} (x : BufI h s d) (hab : a < b) (hb : b ≤ d.size) (hn : d.size ≤ 2 ^ 40) {K : Int × Int → H → Prop}
    (y : ∀ (p : Nat) (t : Int) h', a ≤ p → p < b → BufI h' s d → Keeps h h' → K ((p : Int), t) h') : m_slices_choosePivotOrdered_int s (a : Int) (b : Int) K h := by
  unfold m_slices_choosePivotOrdered_int
  refine w_newQ (fun c0 h0 => Cell1 c0 h0 ∧ Keeps h h0) (fun c0 hc0 => ⟨⟨0, upd_same _ _ _⟩, .new hc0⟩) fun c0 h0 hc0 ⟨cl0, k0⟩ => ?_
  have nf : ¬ s.foot c0 := fun f => by
    obtain ⟨A, hA, e⟩ := f
    rcases x.at_ with ⟨q, _⟩ | ⟨B, z, fz, q, hB, _⟩
    · rw [q] at hA; cases hA
    · rw [q] at hA; cases hA; subst e; rw [hc0] at hB; cases hB
  have x0 : BufI h0 s d := x.keep k0
  have kk : ∀ h', But (· = c0) h0 h' → Keeps h h' := fun h' q => k0.but q fun n e => by subst e; exact hc0
  have e8 : iSub .i64 (b : Int) (a : Int) = ((b - a : Nat) : Int) := is_ b a (by omega) (by omega)
  have q4 : (b - a) / 4 ≤ b - a := Nat.div_le_self _ _
  have e4 : iQuo .i64 ((b - a : Nat) : Int) 4 = (((b - a) / 4 : Nat) : Int) := iq (b - a) 4 (by omega)
  generalize hq : (b - a) / 4 = q at q4 e4
  have m1 : iMul .i64 (q : Int) 1 = ((q : Nat) : Int) := (i64_eq (x := (q : Int) * 1) (by omega) (by omega)).trans (by omega)
  have m2 : iMul .i64 (q : Int) 2 = ((q * 2 : Nat) : Int) := (i64_eq (x := (q : Int) * 2) (by omega) (by omega)).trans (by omega)
  have m3 : iMul .i64 (q : Int) 3 = ((q * 3 : Nat) : Int) := (i64_eq (x := (q : Int) * 3) (by omega) (by omega)).trans (by omega)
  rw [e8, e4, m1, m2, m3, ia a q (by omega), ia a (q * 2) (by omega), ia a (q * 3) (by omega)]
  refine w_joinP (fun z h' => ∃ p : Nat, z = (p : Int) ∧ a ≤ p ∧ p < b ∧ BufI h' s d ∧ Cell1 c0 h' ∧ But (· = c0) h0 h') (fun j hj => ?_) ?_
  · refine w_if' (fun c => ?_) fun c => ?_
    · have c : 8 ≤ b - a := by omega
      refine w_joinP (fun z h' => ∃ p1 p2 p3 : Nat, z = ((p1 : Int), (p2 : Int), (p3 : Int)) ∧ (a ≤ p1 ∧ p1 < b) ∧ (a ≤ p2 ∧ p2 < b) ∧ (a ≤ p3 ∧ p3 < b) ∧ BufI h' s d ∧ Cell1 c0 h' ∧ But (· = c0) h0 h') (fun j2 hj2 => ?_) ?_
      · refine w_if' (fun c2 => ?_) fun c2 => ?_
        · have c2 : 50 ≤ b - a := by omega
          refine t_medianA x0 (i := a + q) (by omega) (by omega) hn cl0 nf fun p1 h1 r1 x1 cl1 b1 _ => ?_
          refine t_medianA x1 (i := a + q * 2) (by omega) (by omega) hn cl1 nf fun p2 h2 r2 x2 cl2 b2 _ => ?_
          refine t_medianA x2 (i := a + q * 3) (by omega) (by omega) hn cl2 nf fun p3 h3 r3 x3 cl3 b3 _ => ?_
          exact hj2 _ _ ⟨p1, p2, p3, rfl, by omega, by omega, by omega, x3, cl3, (b1.trans b2 fun _ f => .inl f).trans b3 fun _ f => .inl f⟩
        · exact hj2 _ _ ⟨a + q, a + q * 2, a + q * 3, rfl, by omega, by omega, by omega, x0, cl0, .refl _ _⟩
      · rintro _ h1 ⟨p1, p2, p3, rfl, r1, r2, r3, x1, cl1, b1⟩
        refine t_median x1 (i := p1) (j := p2) (k := p3) (by omega) (by omega) (by omega) cl1 nf fun p h2 e2 x2 cl2 b2 _ => ?_
        exact hj _ _ ⟨p, rfl, by omega, by omega, x2, cl2, b1.trans b2 fun _ f => .inl f⟩
    · have c : ¬ 8 ≤ b - a := by omega
      exact hj _ _ ⟨a + q * 2, rfl, by omega, by omega, x0, cl0, .refl _ _⟩
  · rintro _ h1 ⟨p, rfl, r1, r2, x1, ⟨v, hv⟩, b1⟩
    refine w_load (At.own (l1 := []) (l2 := cInt .i64 v) (l3 := []) hv rfl) ?_
    have fin : ∀ t : Int, K ((p : Int), t) h1 := fun t => y p t h1 r1 r2 x1 (kk h1 b1)
    exact w_if (fun _ => fin 1) fun _ => w_if (fun _ => fin 2) fun _ => fin 0
end
section
variable {h : H} {s : Sl} {d : Array Int}
theorem shiftDown_go {j : Nat} {d : Array Int} (h1 : 1 ≤ j) (h2 : ltInt d[j]! d[j - 1]! = true) : shiftDown ltInt j d = shiftDown ltInt (j - 1) (swp d j (j - 1)) := by
  cases j with
  | zero => omega
  | succ j =>
    rw [shiftDown, if_neg]
    · rfl
    · have h2 : ltInt d[j + 1]! d[j]! = true := h2
      rw [h2]; simp
theorem shiftDown_stop {j : Nat} {d : Array Int} (h2 : j = 0 ∨ ltInt d[j]! d[j - 1]! = false) : shiftDown ltInt j d = d := by
  cases j with
  | zero => rfl
  | succ j =>
    rw [shiftDown, if_pos]
    rcases h2 with q | q
    · omega
    · have q : ltInt d[j + 1]! d[j]! = false := q
      rw [q]; rfl
theorem t_partialIns {a b : Nat} (x : BufI h s d) (hab : a < b) (hb : b ≤ d.size) (hn : d.size ≤ 2 ^ 40) {K : Bool → H → Prop} (y : ∀ h', BufI h' s (partialInsertionSort ltInt d a b).1 → Wrote s h h' → K (partialInsertionSort ltInt d a b).2 h') : m_slices_partialInsertionSortOrdered_int s (a : Int) (b : Int) K h := by
  unfold m_slices_partialInsertionSortOrdered_int
  rw [ia1 a (by omega), is_ b a (by omega) (by omega)]
  unfold partialInsertionSort at y
  refine w_loop (fun z => 5 - z.2.toNat) (fun z h' => ∃ (i t : Nat) (e : Array Int), z = ((i : Int), ((5 - t : Nat) : Int)) ∧ t ≤ 5 ∧ a < i ∧ i ≤ b ∧ e.size = d.size ∧ BufI h' s e ∧ partialIns ltInt a b t i e = partialIns ltInt a b 5 (a + 1) d ∧ Wrote s h h') ?_ ⟨a + 1, 5, d, rfl, Nat.le_refl _, by omega, hab, rfl, x, rfl, .refl _ _⟩
  rintro rec _ h1 ⟨i, t, e, rfl, ht, hai, hib, he, x1, eq1, w1⟩ more
  refine w_if' (fun c => ?_) fun c => ?_
  · have c : ((5 - t : Nat) : Int) < 5 := c
    obtain ⟨t, rfl⟩ : ∃ q, t = q + 1 := ⟨t - 1, by omega⟩
    rw [partialIns_succ] at eq1
    refine w_loop (fun z => b - z.toNat) (fun z h' => h1 = h' ∧ ∃ i' : Nat, z = (i' : Int) ∧ a < i' ∧ i' ≤ b ∧ scanSorted ltInt e b i' = scanSorted ltInt e b i) ?_ ⟨rfl, i, rfl, hai, hib, rfl⟩
    rintro rec2 _ _ ⟨rfl, k, rfl, hak, hkb, eqs⟩ more2
    refine w_joinV (decide (k < b) && !ltInt e[k]! e[k - 1]!) (fun j hj => w_if' (fun c2 => ?_) fun c2 => ?_) ?_
    · have c2 : k < b := by omega
      refine rdB x1 (i := k) (i' := k - 1) (by omega) (by omega) rfl (is1 k (by omega) (by omega)) (w_less ?_)
      rw [decide_eq_true c2, Bool.true_and] at hj
      exact hj
    · have c2 : ¬ k < b := by omega
      rw [decide_eq_false c2, Bool.false_and] at hj
      exact hj
    · rw [scanSorted] at eqs
      refine w_if (fun c2 => ?_) fun c2 => ?_
      · rw [if_pos c2] at eqs
        rw [Bool.and_eq_true, decide_eq_true_eq] at c2
        rw [ia1 k (by omega)]
        exact more2 _ _ ⟨rfl, k + 1, rfl, by omega, by omega, eqs⟩ (by simp only [Int.toNat_natCast]; omega)
      · rw [if_neg (by rw [c2]; simp)] at eqs
        rw [← eqs] at eq1
        clear more2 rec2 c2 eqs
        refine w_if' (fun c3 => ?_) fun c3 => ?_
        · have c3 : k = b := by omega
          rw [if_pos c3] at eq1
          rw [← eq1] at y
          exact y h1 x1 w1
        have c3 : ¬ k = b := by omega
        rw [if_neg c3] at eq1
        refine w_if' (fun c4 => ?_) fun c4 => ?_
        · have c4 : b - a < 50 := by omega
          rw [if_pos c4] at eq1
          rw [← eq1] at y
          exact y h1 x1 w1
        have c4 : ¬ b - a < 50 := by omega
        rw [if_neg c4] at eq1
        rw [is1 k (by omega) (by omega)]
        refine w_swp x1 (i := k) (j := k - 1) (by omega) (by omega) rfl rfl fun h2 x2 w2 => ?_
        have he2 : (swp e k (k - 1)).size = d.size := by rw [swp_size]; exact he
        have w12 := w1.trans w2
        generalize swp e k (k - 1) = e2 at eq1 x2 he2
        clear x1 w1 w2
        rw [is_ b k (by omega) hkb, is_ k a (by omega) (by omega), ia1 k (by omega)]
        have fin : ∀ (e3 : Array Int) (h3 : H), e3.size = d.size → BufI h3 s e3 → Wrote s h h3 → partialIns ltInt a b t k e3 = partialIns ltInt a b 5 (a + 1) d → rec ((k : Int), iAdd .i64 ((5 - (t + 1) : Nat) : Int) 1) h3 := fun e3 h3 z1 z2 z3 z4 => by
          have e5 : iAdd .i64 ((5 - (t + 1) : Nat) : Int) 1 = ((5 - t : Nat) : Int) := by rw [iAdd_eq (by omega) (by omega)]; omega
          rw [e5]
          exact more _ _ ⟨k, t, e3, rfl, by omega, hak, hkb, z1, z2, z4, z3⟩ (by show 5 - ((5 - t : Nat) : Int).toNat < 5 - ((5 - (t + 1) : Nat) : Int).toNat; omega)
        refine w_joinP (fun _ h' => ∃ e3 : Array Int, e3.size = d.size ∧ BufI h' s e3 ∧ fixDown ltInt a k e2 = e3 ∧ Wrote s h h') (fun j hj => ?_) ?_
        · unfold fixDown at hj
          refine w_if' (fun c5 => ?_) fun c5 => ?_
          · have c5 : k - a ≥ 2 := by omega
            simp only [if_pos c5] at hj
            refine w_loop (fun z => z.toNat) (fun z h' => ∃ (q : Nat) (e3 : Array Int), z = (q : Int) ∧ q < d.size ∧ e3.size = d.size ∧ BufI h' s e3 ∧ shiftDown ltInt q e3 = shiftDown ltInt (k - 1) e2 ∧ Wrote s h h') ?_ ⟨k - 1, e2, rfl, by omega, he2, x2, rfl, w12⟩
            rintro rec3 _ h3 ⟨q, e3, rfl, hq, he3, x3, eq3, w3⟩ more3
            refine w_if' (fun c6 => ?_) fun c6 => ?_
            · have c6 : 1 ≤ q := by omega
              rw [is1 q (by omega) (by omega)]
              refine rdB x3 (i := q) (i' := q - 1) (by omega) (by omega) rfl rfl (w_less (w_if (fun c7 => ?_) fun c7 => ?_))
              · rw [Bool.not_eq_true'] at c7
                rw [shiftDown_stop (.inr c7)] at eq3
                exact hj () h3 ⟨e3, he3, x3, eq3.symm, w3⟩
              · rw [Bool.not_eq_false'] at c7
                rw [shiftDown_go c6 c7] at eq3
                refine w_swp x3 (i := q) (j := q - 1) (by omega) (by omega) rfl rfl fun h4 x4 w4 => ?_
                exact more3 _ _ ⟨q - 1, _, rfl, by omega, by rw [swp_size]; exact he3, x4, eq3, w3.trans w4⟩ (by omega)
            · have c6 : q = 0 := by omega
              rw [shiftDown_stop (.inl c6)] at eq3
              exact hj () h3 ⟨e3, he3, x3, eq3.symm, w3⟩
          · have c5 : ¬ k - a ≥ 2 := by omega
            simp only [if_neg c5] at hj
            exact hj () h2 ⟨e2, he2, x2, rfl, w12⟩
        · rintro _ h3 ⟨e3, he3, x3, eq3, w3⟩
          rw [eq3] at eq1
          unfold fixUp at eq1
          refine w_if' (fun c5 => ?_) fun c5 => ?_
          · have c5 : b - k ≥ 2 := by omega
            rw [if_pos c5] at eq1
            refine w_loop (fun z => b - z.toNat) (fun z h' => ∃ (q : Nat) (e4 : Array Int), z = (q : Int) ∧ k < q ∧ q ≤ b ∧ e4.size = d.size ∧ BufI h' s e4 ∧ shiftUp ltInt b q e4 = shiftUp ltInt b (k + 1) e3 ∧ Wrote s h h') ?_ ⟨k + 1, e3, rfl, by omega, by omega, he3, x3, rfl, w3⟩
            rintro rec3 _ h4 ⟨q, e4, rfl, hkq, hq, he4, x4, eq4, w4⟩ more3
            rw [shiftUp] at eq4
            refine w_if' (fun c6 => ?_) fun c6 => ?_
            · have c6 : q < b := by omega
              rw [if_pos c6] at eq4
              rw [is1 q (by omega) (by omega)]
              refine rdB x4 (i := q) (i' := q - 1) (by omega) (by omega) rfl rfl (w_less (w_if (fun c7 => ?_) fun c7 => ?_))
              · rw [if_pos c7] at eq4
                exact fin e4 h4 he4 x4 w4 (by rw [eq4]; exact eq1)
              · rw [if_neg (by rw [c7]; simp)] at eq4
                refine w_swp x4 (i := q) (j := q - 1) (by omega) (by omega) rfl rfl fun h5 x5 w5 => ?_
                rw [ia1 q (by omega)]
                exact more3 _ _ ⟨q + 1, _, rfl, by omega, by omega, by rw [swp_size]; exact he4, x5, eq4, w4.trans w5⟩ (by simp only [Int.toNat_natCast]; omega)
            · have c6 : ¬ q < b := by omega
              rw [if_neg c6] at eq4
              exact fin e4 h4 he4 x4 w4 (by rw [eq4]; exact eq1)
          · have c5 : ¬ b - k ≥ 2 := by omega
            rw [if_neg c5] at eq1
            exact fin e3 h3 he3 x3 w3 eq1
  · have c : ¬ ((5 - t : Nat) : Int) < 5 := c
    have ht0 : t = 0 := by omega
    subst ht0
    rw [show partialIns ltInt a b 0 i e = (e, false) from rfl] at eq1
    rw [← eq1] at y
    exact y h1 x1 w1
theorem scanDown_go {p : Int → Bool} {d : Array Int} {i j : Nat} (h0 : 1 ≤ i) (h : i ≤ j) (hp : p d[j]! = true) : scanDown p d i j = scanDown p d i (j - 1) := by
  cases j with
  | zero => omega
  | succ j =>
    rw [scanDown, if_pos]
    · rfl
    · rw [Bool.and_eq_true, decide_eq_true_eq]; exact ⟨h, hp⟩
theorem scanDown_stop {p : Int → Bool} {d : Array Int} {i j : Nat} (h : ¬ (i ≤ j ∧ p d[j]! = true)) : scanDown p d i j = j := by
  cases j with
  | zero => rfl
  | succ j =>
    rw [scanDown, if_neg]
    intro q
    rw [Bool.and_eq_true, decide_eq_true_eq] at q
    exact h q
theorem t_partEq {a b p : Nat} (x : BufI h s d) (hap : a ≤ p) (hpb : p < b) (hb : b ≤ d.size) (hn : d.size ≤ 2 ^ 40) {K : Int → H → Prop} (y : ∀ h', BufI h' s (partitionEqual ltInt d a b p).2 → Wrote s h h' → K (((partitionEqual ltInt d a b p).1 : Nat) : Int) h') : m_slices_partitionEqualOrdered_int s (a : Int) (b : Int) (p : Int) K h := by
  unfold m_slices_partitionEqualOrdered_int
  unfold partitionEqual at y
  refine w_swp x (i := a) (j := p) (by omega) (by omega) rfl rfl fun h0 x0 w0 => ?_
  have hs0 : (swp d a p).size = d.size := swp_size _ _ _
  generalize swp d a p = d0 at x0 y hs0
  rw [ia1 a (by omega), is1 b (by omega) (by omega)]
  refine w_loop (fun z => (z.2 + 1 - z.1).toNat) (fun z h' => ∃ (i j : Nat) (e : Array Int), z = ((i : Int), (j : Int)) ∧ a < i ∧ i ≤ j + 2 ∧ j < b ∧ e.size = d.size ∧ BufI h' s e ∧ partEqLoop ltInt a i j e = partEqLoop ltInt a (a + 1) (b - 1) d0 ∧ Wrote s h h') ?_ ⟨a + 1, b - 1, d0, rfl, by omega, by omega, by omega, hs0, x0, rfl, w0⟩
  rintro rec _ h1 ⟨i, j, e, rfl, hi, hij, hj, he, x1, eq1, w1⟩ more
  refine w_loop (fun z => j + 1 - z.toNat) (fun z h' => h1 = h' ∧ ∃ i' : Nat, z = (i' : Int) ∧ i ≤ i' ∧ i' ≤ max i (j + 1) ∧ scanUp (fun x => !ltInt e[a]! x) e j i' = scanUp (fun x => !ltInt e[a]! x) e j i) ?_ ⟨rfl, i, rfl, Nat.le_refl _, Nat.le_max_left _ _, rfl⟩
  rintro rec2 _ _ ⟨rfl, k, rfl, hik, hkj, eqs⟩ more2
  refine w_joinV (decide (k ≤ j) && !ltInt e[a]! e[k]!) (fun c hc => w_if' (fun c2 => ?_) fun c2 => ?_) ?_
  · have c2 : (k : Int) ≤ (j : Int) := c2
    have c2 : k ≤ j := by omega
    refine rdB x1 (i := a) (i' := k) (by omega) (by omega) rfl rfl (w_less ?_)
    rw [decide_eq_true c2, Bool.true_and] at hc
    exact hc
  · have c2 : ¬ (k : Int) ≤ (j : Int) := c2
    have c2 : ¬ k ≤ j := by omega
    rw [decide_eq_false c2, Bool.false_and] at hc
    exact hc
  rw [scanUp] at eqs
  refine w_if (fun c2 => ?_) fun c2 => ?_
  · rw [if_pos c2] at eqs
    rw [Bool.and_eq_true, decide_eq_true_eq] at c2
    rw [ia1 k (by omega)]
    exact more2 _ _ ⟨rfl, k + 1, rfl, by omega, by omega, eqs⟩ (by simp only [Int.toNat_natCast]; omega)
  rw [if_neg (by rw [c2]; simp)] at eqs
  clear more2 rec2 c2
  rw [partEqLoop, ← eqs] at eq1
  refine w_loop (fun z => z.toNat) (fun z h' => h1 = h' ∧ ∃ j' : Nat, z = (j' : Int) ∧ j' ≤ j ∧ min j (k - 1) ≤ j' ∧ scanDown (fun x => ltInt e[a]! x) e k j' = scanDown (fun x => ltInt e[a]! x) e k j) ?_ ⟨rfl, j, rfl, Nat.le_refl _, Nat.min_le_left _ _, rfl⟩
  rintro rec3 _ _ ⟨rfl, l, rfl, hlj, hlk, eqd⟩ more3
  refine w_joinV (decide (k ≤ l) && ltInt e[a]! e[l]!) (fun c hc => w_if' (fun c2 => ?_) fun c2 => ?_) ?_
  · have c2 : k ≤ l := by omega
    refine rdB x1 (i := a) (i' := l) (by omega) (by omega) rfl rfl (w_less ?_)
    rw [decide_eq_true c2, Bool.true_and] at hc
    exact hc
  · have c2 : ¬ k ≤ l := by omega
    rw [decide_eq_false c2, Bool.false_and] at hc
    exact hc
  refine w_if (fun c2 => ?_) fun c2 => ?_
  · rw [Bool.and_eq_true, decide_eq_true_eq] at c2
    rw [scanDown_go (by omega) c2.1 c2.2] at eqd
    rw [is1 l (by omega) (by omega)]
    exact more3 _ _ ⟨rfl, l - 1, rfl, by omega, by omega, eqd⟩ (by omega)
  have c2 : ¬ (k ≤ l ∧ ltInt e[a]! e[l]! = true) := fun q => by rw [q.2, decide_eq_true q.1] at c2; cases c2
  rw [scanDown_stop c2] at eqd
  rw [← eqd] at eq1
  clear more3 rec3
  refine w_if' (fun c3 => ?_) fun c3 => ?_
  · have c3 : k > l := by omega
    rw [if_pos c3] at eq1
    rw [← eq1] at y
    exact y h1 x1 w1
  have c3 : ¬ k > l := by omega
  rw [if_neg c3, dif_pos (by omega)] at eq1
  refine w_swp x1 (i := k) (j := l) (by omega) (by omega) rfl rfl fun h2 x2 w2 => ?_
  rw [ia1 k (by omega), is1 l (by omega) (by omega)]
  exact more _ _ ⟨k + 1, l - 1, _, rfl, by omega, by omega, by omega, by rw [swp_size]; exact he, x2, eq1, w1.trans w2⟩ (by show (((l - 1 : Nat) : Int) + 1 - ((k + 1 : Nat) : Int)).toNat < ((j : Int) + 1 - (i : Int)).toNat; omega)
end
section
variable {h : H} {s : Sl} {d : Array Int}
theorem t_partition {a b p : Nat} (x : BufI h s d) (hap : a ≤ p) (hpb : p < b) (hb : b ≤ d.size) (hn : d.size ≤ 2 ^ 40) {K : Int × Bool → H → Prop}
    (y : ∀ h', BufI h' s (partition ltInt d a b p).2.2 → Wrote s h h' → K ((((partition ltInt d a b p).1 : Nat) : Int), (partition ltInt d a b p).2.1) h') : m_slices_partitionOrdered_int s (a : Int) (b : Int) (p : Int) K h := by
  unfold m_slices_partitionOrdered_int
  refine w_swp x (i := a) (j := p) (by omega) (by omega) rfl rfl fun h0 x0 w0 => ?_
  have hs0 : (swp d a p).size = d.size := swp_size _ _ _
  have hP : partition ltInt d a b p = (if scanUp (fun x => ltInt x (swp d a p)[a]!) (swp d a p) (b - 1) (a + 1) > scanDown (fun x => !ltInt x (swp d a p)[a]!) (swp d a p) (scanUp (fun x => ltInt x (swp d a p)[a]!) (swp d a p) (b - 1) (a + 1)) (b - 1) then
      (scanDown (fun x => !ltInt x (swp d a p)[a]!) (swp d a p) (scanUp (fun x => ltInt x (swp d a p)[a]!) (swp d a p) (b - 1) (a + 1)) (b - 1), true, swp (swp d a p) (scanDown (fun x => !ltInt x (swp d a p)[a]!) (swp d a p) (scanUp (fun x => ltInt x (swp d a p)[a]!) (swp d a p) (b - 1) (a + 1)) (b - 1)) a) else
      ((partLoop ltInt a (scanUp (fun x => ltInt x (swp d a p)[a]!) (swp d a p) (b - 1) (a + 1) + 1) (scanDown (fun x => !ltInt x (swp d a p)[a]!) (swp d a p) (scanUp (fun x => ltInt x (swp d a p)[a]!) (swp d a p) (b - 1) (a + 1)) (b - 1) - 1) (swp (swp d a p) (scanUp (fun x => ltInt x (swp d a p)[a]!) (swp d a p) (b - 1) (a + 1)) (scanDown (fun x => !ltInt x (swp d a p)[a]!) (swp d a p) (scanUp (fun x => ltInt x (swp d a p)[a]!) (swp d a p) (b - 1) (a + 1)) (b - 1)))).1, false,
        swp (partLoop ltInt a (scanUp (fun x => ltInt x (swp d a p)[a]!) (swp d a p) (b - 1) (a + 1) + 1) (scanDown (fun x => !ltInt x (swp d a p)[a]!) (swp d a p) (scanUp (fun x => ltInt x (swp d a p)[a]!) (swp d a p) (b - 1) (a + 1)) (b - 1) - 1) (swp (swp d a p) (scanUp (fun x => ltInt x (swp d a p)[a]!) (swp d a p) (b - 1) (a + 1)) (scanDown (fun x => !ltInt x (swp d a p)[a]!) (swp d a p) (scanUp (fun x => ltInt x (swp d a p)[a]!) (swp d a p) (b - 1) (a + 1)) (b - 1)))).2
          (partLoop ltInt a (scanUp (fun x => ltInt x (swp d a p)[a]!) (swp d a p) (b - 1) (a + 1) + 1) (scanDown (fun x => !ltInt x (swp d a p)[a]!) (swp d a p) (scanUp (fun x => ltInt x (swp d a p)[a]!) (swp d a p) (b - 1) (a + 1)) (b - 1) - 1) (swp (swp d a p) (scanUp (fun x => ltInt x (swp d a p)[a]!) (swp d a p) (b - 1) (a + 1)) (scanDown (fun x => !ltInt x (swp d a p)[a]!) (swp d a p) (scanUp (fun x => ltInt x (swp d a p)[a]!) (swp d a p) (b - 1) (a + 1)) (b - 1)))).1 a)) := rfl
  rw [hP] at y
  clear hP
  generalize swp d a p = d0 at x0 y hs0
  rw [ia1 a (by omega), is1 b (by omega) (by omega)]
  refine w_loop (fun z => b - z.toNat) (fun z h' => h0 = h' ∧ ∃ i : Nat, z = (i : Int) ∧ a + 1 ≤ i ∧ i ≤ b ∧ scanUp (fun x => ltInt x d0[a]!) d0 (b - 1) i = scanUp (fun x => ltInt x d0[a]!) d0 (b - 1) (a + 1)) ?_ ⟨rfl, a + 1, rfl, Nat.le_refl _, by omega, rfl⟩
  rintro rec _ _ ⟨rfl, k, rfl, hak, hkb, eqs⟩ more
  refine w_joinV (decide (k ≤ b - 1) && ltInt d0[k]! d0[a]!) (fun c hc => w_if' (fun c2 => ?_) fun c2 => ?_) ?_
  · have c2 : k ≤ b - 1 := by omega
    refine rdB x0 (i := k) (i' := a) (by omega) (by omega) rfl rfl (w_less ?_)
    rw [decide_eq_true c2, Bool.true_and] at hc
    exact hc
  · have c2 : ¬ k ≤ b - 1 := by omega
    rw [decide_eq_false c2, Bool.false_and] at hc
    exact hc
  rw [scanUp] at eqs
  refine w_if (fun c2 => ?_) fun c2 => ?_
  · rw [if_pos c2] at eqs
    rw [Bool.and_eq_true, decide_eq_true_eq] at c2
    rw [ia1 k (by omega)]
    exact more _ _ ⟨rfl, k + 1, rfl, by omega, by omega, eqs⟩ (by simp only [Int.toNat_natCast]; omega)
  rw [if_neg (by rw [c2]; simp)] at eqs
  rw [← eqs] at y
  clear more rec c2 eqs
  refine w_loop (fun z => z.toNat) (fun z h' => h0 = h' ∧ ∃ j : Nat, z = (j : Int) ∧ j ≤ b - 1 ∧ min (b - 1) (k - 1) ≤ j ∧ scanDown (fun x => !ltInt x d0[a]!) d0 k j = scanDown (fun x => !ltInt x d0[a]!) d0 k (b - 1)) ?_ ⟨rfl, b - 1, rfl, Nat.le_refl _, Nat.min_le_left _ _, rfl⟩
  rintro rec _ _ ⟨rfl, l, rfl, hlb, hlk, eqd⟩ more
  refine w_joinV (decide (k ≤ l) && !ltInt d0[l]! d0[a]!) (fun c hc => w_if' (fun c2 => ?_) fun c2 => ?_) ?_
  · have c2 : k ≤ l := by omega
    refine rdB x0 (i := l) (i' := a) (by omega) (by omega) rfl rfl (w_less ?_)
    rw [decide_eq_true c2, Bool.true_and] at hc
    exact hc
  · have c2 : ¬ k ≤ l := by omega
    rw [decide_eq_false c2, Bool.false_and] at hc
    exact hc
  refine w_if (fun c2 => ?_) fun c2 => ?_
  · rw [Bool.and_eq_true, decide_eq_true_eq] at c2
    rw [scanDown_go (by omega) c2.1 c2.2] at eqd
    rw [is1 l (by omega) (by omega)]
    exact more _ _ ⟨rfl, l - 1, rfl, by omega, by omega, eqd⟩ (by omega)
  have c2 : ¬ (k ≤ l ∧ (!ltInt d0[l]! d0[a]!) = true) := fun q => by rw [q.2, decide_eq_true q.1] at c2; cases c2
  rw [scanDown_stop c2] at eqd
  rw [← eqd] at y
  clear more rec eqd c2
  refine w_if' (fun c3 => ?_) fun c3 => ?_
  · have c3 : k > l := by omega
    rw [if_pos c3] at y
    refine w_swp x0 (i := l) (j := a) (by omega) (by omega) rfl rfl fun h2 x2 w2 => ?_
    exact y h2 x2 (w0.trans w2)
  have c3 : ¬ k > l := by omega
  rw [if_neg c3] at y
  refine w_swp x0 (i := k) (j := l) (by omega) (by omega) rfl rfl fun h2 x2 w2 => ?_
  have hs2 : (swp d0 k l).size = d.size := by rw [swp_size]; exact hs0
  have w02 := w0.trans w2
  generalize swp d0 k l = d2 at x2 y hs2
  clear x0 w0 w2 hs0
  rw [ia1 k (by omega), is1 l (by omega) (by omega)]
  refine w_loop (fun z => (z.2 + 1 - z.1).toNat) (fun z h' => ∃ (i j : Nat) (e : Array Int), z = ((i : Int), (j : Int)) ∧ a < i ∧ i ≤ j + 2 ∧ j < b ∧ a ≤ j ∧ e.size = d.size ∧ BufI h' s e ∧ partLoop ltInt a i j e = partLoop ltInt a (k + 1) (l - 1) d2 ∧ Wrote s h h') ?_ ⟨k + 1, l - 1, d2, rfl, by omega, by omega, by omega, by omega, hs2, x2, rfl, w02⟩
  rintro rec _ h1 ⟨i, j, e, rfl, hi, hij, hj, haj, he, x1, eq1, w1⟩ more
  refine w_loop (fun z => j + 1 - z.toNat) (fun z h' => h1 = h' ∧ ∃ i' : Nat, z = (i' : Int) ∧ i ≤ i' ∧ i' ≤ max i (j + 1) ∧ scanUp (fun x => ltInt x e[a]!) e j i' = scanUp (fun x => ltInt x e[a]!) e j i) ?_ ⟨rfl, i, rfl, Nat.le_refl _, Nat.le_max_left _ _, rfl⟩
  rintro rec2 _ _ ⟨rfl, k2, rfl, hik, hkj, eqs⟩ more2
  refine w_joinV (decide (k2 ≤ j) && ltInt e[k2]! e[a]!) (fun c hc => w_if' (fun c2 => ?_) fun c2 => ?_) ?_
  · have c2 : (k2 : Int) ≤ (j : Int) := c2
    have c2 : k2 ≤ j := by omega
    refine rdB x1 (i := k2) (i' := a) (by omega) (by omega) rfl rfl (w_less ?_)
    rw [decide_eq_true c2, Bool.true_and] at hc
    exact hc
  · have c2 : ¬ (k2 : Int) ≤ (j : Int) := c2
    have c2 : ¬ k2 ≤ j := by omega
    rw [decide_eq_false c2, Bool.false_and] at hc
    exact hc
  rw [scanUp] at eqs
  refine w_if (fun c2 => ?_) fun c2 => ?_
  · rw [if_pos c2] at eqs
    rw [Bool.and_eq_true, decide_eq_true_eq] at c2
    rw [ia1 k2 (by omega)]
    exact more2 _ _ ⟨rfl, k2 + 1, rfl, by omega, by omega, eqs⟩ (by simp only [Int.toNat_natCast]; omega)
  rw [if_neg (by rw [c2]; simp)] at eqs
  clear more2 rec2 c2
  rw [partLoop, ← eqs] at eq1
  refine w_loop (fun z => z.toNat) (fun z h' => h1 = h' ∧ ∃ j' : Nat, z = (j' : Int) ∧ j' ≤ j ∧ min j (k2 - 1) ≤ j' ∧ scanDown (fun x => !ltInt x e[a]!) e k2 j' = scanDown (fun x => !ltInt x e[a]!) e k2 j) ?_ ⟨rfl, j, rfl, Nat.le_refl _, Nat.min_le_left _ _, rfl⟩
  rintro rec3 _ _ ⟨rfl, l2, rfl, hlj, hlk2, eqd⟩ more3
  refine w_joinV (decide (k2 ≤ l2) && !ltInt e[l2]! e[a]!) (fun c hc => w_if' (fun c2 => ?_) fun c2 => ?_) ?_
  · have c2 : k2 ≤ l2 := by omega
    refine rdB x1 (i := l2) (i' := a) (by omega) (by omega) rfl rfl (w_less ?_)
    rw [decide_eq_true c2, Bool.true_and] at hc
    exact hc
  · have c2 : ¬ k2 ≤ l2 := by omega
    rw [decide_eq_false c2, Bool.false_and] at hc
    exact hc
  refine w_if (fun c2 => ?_) fun c2 => ?_
  · rw [Bool.and_eq_true, decide_eq_true_eq] at c2
    rw [scanDown_go (by omega) c2.1 c2.2] at eqd
    rw [is1 l2 (by omega) (by omega)]
    exact more3 _ _ ⟨rfl, l2 - 1, rfl, by omega, by omega, eqd⟩ (by omega)
  have c2 : ¬ (k2 ≤ l2 ∧ (!ltInt e[l2]! e[a]!) = true) := fun q => by rw [q.2, decide_eq_true q.1] at c2; cases c2
  rw [scanDown_stop c2] at eqd
  rw [← eqd] at eq1
  clear more3 rec3
  refine w_if' (fun c3 => ?_) fun c3 => ?_
  · have c3 : k2 > l2 := by omega
    rw [if_pos c3] at eq1
    rw [← eq1] at y
    refine w_swp x1 (i := l2) (j := a) (by omega) (by omega) rfl rfl fun h2 x2 w2 => ?_
    exact y h2 x2 (w1.trans w2)
  have c3 : ¬ k2 > l2 := by omega
  rw [if_neg c3, dif_pos (by omega)] at eq1
  refine w_swp x1 (i := k2) (j := l2) (by omega) (by omega) rfl rfl fun h2 x2 w2 => ?_
  rw [ia1 k2 (by omega), is1 l2 (by omega) (by omega)]
  exact more _ _ ⟨k2 + 1, l2 - 1, _, rfl, by omega, by omega, by omega, by omega, by rw [swp_size]; exact he, x2, eq1, w1.trans w2⟩ (by show (((l2 - 1 : Nat) : Int) + 1 - ((k2 + 1 : Nat) : Int)).toNat < ((j : Int) + 1 - (i : Int)).toNat; omega)
end
theorem bitsLen_shift {x k : Nat} (h : 2 ^ k ≤ x) : bitsLen x = bitsLen (x / 2 ^ k) + k := by
  have key : ∀ m, k ≤ m → (x < 2 ^ m ↔ x / 2 ^ k < 2 ^ (m - k)) := fun m hm => by
    rw [Nat.div_lt_iff_lt_mul (Nat.two_pow_pos k), ← Nat.pow_add, Nat.sub_add_cancel hm]
  apply Nat.le_antisymm
  · rw [bitsLen_le_iff, key _ (by omega), Nat.add_sub_cancel]
    exact lt_two_pow_bitsLen _
  · have hk : k ≤ bitsLen x := by
      rcases Nat.lt_or_ge (bitsLen x) k with q | q
      · have h1 := lt_two_pow_bitsLen x
        have h2 : 2 ^ bitsLen x ≤ 2 ^ k := Nat.pow_le_pow_right (by decide) (by omega)
        omega
      · exact q
    have : bitsLen (x / 2 ^ k) ≤ bitsLen x - k := by
      rw [bitsLen_le_iff, ← key _ hk]
      exact lt_two_pow_bitsLen _
    omega
theorem wrap_u8 (x : Int) : IntKind.u8.wrap x = x % 256 := by
  unfold IntKind.wrap
  simp [IntKind.bits, IntKind.signed]
def tabOK (s : ByteArray) : Bool := (List.range 256).all fun x => s.data.toList[x]? == some (UInt8.ofNat (bitsLen x))
theorem bitsLen8 {x : Nat} (h : x < 256) : bitsLen x ≤ 8 := (bitsLen_le_iff x 8).2 h
section
variable {h : H}
theorem w_tab {s : ByteArray} (ht : tabOK s = true) {x : Nat} (hx : x < 256) {k : Int → H → Prop} (y : k ((bitsLen x : Nat) : Int) h) : mByte s (x : Int) k h := by
  unfold tabOK at ht
  rw [List.all_eq_true] at ht
  have := ht x (List.mem_range.2 hx)
  rw [beq_iff_eq] at this
  have hlt := lt_of_get this
  rw [List.getElem?_eq_getElem hlt] at this
  have e := Option.some.inj this
  have hs : x < s.size := by simpa using hlt
  have hb : (UInt8.ofNat (bitsLen x)).toNat = bitsLen x := by
    have := bitsLen8 hx
    rw [UInt8.toNat_ofNat']; exact Nat.mod_eq_of_lt (by omega)
  refine ⟨((UInt8.ofNat (bitsLen x)).toNat : Nat), ⟨UInt8.ofNat (bitsLen x), by omega, ?_, rfl⟩, by rw [hb]; exact y⟩
  rw [Int.toNat_natCast, ← e]
  show s.data[x]? = _
  rw [← Array.getElem?_toList, List.getElem?_eq_getElem hlt]
set_option maxRecDepth 100000 in
theorem t_Len64 {x : Nat} (hx : x < 2 ^ 64) {K : Int → H → Prop} (y : K ((bitsLen x : Nat) : Int) h) : m_math_bits_Len64 (x : Int) K h := by
  unfold m_math_bits_Len64
  refine w_joinP (fun z h' => h = h' ∧ ∃ (u n : Nat), z = ((u : Int), (n : Int)) ∧ u < 2 ^ 32 ∧ n ≤ 32 ∧ bitsLen x = bitsLen u + n) (fun j hj => w_if' (fun c => ?_) fun c => ?_) ?_
  · have e : iShr .u64 (x : Int) 32 = ((x / 2 ^ 32 : Nat) : Int) := u_shr (n := 32) (by omega)
    rw [e]
    exact hj _ _ ⟨rfl, x / 2 ^ 32, 32, rfl, by omega, by omega, bitsLen_shift (by omega)⟩
  · exact hj _ _ ⟨rfl, x, 0, rfl, by omega, by omega, rfl⟩
  rintro _ _ ⟨rfl, u, n, rfl, hu, hn, e1⟩
  refine w_joinP (fun z h' => h = h' ∧ ∃ (v m : Nat), z = ((v : Int), (m : Int)) ∧ v < 2 ^ 16 ∧ m ≤ 48 ∧ bitsLen x = bitsLen v + m) (fun j hj => w_if' (fun c => ?_) fun c => ?_) ?_
  · have c : (65536 : Int) ≤ (u : Int) := c
    have e : iShr .u64 (u : Int) 16 = ((u / 2 ^ 16 : Nat) : Int) := u_shr (n := 16) (by omega)
    have a : iAdd .i64 (n : Int) 16 = ((n + 16 : Nat) : Int) := ia n 16 (by omega)
    show j (iShr .u64 (u : Int) 16, iAdd .i64 (n : Int) 16) h
    rw [e, a]
    exact hj _ _ ⟨rfl, u / 2 ^ 16, n + 16, rfl, by omega, by omega, by rw [e1, bitsLen_shift (x := u) (k := 16) (by omega)]; omega⟩
  · have c : ¬ (65536 : Int) ≤ (u : Int) := c
    exact hj _ _ ⟨rfl, u, n, rfl, by omega, by omega, e1⟩
  rintro _ _ ⟨rfl, v, m, rfl, hv, hm, e2⟩
  refine w_joinP (fun z h' => h = h' ∧ ∃ (w q : Nat), z = ((w : Int), (q : Int)) ∧ w < 2 ^ 8 ∧ q ≤ 56 ∧ bitsLen x = bitsLen w + q) (fun j hj => w_if' (fun c => ?_) fun c => ?_) ?_
  · have c : (256 : Int) ≤ (v : Int) := c
    have e : iShr .u64 (v : Int) 8 = ((v / 2 ^ 8 : Nat) : Int) := u_shr (n := 8) (by omega)
    have a : iAdd .i64 (m : Int) 8 = ((m + 8 : Nat) : Int) := ia m 8 (by omega)
    show j (iShr .u64 (v : Int) 8, iAdd .i64 (m : Int) 8) h
    rw [e, a]
    exact hj _ _ ⟨rfl, v / 2 ^ 8, m + 8, rfl, by omega, by omega, by rw [e2, bitsLen_shift (x := v) (k := 8) (by omega)]; omega⟩
  · have c : ¬ (256 : Int) ≤ (v : Int) := c
    exact hj _ _ ⟨rfl, v, m, rfl, by omega, by omega, e2⟩
  rintro _ _ ⟨rfl, w, q, rfl, hw, hq, e3⟩
  have hl := bitsLen8 (x := w) hw
  have e4 : IntKind.wrap .i64 ((bitsLen w : Nat) : Int) = ((bitsLen w : Nat) : Int) := i64_eq (by omega) (by omega)
  have fin : ∀ tb : ByteArray, tabOK tb = true → mByte tb (w : Int) (fun x7 => K (iAdd .i64 (q : Int) (IntKind.wrap .i64 x7))) h := fun tb ht => w_tab ht hw (by
    rw [e4, ia q (bitsLen w) (by omega)]
    rw [e3, Nat.add_comm] at y
    exact y)
  have e5 : IntKind.wrap .u8 (w : Int) = (w : Int) := by
    rw [wrap_u8]; omega
  show mByte _ (IntKind.wrap .u8 (w : Int)) (fun x7 => K (iAdd .i64 (q : Int) (IntKind.wrap .i64 x7))) h
  rw [e5]
  exact fin _ (by kernel_rfl)
theorem w_Len {x : Nat} (hx : x < 2 ^ 62) {K : Int → H → Prop} (y : K ((bitsLen x : Nat) : Int) h) : mPure (m_math_bits_Len (IntKind.wrap .u64 (x : Int))) K h := by
  refine w_pure ((bitsLen x : Nat) : Int) (fun h' k' q => ?_) y
  unfold m_math_bits_Len
  rw [u_wrap (by omega)]
  exact w_pure ((bitsLen x : Nat) : Int) (fun h'' k'' q' => t_Len64 (by omega) q') q
def CellU (c0 : Nat) (h : H) : Prop := ∃ (v : Int) (t : TypeId), h c0 = some (.cells #[Value.int .u64 v] t (0, 0))
theorem t_xor {c0 : Nat} (hc : CellU c0 h) {K : Int → H → Prop} (y : ∀ (r : Nat) h', r < 2 ^ 64 → CellU c0 h' → But (· = c0) h h' → (∀ c, h' c = none → h c = none) → K (r : Int) h') : m_slices_xorshift_Next (some ⟨c0, 0, none⟩) K h := by
  unfold m_slices_xorshift_Next
  obtain ⟨v, t, hv⟩ := hc
  have rd : ∀ {g : H} {u : Int}, g c0 = some (.cells #[Value.int .u64 u] t (0, 0)) → At g ⟨c0, 0, none⟩ (cInt .u64 u) := fun e => At.own (l1 := []) (l3 := []) e rfl
  refine w_deref (w_deref (w_load (rd hv) (w_load (rd hv) (w_deref (w_store (l1 := []) (l2 := cInt .u64 v) (l3 := []) rfl hv rfl rfl ?_)))))
  refine w_deref (w_deref (w_load (rd (upd_same _ _ _)) (w_load (rd (upd_same _ _ _)) (w_deref (w_store (l1 := []) (l2 := cInt .u64 _) (l3 := []) rfl (upd_same _ _ _) rfl rfl ?_)))))
  refine w_deref (w_deref (w_load (rd (upd_same _ _ _)) (w_load (rd (upd_same _ _ _)) (w_deref (w_store (l1 := []) (l2 := cInt .u64 _) (l3 := []) rfl (upd_same _ _ _) rfl rfl ?_)))))
  refine w_deref (w_load (rd (upd_same _ _ _)) ?_)
  rw [upd_upd, upd_upd]
  have rng : ∀ z w : Int, ∃ r : Nat, iXor .u64 z w = (r : Int) ∧ r < 2 ^ 64 := fun z w => by
    unfold iXor
    rw [wrap_u64]
    exact ⟨(((BitVec.ofInt IntKind.u64.bits z ^^^ BitVec.ofInt IntKind.u64.bits w).toNat : Int) % 18446744073709551616).toNat, by omega, by omega⟩
  suffices z : ∀ A B : Int, K (iXor .u64 A B) (upd h c0 (.cells ([] ++ [Value.int .u64 (iXor .u64 A B)] ++ []).toArray t (0, 0))) from z _ _
  intro A B
  obtain ⟨r, hr, hlt⟩ := rng A B
  rw [hr]
  exact y r _ hlt ⟨r, t, upd_same _ _ _⟩ (But.upd rfl) fun c e => (upd_none.1 e).2
variable {s : Sl} {d : Array Int}
theorem t_breakPatterns {a b : Nat} (x : BufI h s d) (hab : a ≤ b) (hb : b ≤ d.size) (hn : d.size ≤ 2 ^ 40) {K : Unit → H → Prop} (y : ∀ e h', PermIn a b d e → BufI h' s e → Wrote s h h' → K () h') : m_slices_breakPatternsOrdered_int s (a : Int) (b : Int) K h := by
  unfold m_slices_breakPatternsOrdered_int
  rw [is_ b a (by omega) hab]
  refine w_if' (fun c => ?_) fun c => y d h (permIn_refl d a b) x (.refl _ _)
  have c : 8 ≤ b - a := by omega
  refine w_newQ (fun c0 h0 => (∃ t, h0 c0 = some (.cells ([] ++ cInt .u64 0 ++ []).toArray t (0, 0))) ∧ Keeps h h0) (fun c0 hc0 => ⟨⟨_, upd_same _ _ _⟩, .new hc0⟩) fun c0 h0 hc0 ⟨⟨t, hv⟩, k0⟩ => ?_
  have nf : ¬ s.foot c0 := fun f => by
    obtain ⟨A, hA, e⟩ := f
    rcases x.at_ with ⟨q, _⟩ | ⟨B, z, fz, q, hB, _⟩
    · rw [q] at hA; cases hA
    · rw [q] at hA; cases hA; subst e; rw [hc0] at hB; cases hB
  refine w_store (l1 := []) (l2 := cInt .u64 0) (l3 := []) rfl hv rfl rfl ?_
  have x1 : BufI (upd h0 c0 (.cells ([] ++ [Value.int .u64 (IntKind.wrap .u64 ((b - a : Nat) : Int))] ++ []).toArray t (0, 0))) s d := (x.keep k0).but (But.upd (F := (· = c0)) rfl) fun A hA e => nf ⟨A, hA, e⟩
  have w1 : Wrote s h (upd h0 c0 (.cells ([] ++ [Value.int .u64 (IntKind.wrap .u64 ((b - a : Nat) : Int))] ++ []).toArray t (0, 0))) := ⟨.of (k0.but (But.upd (F := (· = c0)) rfl) fun n e => by subst e; exact hc0), fun c e => k0.fresh (upd_none.1 e).2⟩
  have cl1 : CellU c0 (upd h0 c0 (.cells ([] ++ [Value.int .u64 (IntKind.wrap .u64 ((b - a : Nat) : Int))] ++ []).toArray t (0, 0))) := ⟨_, t, upd_same _ _ _⟩
  generalize upd h0 c0 (.cells ([] ++ [Value.int .u64 (IntKind.wrap .u64 ((b - a : Nat) : Int))] ++ []).toArray t (0, 0)) = h1 at x1 w1 cl1 ⊢
  have hl8 : bitsLen (b - a) < 62 := Nat.lt_succ_of_le ((bitsLen_le_iff _ 61).2 (by omega))
  have hp := two_pow_bitsLen_le (n := b - a) (by omega)
  generalize hL : bitsLen (b - a) = L at hl8 hp
  refine w_pure (iShl .u64 1 (L : Int)) (fun h' k' q => ?_) ?_
  · unfold m_slices_nextPowerOfTwo
    refine w_Len (by omega) ?_
    rw [hL]
    exact w_nn (by omega) q
  have q4 : (b - a) / 4 ≤ b - a := Nat.div_le_self _ _
  have q4' : 4 * ((b - a) / 4) ≤ b - a := Nat.mul_div_le _ _
  have q48 : 2 ≤ (b - a) / 4 := by omega
  have e4 : iQuo .i64 ((b - a : Nat) : Int) 4 = (((b - a) / 4 : Nat) : Int) := iq (b - a) 4 (by omega)
  generalize (b - a) / 4 = q at q4 q4' q48 e4
  have m2 : iMul .i64 (q : Int) 2 = ((q * 2 : Nat) : Int) := (i64_eq (x := (q : Int) * 2) (by omega) (by omega)).trans (by omega)
  rw [e4, m2, ia a (q * 2) (by omega), is1 (a + q * 2) (by omega) (by omega), ia1 (a + q * 2) (by omega)]
  refine w_loop (fun z => a + q * 2 + 2 - z.toNat) (fun z h' => ∃ (i : Nat) (e : Array Int), z = (i : Int) ∧ a + q * 2 ≤ i + 1 ∧ i ≤ a + q * 2 + 2 ∧ PermIn a b d e ∧ BufI h' s e ∧ CellU c0 h' ∧ Wrote s h h') ?_ ⟨a + q * 2 - 1, d, rfl, by omega, by omega, permIn_refl d a b, x1, cl1, w1⟩
  rintro rec _ h2 ⟨i, e, rfl, hi1, hi2, pe, x2, cl2, w2⟩ more
  refine w_if' (fun c2 => ?_) fun c2 => y e h2 pe x2 w2
  have c2 : i ≤ a + q * 2 + 1 := by omega
  refine t_xor cl2 fun r h3 hr cl3 b3 d3 => ?_
  have x3 : BufI h3 s e := x2.but b3 fun A hA z => nf ⟨A, hA, z⟩
  have w3 : Wrote s h h3 := ⟨w2.but.trans b3 fun n z => .inr (by subst z; exact hc0), fun c z => w2.dom c (d3 c z)⟩
  rw [u_low hr (by omega)]
  have hm : r % 2 ^ L < 2 ^ L := Nat.mod_lt _ (Nat.two_pow_pos _)
  generalize r % 2 ^ L = m at hm
  have wm : IntKind.wrap .i64 (m : Int) = (m : Int) := i64_eq (by omega) (by omega)
  rw [wm]
  refine w_joinP (fun z h' => h3 = h' ∧ ∃ m' : Nat, z = (m' : Int) ∧ m' < b - a) (fun j hj => w_if' (fun c3 => ?_) fun c3 => ?_) ?_
  · rw [is_ m (b - a) (by omega) (by omega)]
    exact hj _ _ ⟨rfl, m - (b - a), rfl, by omega⟩
  · exact hj _ _ ⟨rfl, m, rfl, by omega⟩
  rintro _ _ ⟨rfl, m', rfl, hm'⟩
  have es : e.size = d.size := pe.1
  have em := ia a m' (by omega)
  rw [em]
  refine w_swp x3 (i := i) (j := a + m') (by omega) (by omega) rfl rfl fun h4 x4 w4 => ?_
  rw [ia1 i (by omega)]
  have cl4 : CellU c0 h4 := by
    obtain ⟨v, t, e⟩ := cl3
    exact ⟨v, t, w4.but _ _ e nf⟩
  exact more _ _ ⟨i + 1, _, rfl, by omega, by omega, permIn_trans _ _ _ a b pe (swp_permIn e a b i (a + m') (by omega) (by omega) (by omega) (by omega) (by omega)), x4, cl4, w3.trans w4⟩ (by simp only [Int.toNat_natCast]; omega)
theorem t_pdq_n : ∀ (n : Nat) {h : H} {d : Array Int} {a b : Nat}, b - a < n → BufI h s d → a ≤ b → b ≤ d.size → d.size ≤ 2 ^ 40 → Go.Sort.Below ltInt a b d → ∀ {limit : Int} {K : Unit → H → Prop},
    (∀ e h', PermIn a b d e → SortedIn ltInt a b e → BufI h' s e → Wrote s h h' → K () h') → m_slices_pdqsortOrdered_int_n n s (a : Int) (b : Int) limit K h := by
  intro n
  induction n with
  | zero => intro h d a b hn; omega
  | succ n ih =>
    intro h d a0 b0 hn x hab0 hb0 hsz hB0 limit K y
    show m_slices_pdqsortOrdered_int_s (m_slices_pdqsortOrdered_int_n n) s (a0 : Int) (b0 : Int) limit K h
    unfold m_slices_pdqsortOrdered_int_s
    refine w_loop (fun z => (z.2.1 - z.1).toNat) (fun z h' => ∃ (a b : Nat) (lim : Int) (wb wp : Bool) (e : Array Int), z = ((a : Int), (b : Int), lim, wb, wp) ∧ a ≤ b ∧ b - a ≤ b0 - a0 ∧ b ≤ e.size ∧ e.size = d.size ∧ Go.Sort.Below ltInt a b e ∧ BufI h' s e ∧ Wrote s h h' ∧ ∀ R, PermIn a b e R → SortedIn ltInt a b R → PermIn a0 b0 d R ∧ SortedIn ltInt a0 b0 R) ?_
      ⟨a0, b0, limit, true, true, d, rfl, hab0, Nat.le_refl _, hb0, rfl, hB0, x, .refl _ _, fun R h1 h2 => ⟨h1, h2⟩⟩
    clear x hab0 hb0 hB0
    rintro rec _ h1 ⟨a, b, lim, wb, wp, e, rfl, hab, hlen, hb, he, hB, x1, w1, fin⟩ more
    have fin' : ∀ (R : Array Int) (h' : H), PermIn a b e R → SortedIn ltInt a b R → BufI h' s R → Wrote s h h' → K () h' := fun R h' p q r w => y R h' (fin R p q).1 (fin R p q).2 r w
    show mIf (decide ((iSub .i64 (b : Int) (a : Int)) ≤ 12)) _ _ h1
    rw [is_ b a (by omega) hab]
    refine w_if' (fun c => ?_) fun c => ?_
    · refine t_insertion x1 hb (by omega) (fun h2 x2 w2 => ?_) hab
      have := insertionSort_holds swo_ltInt e a b hab hb
      exact fin' _ h2 this.1 this.2 x2 (w1.trans w2)
    have c : 12 < b - a := by omega
    refine w_if' (fun c2 => ?_) fun c2 => ?_
    · refine t_heapSort x1 hab hb (by omega) fun h2 x2 w2 => ?_
      have := heapSort_holds swo_ltInt e a b hab hb
      exact fin' _ h2 this.1 this.2 x2 (w1.trans w2)
    refine w_joinP (fun _ h' => ∃ e1, PermIn a b e e1 ∧ BufI h' s e1 ∧ Wrote s h h') (fun j hj => w_if (fun c3 => ?_) fun c3 => ?_) ?_
    · refine t_breakPatterns x1 hab hb (by omega) fun e1 h2 p1 x2 w2 => ?_
      exact hj _ _ ⟨e1, p1, x2, w1.trans w2⟩
    · exact hj _ _ ⟨e, permIn_refl e a b, x1, w1⟩
    rintro lim2 h2 ⟨e1, p1, x2, w2⟩
    refine t_choosePivot x2 (by omega) (by rw [p1.1]; exact hb) (by rw [p1.1]; omega) fun p hint h3 hp1 hp2 x3 k3 => ?_
    have w3 : Wrote s h h3 := ⟨w2.but.trans (.of k3) fun _ f => .inl f, fun c z => w2.dom c (k3.fresh z)⟩
    refine w_joinP (fun z h' => ∃ (p' : Nat) (t : Int) (e2 : Array Int), z = ((p' : Int), t) ∧ a ≤ p' ∧ p' < b ∧ PermIn a b e e2 ∧ BufI h' s e2 ∧ Wrote s h h') (fun j hj => w_if' (fun c3 => ?_) fun c3 => ?_) ?_
    · refine t_reverse x3 (by omega) (by rw [p1.1]; exact hb) (by rw [p1.1]; omega) fun h4 x4 w4 => ?_
      have hp1' : (a : Int) ≤ (p : Int) := by omega
      show j (iSub .i64 (iSub .i64 (b : Int) 1) (iSub .i64 (p : Int) (a : Int)), 1) h4
      rw [is1 b (by omega) (by omega), is_ p a (by omega) hp1, is_ (b - 1) (p - a) (by omega) (by omega)]
      exact hj _ _ ⟨b - 1 - (p - a), 1, _, rfl, by omega, by omega, permIn_trans _ _ _ a b p1 (reverseRange_holds e1 a b hab (by rw [p1.1]; exact hb)), x4, w3.trans w4⟩
    · exact hj _ _ ⟨p, hint, e1, rfl, hp1, hp2, p1, x3, w3⟩
    clear x3 x2 w2 w3 p1 k3 hp1 hp2 x1 w1
    rintro _ h4 ⟨p', t, e2, rfl, hp1, hp2, p2, x4, w4⟩
    refine w_joinP (fun _ h' => ∃ e3, PermIn a b e e3 ∧ BufI h' s e3 ∧ Wrote s h h') (fun j hj => w_if (fun c3 => ?_) fun c3 => ?_) ?_
    · refine t_partialIns x4 (by omega) (by rw [p2.1]; exact hb) (by rw [p2.1]; omega) fun h5 x5 w5 => ?_
      have q := partialInsertionSort_holds swo_ltInt e2 a b (by omega) (by rw [p2.1]; exact hb) (hB.perm hb p2)
      refine w_if (fun c4 => ?_) fun c4 => ?_
      · exact fin' _ h5 (permIn_trans _ _ _ a b p2 q.1) (q.2 c4) x5 (w4.trans w5)
      · exact hj () h5 ⟨_, permIn_trans _ _ _ a b p2 q.1, x5, w4.trans w5⟩
    · exact hj () h4 ⟨e2, p2, x4, w4⟩
    clear x4 w4 p2
    rintro _ h5 ⟨e3, p3, x5, w5⟩
    have hb3 : b ≤ e3.size := by rw [p3.1]; exact hb
    have hB3 := hB.perm hb p3
    have hs3 : e3.size = d.size := by rw [p3.1]; exact he
    refine w_joinP (fun z h' => h5 = h' ∧ (z = true → 0 < a ∧ ltInt e3[a - 1]! e3[p']! = false)) (fun j hj => w_if' (fun c3 => ?_) fun c3 => ?_) ?_
    · have c3 : 0 < a := by have c3 : (0 : Int) < (a : Int) := c3; omega
      show mIdx s (iSub .i64 (a : Int) 1) 1 _ h5
      rw [is1 a (by omega) c3]
      refine rdB x5 (i := a - 1) (i' := p') (by omega) (by omega) rfl rfl (w_less ?_)
      exact hj _ _ ⟨rfl, fun q => ⟨c3, by rwa [Bool.not_eq_true'] at q⟩⟩
    · exact hj _ _ ⟨rfl, fun q => by cases q⟩
    rintro z _ ⟨rfl, hz⟩
    refine w_if (fun c3 => ?_) fun c3 => ?_
    · obtain ⟨ha0, hnl⟩ := hz c3
      refine t_partEq x5 hp1 hp2 hb3 (by omega) fun h6 x6 w6 => ?_
      obtain ⟨r1, r2, r3, r4, r5⟩ := round_eq swo_ltInt (partitionEqual_holds ltInt) (mid := (partitionEqual ltInt e3 a b p').1) (d4 := (partitionEqual ltInt e3 a b p').2) ha0 hp1 hp2 hb3 hB3 hnl rfl
      refine more _ _ ⟨(partitionEqual ltInt e3 a b p').1, b, lim2, wb, wp, _, rfl, r2, by omega, by rw [r3]; exact hb3, by rw [r3]; exact hs3, r4, x6, w5.trans w6, fun R q1 q2 => ?_⟩ (by show ((b : Int) - (((partitionEqual ltInt e3 a b p').1 : Nat) : Int)).toNat < ((b : Int) - (a : Int)).toNat; omega)
      exact fin R (permIn_trans _ _ _ a b p3 (r5 R q1 q2).1) (r5 R q1 q2).2
    refine t_partition x5 hp1 hp2 hb3 (by omega) fun h6 x6 w6 => ?_
    obtain ⟨r1, r2, r3, r4, r5, r6, r7⟩ := round_part swo_ltInt (partition_holds ltInt) (mid := (partition ltInt e3 a b p').1) (ap := (partition ltInt e3 a b p').2.1) (d4 := (partition ltInt e3 a b p').2.2) hp1 hp2 hb3 hB3 rfl
    have w56 := w5.trans w6
    generalize (partition ltInt e3 a b p').1 = mid at r1 r2 r4 r5 r6 r7
    generalize (partition ltInt e3 a b p').2.1 = ap
    generalize (partition ltInt e3 a b p').2.2 = e4 at x6 r3 r4 r5 r6 r7
    show mIf (decide ((iSub .i64 (mid : Int) (a : Int)) < (iSub .i64 (b : Int) (mid : Int)))) _ _ h6
    rw [is_ mid a (by omega) r1, is_ b mid (by omega) (by omega)]
    refine w_if' (fun c4 => ?_) fun c4 => ?_
    · refine ih (d := e4) (a := a) (b := mid) (by omega) x6 r1 (by omega) (by omega) r4 fun e5 h7 q1 q2 x7 w7 => ?_
      obtain ⟨s1, s2⟩ := r6 e5 q1 q2
      show rec (iAdd .i64 (mid : Int) 1, (b : Int), lim2, _, ap) h7
      rw [ia1 mid (by omega)]
      refine more _ _ ⟨mid + 1, b, lim2, _, ap, e5, rfl, r2, by omega, by rw [q1.1, r3]; exact hb3, by rw [q1.1, r3]; exact hs3, s1, x7, w56.trans w7, fun R t1 t2 => ?_⟩ (by show ((b : Int) - ((mid + 1 : Nat) : Int)).toNat < ((b : Int) - (a : Int)).toNat; omega)
      exact fin R (permIn_trans _ _ _ a b p3 (s2 R t1 t2).1) (s2 R t1 t2).2
    · show m_slices_pdqsortOrdered_int_n n s (iAdd .i64 (mid : Int) 1) (b : Int) lim2 _ h6
      rw [ia1 mid (by omega)]
      refine ih (d := e4) (a := mid + 1) (b := b) (by omega) x6 r2 (by omega) (by omega) r5 fun e5 h7 q1 q2 x7 w7 => ?_
      obtain ⟨s1, s2⟩ := r7 e5 q1 q2
      refine more _ _ ⟨a, mid, lim2, _, ap, e5, rfl, r1, by omega, by rw [q1.1]; omega, by rw [q1.1, r3]; exact hs3, s1, x7, w56.trans w7, fun R t1 t2 => ?_⟩ (by show ((mid : Int) - (a : Int)).toNat < ((b : Int) - (a : Int)).toNat; omega)
      exact fin R (permIn_trans _ _ _ a b p3 (s2 R t1 t2).1) (s2 R t1 t2).2
theorem t_Sort {zs : List Int} (x : Buf (cInt .i64) 1 N_int h s zs) (hn : zs.length ≤ 2 ^ 40) {K : Unit → H → Prop} (y : ∀ h', Buf (cInt .i64) 1 N_int h' s (zs.mergeSort fun x y => decide (x ≤ y)) → Wrote s h h' → K () h') : m_slices_Sort_int_int s K h := by
  unfold m_slices_Sort_int_int
  have hl := x.len
  rw [hl]
  refine w_Len (by omega) ?_
  have x0 : BufI h s zs.toArray := x
  unfold m_slices_pdqsortOrdered_int
  refine ⟨zs.length + 1, t_pdq_n (zs.length + 1) (d := zs.toArray) (a := 0) (b := zs.length) (by omega) x0 (Nat.zero_le _) (by simp) (by simpa using hn) (.inl rfl) fun e h' p1 p2 x1 w1 => ?_⟩
  refine y h' ?_ w1
  have hsz : zs.length = zs.toArray.size := by simp
  rw [hsz] at p1 p2
  have h1 := sorted_unique_holds (lt := ltInt) swo_ltInt (fun x y h1 h2 => by
    unfold ltInt at h1 h2
    rw [decide_eq_false_iff_not] at h1 h2
    omega) zs.toArray e p1 p2
  have h2 : (fun x y : Int => !ltInt y x) = fun x y => decide (x ≤ y) := by
    funext x y
    unfold ltInt
    rw [Bool.eq_iff_iff]
    simp
  rw [h2] at h1
  have h1 : e.toList = zs.mergeSort fun x y => decide (x ≤ y) := h1
  rw [← h1]; exact x1
end
end Go.Proofs.Ytbjkfllncegpcaa.K
namespace Go.Proofs.Ytbjkfllncegpcaa.K
open Go
section
variable {h : H}
theorem t_keysO {b : Nat} {l : List (Int × Sl)} (x : MapOf (Value.int .i64) Sl.val h b l) (hn : l.length ≤ 2 ^ 20) {K : Sl → H → Prop} (y : ∀ s h', Buf (cInt .i64) 1 N_int h' s (isort (l.map (·.1))) → Keeps h h' → (∀ c, s.foot c → h c = none) → K s h') : m_maps_Keys_map_int_byte_int_byte (some b) (fun r => m_slices_Sorted_int r K) h := by
  unfold m_maps_Keys_map_int_byte_int_byte m_slices_Sorted_int m_slices_Collect_int m_slices_AppendSeq_int_int
  have hb0 : h b ≠ none := by obtain ⟨_, _, e, _⟩ := x; rw [e]; simp
  refine w_box fun b1 h1 f1 q1 k1 => w_box fun b2 h2 f2 q2 k2 => ?_
  have k12 := k1.trans k2
  refine ⟨189, Try.f189, #[], #[.pointer (some ⟨b1, 0, none⟩)], rfl, callee189, fun w ob bz hw law => ?_⟩
  have kw : Keeps h2 (upd h2 w (ob 0)) := .new hw
  suffices hm : m_maps_Keys_map_int_byte_int_byte_1 (⟨.func (.yield w) #[] #[], rfl, rfl⟩ : PV) ⟨b1, 0, none⟩ (fun _ h'' => ∃ j, h'' w = some (ob j) ∧ ∀ o, (fun (j5 : Nat) => mIf (Nat.beq j5 0) (mLoad cSl ⟨b2, 0, none⟩ fun x9 => m_slices_Sort_int_int x9 fun _ => K x9) nope) j (upd h'' w o)) (upd h2 w (ob 0)) from
    (s_maps_Keys_map_int_byte_int_byte_1.ok ((⟨.func (.yield w) #[] #[], rfl, rfl⟩ : PV), (⟨b1, 0, none⟩ : Addr)) (fun _ h'' => ∃ j, h'' w = some (ob j) ∧ ∀ o, (fun (j5 : Nat) => mIf (Nat.beq j5 0) (mLoad cSl ⟨b2, 0, none⟩ fun x9 => m_slices_Sort_int_int x9 fun _ => K x9) nope) j (upd h'' w o)) _ hm).mono (fun v h'' ⟨_, _, q⟩ => q) fun _ _ q => q
  have ww : upd h2 w (ob 0) w = some (ob 0) := upd_same _ _ _
  generalize upd h2 w (ob 0) = h3 at kw ww
  have k3 := k12.trans kw
  have hwh : h w = none := k12.fresh hw
  have q23 := kw _ _ q2
  have b2h : h b2 = none := k1.fresh f2
  have nwb2 : b2 ≠ w := fun e => by rw [e, hw] at q2; cases q2
  have nbw : b ≠ w := fun e => hb0 (e ▸ hwh)
  have nbb2 : b ≠ b2 := fun e => hb0 (e ▸ b2h)
  unfold m_maps_Keys_map_int_byte_int_byte_1
  refine w_load (v := some b) (cells := cMap) (at_box (cs := [Value.map (some b)]) (kw _ _ (k2 _ _ q1))) (w_range (x.keep k3) fun it h4 f4 it4 k4 => ?_)
  have nit : it.block ≠ b := fun e => by rw [e] at f4; exact hb0 (k3.fresh f4)
  have nitw : it.block ≠ w := fun e => by rw [e, ww] at f4; cases f4
  have nitb2 : it.block ≠ b2 := fun e => by rw [e, q23] at f4; cases f4
  have hith : h it.block = none := k3.fresh f4
  refine w_for l.length (fun j (_ : Unit) h' => ∃ rest at_ ks sn, IterOf (Value.int .i64) Sl.val h' it b l rest at_ ∧ rest.length + j = l.length ∧ ks.length = j ∧ (ks ++ rest.map (·.1)).Perm (l.map (·.1)) ∧ h' w = some (ob 0) ∧ h' b2 = some (.cells (cSl sn).toArray N_Sl_i64 (0, 0)) ∧ Buf (cInt .i64) 1 N_int h' sn ks ∧ (∀ c, sn.foot c → h c = none ∧ c ≠ w ∧ c ≠ it.block) ∧ Keeps h h') ?_
    ⟨l, none, [], Sl.nil, it4, rfl, rfl, .refl _, k4 _ _ ww, k4 _ _ q23, Buf.nil, fun c ⟨_, e, _⟩ => (by cases e), k3.trans k4⟩
  rintro rec j _ h5 hj ⟨rest, at_, ks, sn, it5, hl, hk, pk, w5, q5, bu5, fs5, k5⟩ more
  refine w_next it5 nit (fun e => w_ifF rfl ?_) fun q rest' h6 pm it6 b6 d6 => w_ifT rfl (w_entry it6 ?_)
  · subst e
    rw [List.map_nil, List.append_nil] at pk
    refine ⟨0, w5, fun o => w_ifT rfl ?_⟩
    have bo : But (· = w) h5 (upd h5 w o) := .upd rfl
    have q7 := bo _ _ q5 nwb2
    have bu7 := bu5.but bo fun ad ha e => (fs5 _ ⟨ad, ha, rfl⟩).2.1 e
    refine w_load (at_box q7) (t_Sort bu7 (by omega) fun h8 bu8 w8 => ?_)
    refine y sn h8 ?_ ((k5.but bo fun n e => by rw [e]; exact hwh).but w8.but fun n f => (fs5 n f).1) fun c g => (fs5 c g).1
    rw [show (ks.mergeSort fun x y => decide (x ≤ y)) = isort (l.map (·.1)) from isort_eq pk] at bu8
    exact bu8
  · have e2 := pm.length_eq
    simp only [List.length_cons] at e2
    have w6 := b6 _ _ w5 nitw.symm
    have q6 := b6 _ _ q5 nitb2.symm
    have bu6 := bu5.but b6 fun ad ha e => (fs5 _ ⟨ad, ha, rfl⟩).2.2 e
    have k6 : Keeps h h6 := k5.but b6 fun n e => by rw [e]; exact hith
    refine .inr ⟨w, rfl, law q.1 _ h6 w6 ⟨w6, ?_⟩⟩
    have bA : But (· = w) h6 (upd h6 w bz) := .upd rfl
    have wA : upd h6 w bz w = some bz := upd_same _ _ _
    have dA : ∀ c, upd h6 w bz c = none → h6 c = none := fun c e => (upd_none.1 e).2
    generalize upd h6 w bz = hA at bA wA dA
    have qA := bA _ _ q6 nwb2
    have buA := bu6.but bA fun ad ha e => (fs5 _ ⟨ad, ha, rfl⟩).2.1 e
    refine w_load (at_box qA) (w_box fun b7 h7 f7 q7 k7 => ?_)
    have one : Buf (cInt .i64) 1 N_int h7 ⟨some ⟨b7, 0, none⟩, 1, 1⟩ [q.1] := Buf.one ci_len q7
    refine w_append (by_ := 8) ci_len (fun _ => rfl) rfl (buA.keep k7) one.arr (.inl (by simp only [List.length_singleton]; omega)) fun s8 h8 bu8 b8 f8 d8 => ?_
    have q78 := b8 _ _ (k7 _ _ qA) fun g => (buA.typed g).ne (.of qA) (by decide) rfl
    have wB := b8 _ _ (k7 _ _ wA) fun g => (fs5 w g).2.1 rfl
    refine w_setBox q78 rfl fun h9 q9 b9 d9 => ?_
    have wC := b9 _ _ wB nwb2.symm
    refine ⟨wC, w_ifF rfl ?_⟩
    have bZ : But (· = w) h9 (upd h9 w (ob 0)) := .upd rfl
    have bE : But (fun c => c = w ∨ c = b2 ∨ sn.foot c) h6 (upd h9 w (ob 0)) := (((bA.mono fun c e => Or.inl e).trans (((But.of (F := fun c => c = w ∨ c = b2 ∨ sn.foot c) k7).trans b8 fun c g => .inl (.inr (.inr g))).trans b9 fun c e => .inl (.inr (.inl e))) fun c g => .inl g).trans bZ fun c e => .inl (.inl e))
    have f8' : ∀ c, s8.foot c → sn.foot c ∨ hA c = none := fun c g => (f8 c g).imp id fun z => k7.fresh z
    have nit6 : h6 it.block ≠ none := by obtain ⟨_, _, _, _, e, _⟩ := it6.ex; rw [e]; simp
    have fZ : ∀ c, s8.foot c → h c = none ∧ c ≠ w ∧ c ≠ it.block := fun c g => by
      rcases f8' c g with z | z
      · exact fs5 c z
      · exact ⟨k6.fresh (dA c z), fun e => (by rw [e, wA] at z; cases z), fun e => nit6 (dA _ (e ▸ z))⟩
    have bu9 := bu8.but b9 fun ad ha e => (bu8.typed ⟨ad, ha, rfl⟩).ne (.of q78) (by decide) e
    refine more _ _ (by omega) ⟨rest', some q, ks ++ [q.1], s8, it6.but bE (fun g => ?_) (fun g => ?_), by omega, by rw [List.length_append, hk]; rfl, ?_, upd_same _ _ _, bZ _ _ q9 nwb2, bu9.but bZ fun ad ha e => (fZ _ ⟨ad, ha, rfl⟩).2.1 e, fZ, k6.but bE fun c g => ?_⟩
    · rcases g with g | g | g
      · exact nitw g
      · exact nitb2 g
      · exact (fs5 _ g).2.2 rfl
    · rcases g with g | g | g
      · exact nbw g
      · exact nbb2 g
      · exact hb0 (fs5 _ g).1
    · refine List.Perm.trans ?_ pk
      rw [List.append_assoc]
      exact List.Perm.append_left ks (show ([q.1] ++ rest'.map (·.1)).Perm (rest.map (·.1)) from (pm.map Prod.fst).symm)
    · rcases g with rfl | rfl | g
      · exact hwh
      · exact b2h
      · exact (fs5 _ g).1
theorem t_keysL {b : Nat} {l : List (Int × Sl)} (x : MapOf (Value.int .i64) Sl.val h b l) (hn : l.length ≤ 2 ^ 20) {K : Sl → H → Prop} (y : ∀ s h', Buf (cInt .i64) 1 N_int h' s (isort (l.map (·.1))) → Keeps h h' → (∀ c, s.foot c → h c = none) → K s h') : m_maps_Keys_map_int_api_Cap_int_api_Cap (some b) (fun r => m_slices_Sorted_int r K) h := by
  unfold m_maps_Keys_map_int_api_Cap_int_api_Cap m_slices_Sorted_int m_slices_Collect_int m_slices_AppendSeq_int_int
  have hb0 : h b ≠ none := by obtain ⟨_, _, e, _⟩ := x; rw [e]; simp
  refine w_box fun b1 h1 f1 q1 k1 => w_box fun b2 h2 f2 q2 k2 => ?_
  have k12 := k1.trans k2
  refine ⟨190, Try.f190, #[], #[.pointer (some ⟨b1, 0, none⟩)], rfl, callee190, fun w ob bz hw law => ?_⟩
  have kw : Keeps h2 (upd h2 w (ob 0)) := .new hw
  suffices hm : m_maps_Keys_map_int_api_Cap_int_api_Cap_1 (⟨.func (.yield w) #[] #[], rfl, rfl⟩ : PV) ⟨b1, 0, none⟩ (fun _ h'' => ∃ j, h'' w = some (ob j) ∧ ∀ o, (fun (j5 : Nat) => mIf (Nat.beq j5 0) (mLoad cSl ⟨b2, 0, none⟩ fun x9 => m_slices_Sort_int_int x9 fun _ => K x9) nope) j (upd h'' w o)) (upd h2 w (ob 0)) from
    (s_maps_Keys_map_int_api_Cap_int_api_Cap_1.ok ((⟨.func (.yield w) #[] #[], rfl, rfl⟩ : PV), (⟨b1, 0, none⟩ : Addr)) (fun _ h'' => ∃ j, h'' w = some (ob j) ∧ ∀ o, (fun (j5 : Nat) => mIf (Nat.beq j5 0) (mLoad cSl ⟨b2, 0, none⟩ fun x9 => m_slices_Sort_int_int x9 fun _ => K x9) nope) j (upd h'' w o)) _ hm).mono (fun v h'' ⟨_, _, q⟩ => q) fun _ _ q => q
  have ww : upd h2 w (ob 0) w = some (ob 0) := upd_same _ _ _
  generalize upd h2 w (ob 0) = h3 at kw ww
  have k3 := k12.trans kw
  have hwh : h w = none := k12.fresh hw
  have q23 := kw _ _ q2
  have b2h : h b2 = none := k1.fresh f2
  have nwb2 : b2 ≠ w := fun e => by rw [e, hw] at q2; cases q2
  have nbw : b ≠ w := fun e => hb0 (e ▸ hwh)
  have nbb2 : b ≠ b2 := fun e => hb0 (e ▸ b2h)
  unfold m_maps_Keys_map_int_api_Cap_int_api_Cap_1
  refine w_load (v := some b) (cells := cMap) (at_box (cs := [Value.map (some b)]) (kw _ _ (k2 _ _ q1))) (w_range (x.keep k3) fun it h4 f4 it4 k4 => ?_)
  have nit : it.block ≠ b := fun e => by rw [e] at f4; exact hb0 (k3.fresh f4)
  have nitw : it.block ≠ w := fun e => by rw [e, ww] at f4; cases f4
  have nitb2 : it.block ≠ b2 := fun e => by rw [e, q23] at f4; cases f4
  have hith : h it.block = none := k3.fresh f4
  refine w_for l.length (fun j (_ : Unit) h' => ∃ rest at_ ks sn, IterOf (Value.int .i64) Sl.val h' it b l rest at_ ∧ rest.length + j = l.length ∧ ks.length = j ∧ (ks ++ rest.map (·.1)).Perm (l.map (·.1)) ∧ h' w = some (ob 0) ∧ h' b2 = some (.cells (cSl sn).toArray N_Sl_i64 (0, 0)) ∧ Buf (cInt .i64) 1 N_int h' sn ks ∧ (∀ c, sn.foot c → h c = none ∧ c ≠ w ∧ c ≠ it.block) ∧ Keeps h h') ?_
    ⟨l, none, [], Sl.nil, it4, rfl, rfl, .refl _, k4 _ _ ww, k4 _ _ q23, Buf.nil, fun c ⟨_, e, _⟩ => (by cases e), k3.trans k4⟩
  rintro rec j _ h5 hj ⟨rest, at_, ks, sn, it5, hl, hk, pk, w5, q5, bu5, fs5, k5⟩ more
  refine w_next it5 nit (fun e => w_ifF rfl ?_) fun q rest' h6 pm it6 b6 d6 => w_ifT rfl (w_entry it6 ?_)
  · subst e
    rw [List.map_nil, List.append_nil] at pk
    refine ⟨0, w5, fun o => w_ifT rfl ?_⟩
    have bo : But (· = w) h5 (upd h5 w o) := .upd rfl
    have q7 := bo _ _ q5 nwb2
    have bu7 := bu5.but bo fun ad ha e => (fs5 _ ⟨ad, ha, rfl⟩).2.1 e
    refine w_load (at_box q7) (t_Sort bu7 (by omega) fun h8 bu8 w8 => ?_)
    refine y sn h8 ?_ ((k5.but bo fun n e => by rw [e]; exact hwh).but w8.but fun n f => (fs5 n f).1) fun c g => (fs5 c g).1
    rw [show (ks.mergeSort fun x y => decide (x ≤ y)) = isort (l.map (·.1)) from isort_eq pk] at bu8
    exact bu8
  · have e2 := pm.length_eq
    simp only [List.length_cons] at e2
    have w6 := b6 _ _ w5 nitw.symm
    have q6 := b6 _ _ q5 nitb2.symm
    have bu6 := bu5.but b6 fun ad ha e => (fs5 _ ⟨ad, ha, rfl⟩).2.2 e
    have k6 : Keeps h h6 := k5.but b6 fun n e => by rw [e]; exact hith
    refine .inr ⟨w, rfl, law q.1 _ h6 w6 ⟨w6, ?_⟩⟩
    have bA : But (· = w) h6 (upd h6 w bz) := .upd rfl
    have wA : upd h6 w bz w = some bz := upd_same _ _ _
    have dA : ∀ c, upd h6 w bz c = none → h6 c = none := fun c e => (upd_none.1 e).2
    generalize upd h6 w bz = hA at bA wA dA
    have qA := bA _ _ q6 nwb2
    have buA := bu6.but bA fun ad ha e => (fs5 _ ⟨ad, ha, rfl⟩).2.1 e
    refine w_load (at_box qA) (w_box fun b7 h7 f7 q7 k7 => ?_)
    have one : Buf (cInt .i64) 1 N_int h7 ⟨some ⟨b7, 0, none⟩, 1, 1⟩ [q.1] := Buf.one ci_len q7
    refine w_append (by_ := 8) ci_len (fun _ => rfl) rfl (buA.keep k7) one.arr (.inl (by simp only [List.length_singleton]; omega)) fun s8 h8 bu8 b8 f8 d8 => ?_
    have q78 := b8 _ _ (k7 _ _ qA) fun g => (buA.typed g).ne (.of qA) (by decide) rfl
    have wB := b8 _ _ (k7 _ _ wA) fun g => (fs5 w g).2.1 rfl
    refine w_setBox q78 rfl fun h9 q9 b9 d9 => ?_
    have wC := b9 _ _ wB nwb2.symm
    refine ⟨wC, w_ifF rfl ?_⟩
    have bZ : But (· = w) h9 (upd h9 w (ob 0)) := .upd rfl
    have bE : But (fun c => c = w ∨ c = b2 ∨ sn.foot c) h6 (upd h9 w (ob 0)) := (((bA.mono fun c e => Or.inl e).trans (((But.of (F := fun c => c = w ∨ c = b2 ∨ sn.foot c) k7).trans b8 fun c g => .inl (.inr (.inr g))).trans b9 fun c e => .inl (.inr (.inl e))) fun c g => .inl g).trans bZ fun c e => .inl (.inl e))
    have f8' : ∀ c, s8.foot c → sn.foot c ∨ hA c = none := fun c g => (f8 c g).imp id fun z => k7.fresh z
    have nit6 : h6 it.block ≠ none := by obtain ⟨_, _, _, _, e, _⟩ := it6.ex; rw [e]; simp
    have fZ : ∀ c, s8.foot c → h c = none ∧ c ≠ w ∧ c ≠ it.block := fun c g => by
      rcases f8' c g with z | z
      · exact fs5 c z
      · exact ⟨k6.fresh (dA c z), fun e => (by rw [e, wA] at z; cases z), fun e => nit6 (dA _ (e ▸ z))⟩
    have bu9 := bu8.but b9 fun ad ha e => (bu8.typed ⟨ad, ha, rfl⟩).ne (.of q78) (by decide) e
    refine more _ _ (by omega) ⟨rest', some q, ks ++ [q.1], s8, it6.but bE (fun g => ?_) (fun g => ?_), by omega, by rw [List.length_append, hk]; rfl, ?_, upd_same _ _ _, bZ _ _ q9 nwb2, bu9.but bZ fun ad ha e => (fZ _ ⟨ad, ha, rfl⟩).2.1 e, fZ, k6.but bE fun c g => ?_⟩
    · rcases g with g | g | g
      · exact nitw g
      · exact nitb2 g
      · exact (fs5 _ g).2.2 rfl
    · rcases g with g | g | g
      · exact nbw g
      · exact nbb2 g
      · exact hb0 (fs5 _ g).1
    · refine List.Perm.trans ?_ pk
      rw [List.append_assoc]
      exact List.Perm.append_left ks (show ([q.1] ++ rest'.map (·.1)).Perm (rest.map (·.1)) from (pm.map Prod.fst).symm)
    · rcases g with rfl | rfl | g
      · exact hwh
      · exact b2h
      · exact (fs5 _ g).1
end
section
variable {ts : List Tk}
inductive Anc (ts : List Tk) : Int → Tk → Prop
  | here {n : Int} {t : Tk} : t.xparent = n → Anc ts n t
  | up {n : Int} {t u : Tk} : u ∈ ts → u.xname = t.xparent → Anc ts n u → Anc ts n t
structure TsOk (ts : List Tk) : Prop where
  lt : ∀ t ∈ ts, t.xparent < t.xname
  inj : ts.Pairwise fun t u => t.xname < u.xname
theorem TsOk.one (k : TsOk ts) {t u : Tk} (ht : t ∈ ts) (hu : u ∈ ts) (e : t.xname = u.xname) : t = u := by
  have := k.inj
  clear k
  induction ts with
  | nil => cases ht
  | cons a r ih =>
    obtain ⟨h1, h2⟩ := List.pairwise_cons.1 this
    rcases List.mem_cons.1 ht with e1 | ht'
    · rcases List.mem_cons.1 hu with e2 | hu'
      · rw [e1, e2]
      · have := h1 u hu'; rw [e1] at e; omega
    · rcases List.mem_cons.1 hu with e2 | hu'
      · have := h1 t ht'; rw [e2] at e; omega
      · exact ih ht' hu' h2
theorem anc_le (k : TsOk ts) {n : Int} {t : Tk} (a : Anc ts n t) : n ≤ t.xparent := by
  induction a with
  | here e => omega
  | up hu e _ ih => have := k.lt _ hu; omega
theorem anc_apart (k : TsOk ts) {c c' : Tk} (hc : c ∈ ts) (hc' : c' ∈ ts) {n : Int} (pc : c.xparent = n) (pc' : c'.xparent = n) (ne : c.xname ≠ c'.xname) {t : Tk} (a : Anc ts c.xname t) (b : Anc ts c'.xname t) : False := by
  have l1 := k.lt c hc
  have l2 := k.lt c' hc'
  generalize ea : c.xname = x at a
  induction a with
  | here e =>
    subst ea
    cases b with
    | here e' => omega
    | up hu e' b' =>
      have := k.one hu hc (e'.trans e)
      subst this
      have := anc_le k b'
      omega
  | up hu e a' ih =>
    subst ea
    cases b with
    | here e' =>
      have := k.one hu hc' (e.trans e')
      subst this
      have := anc_le k a'
      omega
    | up hu' e' b' =>
      have := k.one hu hu' (e.trans e'.symm)
      subst this
      exact ih b'
noncomputable def cP (A : Tk → Prop) (l : List Tk) : Nat := l.countP fun t => @decide (A t) (Classical.propDecidable _)
theorem cP_pos {A : Tk → Prop} {a : Tk} {r : List Tk} (h : A a) : cP A (a :: r) = cP A r + 1 := by
  unfold cP
  rw [List.countP_cons, if_pos (@decide_eq_true _ (Classical.propDecidable _) h)]
theorem cP_neg {A : Tk → Prop} {a : Tk} {r : List Tk} (h : ¬ A a) : cP A (a :: r) = cP A r := by
  unfold cP
  rw [List.countP_cons, if_neg fun z => h (@of_decide_eq_true _ (Classical.propDecidable _) z)]; rfl
theorem cP_mono {A B : Tk → Prop} {l : List Tk} (h : ∀ t ∈ l, A t → B t) : cP A l ≤ cP B l := List.countP_mono_left fun t ht e => @decide_eq_true _ (Classical.propDecidable _) (h t ht (@of_decide_eq_true _ (Classical.propDecidable _) e))
theorem cP_one {A : Tk → Prop} {l : List Tk} {c : Tk} (hc : c ∈ l) (h : A c) : 1 ≤ cP A l := List.countP_pos_iff.2 ⟨c, hc, @decide_eq_true _ (Classical.propDecidable _) h⟩
theorem count_or {A B : Tk → Prop} : ∀ {l : List Tk}, (∀ t ∈ l, ¬ (A t ∧ B t)) → cP A l + cP B l ≤ cP (fun t => A t ∨ B t) l
  | [], _ => Nat.le_refl _
  | a :: r, h => by
    have ih := count_or (l := r) fun t ht => h t (List.mem_cons_of_mem _ ht)
    have ha := h a (List.mem_cons_self ..)
    by_cases x : A a
    · by_cases y : B a
      · exact absurd ⟨x, y⟩ ha
      · rw [cP_pos x, cP_neg y, cP_pos (A := fun t => A t ∨ B t) (.inl x)]; omega
    · by_cases y : B a
      · rw [cP_neg x, cP_pos y, cP_pos (A := fun t => A t ∨ B t) (.inr y)]; omega
      · rw [cP_neg x, cP_neg y, cP_neg (A := fun t => A t ∨ B t) (fun z => z.elim x y)]; omega
def cntB (ts : List Tk) (o : Int) : Nat → Int → Nat
  | 0, _ => 0
  | f + 1, n => (ts.map fun t => if t.xcap.Obj = o ∧ t.xparent = n then 1 + cntB ts o f t.xname else 0).sum
theorem cnt_anc (k : TsOk ts) {o : Int} : ∀ (f : Nat) (n : Int), cntB ts o f n ≤ cP (Anc ts n) ts
  | 0, _ => Nat.zero_le _
  | f + 1, n => by
    have key : ∀ l : List Tk, (∀ t ∈ l, t ∈ ts) → l.Pairwise (fun t u => t.xname < u.xname) → (l.map fun t => if t.xcap.Obj = o ∧ t.xparent = n then 1 + cntB ts o f t.xname else 0).sum ≤ cP (fun t => ∃ c ∈ l, c.xparent = n ∧ (t = c ∨ Anc ts c.xname t)) ts := by
      intro l
      induction l with
      | nil => intro _ _; exact Nat.zero_le _
      | cons c r ih =>
        intro hm hp
        obtain ⟨h1, h2⟩ := List.pairwise_cons.1 hp
        have hc := hm c (List.mem_cons_self ..)
        have i := ih (fun t ht => hm t (List.mem_cons_of_mem _ ht)) h2
        rw [List.map_cons, List.sum_cons]
        by_cases q : c.xcap.Obj = o ∧ c.xparent = n
        · rw [if_pos q]
          have c1 := cnt_anc k f c.xname (o := o)
          have c2 : 1 ≤ cP (fun t => t = c) ts := cP_one hc rfl
          have c3 := count_or (A := fun t => t = c) (B := fun t => Anc ts c.xname t) (l := ts) fun t _ ⟨e, a⟩ => by
            subst e
            have := anc_le k a
            have := k.lt t hc
            omega
          have c4 := count_or (A := fun t => t = c ∨ Anc ts c.xname t) (B := fun t => ∃ c ∈ r, c.xparent = n ∧ (t = c ∨ Anc ts c.xname t)) (l := ts) fun t ht ⟨a, c', hc', pc', b⟩ => by
            have ne := h1 c' hc'
            have hc2 := hm c' (List.mem_cons_of_mem _ hc')
            have l1 := k.lt c hc
            have l2 := k.lt c' hc2
            rcases a with rfl | a
            · rcases b with rfl | b
              · omega
              · have := anc_le k b; omega
            · rcases b with rfl | b
              · have := anc_le k a; omega
              · exact anc_apart k hc hc2 q.2 pc' (by omega) a b
          have c5 : cP (fun t => (t = c ∨ Anc ts c.xname t) ∨ ∃ c ∈ r, c.xparent = n ∧ (t = c ∨ Anc ts c.xname t)) ts ≤ cP (fun t => ∃ c' ∈ c :: r, c'.xparent = n ∧ (t = c' ∨ Anc ts c'.xname t)) ts := cP_mono fun t _ ht => by
            rcases ht with ht | ⟨c', h, h'⟩
            · exact ⟨c, List.mem_cons_self .., q.2, ht⟩
            · exact ⟨c', List.mem_cons_of_mem _ h, h'⟩
          have c1 : cntB ts o f c.xname ≤ cP (fun t => Anc ts c.xname t) ts := c1
          omega
        · rw [if_neg q, Nat.zero_add]
          refine Nat.le_trans i (cP_mono fun t _ ht => ?_)
          obtain ⟨c', h, h'⟩ := ht
          exact ⟨c', List.mem_cons_of_mem _ h, h'⟩
    refine Nat.le_trans (key ts (fun _ h => h) k.inj) (cP_mono fun t ht e => ?_)
    obtain ⟨c, hc, pc, rfl | a⟩ := e
    · exact .here pc
    · have : ∀ {t : Tk}, Anc ts c.xname t → Anc ts n t := fun a => by
        generalize ex : c.xname = x at a
        induction a with
        | here e => exact .up hc (ex.trans e.symm) (.here pc)
        | up hu e _ ih => exact .up hu e ih
      exact this a
theorem cntB_le (k : TsOk ts) (o : Int) (f : Nat) (n : Int) : cntB ts o f n ≤ ts.length := Nat.le_trans (cnt_anc k f n) List.countP_le_length
def belF (ts : List Tk) (o : Int) (f : Nat) (n at_ : Int) (out : List S_api_Token) (t : Tk) : List S_api_Token := if t.xcap.Obj = o ∧ t.xparent = n then belowO ts o f t.xname (out.length : Int) (out ++ [⟨t.xcap, t.xrights, at_⟩]) else out
theorem belowO_succ (o : Int) (f : Nat) (n at_ : Int) (out : List S_api_Token) : belowO ts o (f + 1) n at_ out = ts.foldl (belF ts o f n at_) out := rfl
theorem below_len (o : Int) : ∀ (f : Nat) (n at_ : Int) (out : List S_api_Token), (belowO ts o f n at_ out).length = out.length + cntB ts o f n
  | 0, _, _, _ => rfl
  | f + 1, n, at_, out => by
    have key : ∀ (l : List Tk) (out : List S_api_Token), (l.foldl (belF ts o f n at_) out).length = out.length + (l.map fun t => if t.xcap.Obj = o ∧ t.xparent = n then 1 + cntB ts o f t.xname else 0).sum := by
      intro l
      induction l with
      | nil => intro out; rfl
      | cons t r ih =>
        intro out
        rw [List.foldl_cons, ih, List.map_cons, List.sum_cons]
        unfold belF
        by_cases q : t.xcap.Obj = o ∧ t.xparent = n
        · rw [if_pos q, if_pos q, below_len o f, List.length_append, List.length_singleton]; omega
        · rw [if_neg q, if_neg q]; omega
    rw [belowO_succ, key]; rfl
end
theorem belF_len {ts : List Tk} (o : Int) (f : Nat) (n at_ : Int) : ∀ (l : List Tk) (out : List S_api_Token), (l.foldl (belF ts o f n at_) out).length = out.length + (l.map fun t => if t.xcap.Obj = o ∧ t.xparent = n then 1 + cntB ts o f t.xname else 0).sum
  | [], out => rfl
  | t :: r, out => by
    rw [List.foldl_cons, belF_len o f n at_ r, List.map_cons, List.sum_cons]
    unfold belF
    by_cases q : t.xcap.Obj = o ∧ t.xparent = n
    · rw [if_pos q, if_pos q, below_len o f, List.length_append, List.length_singleton]; omega
    · rw [if_neg q, if_neg q]; omega
theorem above_lt {ts : List Tk} (k : TsOk ts) {t : Tk} (ht : t ∈ ts) {n : Int} (e : t.xparent = n) : cP (fun u => t.xname < u.xname) ts + 1 ≤ cP (fun u => n < u.xname) ts := by
  have c2 : 1 ≤ cP (fun u => u = t) ts := cP_one ht rfl
  have c3 := count_or (A := fun u => t.xname < u.xname) (B := fun u => u = t) (l := ts) fun u _ ⟨a, e⟩ => by subst e; omega
  have l1 := k.lt t ht
  have c5 : cP (fun u => t.xname < u.xname ∨ u = t) ts ≤ cP (fun u => n < u.xname) ts := cP_mono fun u _ h => by
    rcases h with h | rfl
    · omega
    · omega
  omega
section
variable {p : Nat} {F : Nat → Prop} {m : MdS}
theorem MSI.ok (i : MSI m) : TsOk m.ts := ⟨fun t ht => (i.tsm t ht).2.2.2, i.tsp⟩
theorem t_below_n (i : MSI m) (o : Int) : ∀ (f : Nat) {h : H} {name at_ : Int} {s : Sl} {out : List S_api_Token}, PM h p F m → Buf S_api_Token.cells 5 N_api_Token h s out → (∀ c, s.foot c → ¬ F c) → cP (fun u => name < u.xname) m.ts < f → out.length + cntB m.ts o f name ≤ 2 ^ 30 → ∀ {K : Sl → H → Prop},
    (∀ s' h', Buf S_api_Token.cells 5 N_api_Token h' s' (belowO m.ts o f name at_ out) → But s.foot h h' → (∀ c, s'.foot c → s.foot c ∨ h c = none) → (∀ c, h' c = none → h c = none) → K s' h') → m_plain_Model_below_n f (some ⟨p, 0, none⟩) s o name at_ K h
  | 0, _, _, _, _, _, _, _, _, me, _, _, _ => absurd me (Nat.not_lt_zero _)
  | f + 1, h, name, at_, s, out, x, b, ns, me, room, K, y => by
    show m_plain_Model_below_s (m_plain_Model_below_n f) (some ⟨p, 0, none⟩) s o name at_ K h
    unfold m_plain_Model_below_s
    have tl : ∀ x : S_api_Token, (S_api_Token.cells x).length = 5 := fun _ => rfl
    have x0 := x
    obtain ⟨bo, bl, sd, st, so, sl, x⟩ := x
    have hl := x.ts.len
    have tn := i.tsn
    have nst : ∀ c, st.foot c → ¬ s.foot c := fun c g g' => ns c g' (x.ft c g)
    rw [belowO_succ] at y
    have rm : ∀ j, ((m.ts.take j).foldl (belF m.ts o f name at_) out).length ≤ 2 ^ 30 := fun j => by
      rw [belF_len]
      have e : (m.ts.map fun t => if t.xcap.Obj = o ∧ t.xparent = name then 1 + cntB m.ts o f t.xname else 0).sum = cntB m.ts o (f + 1) name := rfl
      have e2 := congrArg (fun l => (l.map fun t : Tk => if t.xcap.Obj = o ∧ t.xparent = name then 1 + cntB m.ts o f t.xname else 0).sum) (List.take_append_drop j m.ts)
      simp only [List.map_append, List.sum_append] at e2
      omega
    refine w_deref (w_load x.f13 (w_for m.ts.length (fun j (z : Sl × Int) hh => z.2 = (j : Int) ∧ Buf S_api_Token.cells 5 N_api_Token hh z.1 ((m.ts.take j).foldl (belF m.ts o f name at_) out) ∧ But s.foot h hh ∧ (∀ c, z.1.foot c → s.foot c ∨ h c = none) ∧ ∀ c, hh c = none → h c = none) ?_ ⟨rfl, b, .refl _ _, fun _ g => .inl g, fun _ q => q⟩))
    rintro rec j ⟨sj, _⟩ hh hj ⟨ej, bj, bt, fj, dj⟩ more
    have ej : _ = (j : Int) := ej
    subst ej
    have fj : ∀ c, sj.foot c → s.foot c ∨ h c = none := fj
    have bj : Buf S_api_Token.cells 5 N_api_Token hh sj ((m.ts.take j).foldl (belF m.ts o f name at_) out) := bj
    have xh : PM hh p F m := x0.but bt (fun c g g' => ns c g' g) dj
    have nsj : ∀ c, sj.foot c → ¬ F c := fun c g g' => (fj c g).elim (fun g => ns c g g') fun z => x.has c g' z
    have tsh : Buf cTk 6 N_plain_token hh st m.ts := x.ts.but bt fun ad ha g => nst _ ⟨ad, ha, rfl⟩ g
    refine w_if' (fun c => ?_) fun c => ?_
    · have c : (j : Int) < (st.len : Int) := c
      have hjl : j < m.ts.length := by omega
      have ht := List.getElem?_eq_getElem hjl
      have hm := List.getElem_mem hjl
      generalize m.ts[j] = t at ht hm
      have fs : (m.ts.take (j + 1)).foldl (belF m.ts o f name at_) out = belF m.ts o f name at_ ((m.ts.take j).foldl (belF m.ts o f name at_) out) t := by rw [List.take_add_one, ht, List.foldl_append]; rfl
      have r1 := rm (j + 1)
      have r0 := rm j
      rw [fs] at r1
      generalize (m.ts.take j).foldl (belF m.ts o f name at_) out = cur at bj fs r1 r0
      refine w_get ptk_len tsh.arr ht rfl rfl (w_if (fun q => ?_) fun q => ?_)
      · have q : t.xcap.Obj = o ∧ t.xparent = name := by simpa using q
        rw [belF, if_pos q, below_len] at r1
        rw [belF, if_pos q] at fs
        rw [List.length_append, List.length_singleton] at r1
        refine w_app tl rfl bj [(⟨t.xcap, t.xrights, at_⟩ : S_api_Token)] rfl rfl (.inl (by show (2 * (_ + 1) + 192) * 40 ≤ 2 ^ 48; omega)) fun s7 h7 b7 bt7 f7 d7 => ?_
        have l7 := b7.len
        rw [List.length_append, List.length_singleton] at l7
        have x7 : PM h7 p F m := xh.but bt7 (fun c g g' => nsj c g' g) d7
        have ns7 : ∀ c, s7.foot c → ¬ F c := fun c g g' => (f7 c g).elim (fun g => nsj c g g') fun z => xh.has c g' z
        have me' := above_lt i.ok hm q.2
        have eat : iSub .i64 (s7.len : Int) 1 = (cur.length : Int) := by rw [iSub_eq (by omega) (by omega)]; omega
        rw [eat]
        refine t_below_n i o f x7 b7 ns7 (by omega) (by rw [List.length_append, List.length_singleton]; omega) fun s8 h8 b8 bt8 f8 d8 => ?_
        have btj : But (fun c => s.foot c) h h8 := (bt.trans bt7 fun c g => fj c g).trans bt8 fun c g => (f7 c g).elim (fun g => fj c g) fun z => .inr (dj c z)
        refine more _ _ hjl ⟨ia1 j (by omega), by rw [fs]; exact b8, btj, fun c g => ?_, fun c z => dj c (d7 c (d8 c z))⟩
        rcases f8 c g with g | z
        · rcases f7 c g with g | z
          · exact fj c g
          · exact .inr (dj c z)
        · exact .inr (dj c (d7 c z))
      · have q : ¬ (t.xcap.Obj = o ∧ t.xparent = name) := fun z => by
          have : (decide (t.xcap.Obj = o) && decide (t.xparent = name)) = true := by simpa using z
          rw [this] at q; cases q
        rw [belF, if_neg q] at fs
        exact more _ _ hjl ⟨ia1 j (by omega), by rw [fs]; exact bj, bt, fj, dj⟩
    · have c : ¬ (j : Int) < (st.len : Int) := c
      rw [List.take_of_length_le (by omega)] at bj
      exact y sj hh bj bt fj dj
theorem t_below (i : MSI m) {o : Int} {h : H} {s : Sl} {out : List S_api_Token} (x : PM h p F m) (b : Buf S_api_Token.cells 5 N_api_Token h s out) (ns : ∀ c, s.foot c → ¬ F c) (room : out.length ≤ 2 ^ 29) {K : Sl → H → Prop}
    (y : ∀ s' h', Buf S_api_Token.cells 5 N_api_Token h' s' (belowO m.ts o (m.ts.length + 1) 0 (-1) out) → (belowO m.ts o (m.ts.length + 1) 0 (-1) out).length ≤ out.length + 256 → But s.foot h h' → (∀ c, s'.foot c → s.foot c ∨ h c = none) → (∀ c, h' c = none → h c = none) → K s' h') : m_plain_Model_below (some ⟨p, 0, none⟩) s o 0 (-1) K h := by
  have cl := cntB_le i.ok o (m.ts.length + 1) 0
  have tn := i.tsn
  exact ⟨m.ts.length + 1, t_below_n i o (m.ts.length + 1) x b ns (Nat.lt_succ_of_le List.countP_le_length) (by omega) fun s' h' b' => y s' h' b' (by rw [below_len]; omega)⟩
end
section
variable {m : MdS}
structure MSR (m : MdS) : Prop where
  ob : (m.ob.map (·.1)).Pairwise (· < ·)
  ls : (m.ls.map (·.1)).Pairwise (· < ·)
theorem rise_del {V : Type} {l : List (Int × V)} (o : Once l) (h : (l.map (·.1)).Pairwise (· < ·)) (k : Int) : ((adel l k).map (·.1)).Pairwise (· < ·) := by
  rw [adel_keys _ _ o]
  exact h.sublist List.erase_sublist
theorem rise_new {V : Type} {l : List (Int × V)} (h : (l.map (·.1)).Pairwise (· < ·)) {k : Int} {v : V} (b : ∀ q ∈ l, q.1 < k) : ((l ++ [(k, v)]).map (·.1)).Pairwise (· < ·) := by
  rw [List.map_append]
  refine List.pairwise_append.2 ⟨h, List.pairwise_singleton _ _, fun a ha c hc => ?_⟩
  obtain ⟨q, hq, rfl⟩ := List.mem_map.1 ha
  have : c = k := by simpa using hc
  rw [this]; exact b q hq
theorem rise_set {V : Type} {l : List (Int × V)} (h : (l.map (·.1)).Pairwise (· < ·)) {k : Int} {v : V} (hk : k ∈ l.map (·.1)) : ((aset l k v).map (·.1)).Pairwise (· < ·) := by
  rw [aset_map, if_pos hk]; exact h
theorem der_same (o r name : Int) : ∀ n tk, (derO m o r name tk n).2.ob = m.ob ∧ (derO m o r name tk n).2.ls = m.ls
  | 0, _ => ⟨rfl, rfl⟩
  | n + 1, tk => by
    rw [derO]
    split
    · exact ⟨rfl, rfl⟩
    · split
      · exact der_same o r name n (tk + 1)
      · exact ⟨rfl, rfl⟩
theorem derive_same (c : S_api_Cap) (r : Int) : (deriveO m c r).2.ob = m.ob ∧ (deriveO m c r).2.ls = m.ls := by
  unfold deriveO
  repeat' split
  all_goals first | exact der_same _ _ _ _ _ | exact ⟨rfl, rfl⟩
theorem MSR.same {m' : MdS} (x : MSR m) (e : m'.ob = m.ob ∧ m'.ls = m.ls) : MSR m' := ⟨e.1 ▸ x.ob, e.2 ▸ x.ls⟩
theorem MSR.gone (x : MSR m) (i : MSI m) (o : Int) : MSR (goneO m o) := ⟨rise_del i.obo x.ob o, x.ls⟩
theorem rise_do (x : MSR m) (i : MSI m) (c : S_api_Call) (ds : List UInt8) (gs : List Int) : MSR (doO m c ds gs).2 := by
  unfold doO
  by_cases q0 : formedO c ds gs
  · rw [if_pos q0]
    by_cases hl : (alook m.ls c.By).isSome = true
    · rw [if_pos hl]
      by_cases q : c.Op = 1
      · rw [if_pos q]
        unfold createO
        repeat' split
        all_goals first | exact x | exact ⟨rise_new x.ob fun q hq => (i.obk q hq).2, x.ls⟩
      rw [if_neg q]; clear q
      by_cases q : c.Op = 2
      · rw [if_pos q]
        unfold destroyO
        split
        · exact x
        · exact x.gone i _
      rw [if_neg q]; clear q
      by_cases q : c.Op = 3
      · rw [if_pos q]; exact x.same (derive_same _ _)
      rw [if_neg q]; clear q
      by_cases q : c.Op = 4
      · rw [if_pos q]
        unfold revokeO
        repeat' split
        all_goals first | exact x.gone i _ | exact ⟨x.ob, x.ls⟩
      rw [if_neg q]; clear q
      by_cases q : c.Op = 5
      · rw [if_pos q, (read_sh c).1]; exact x
      rw [if_neg q]; clear q
      by_cases q : c.Op = 6
      · rw [if_pos q]
        unfold writeO
        dsimp only
        split
        · next q1 =>
          split
          · exact ⟨rise_set x.ob (may_here i q1), x.ls⟩
          · exact x
        · exact x
      rw [if_neg q]; clear q
      by_cases q : c.Op = 7
      · rw [if_pos q]
        unfold addO
        repeat' split
        all_goals first | exact x | exact ⟨x.ob, rise_set x.ls (look_key hl)⟩
      rw [if_neg q]; clear q
      by_cases q : c.Op = 8
      · rw [if_pos q]
        unfold removeO
        split
        · exact x
        · exact ⟨x.ob, rise_set x.ls (look_key hl)⟩
      rw [if_neg q]; clear q
      by_cases q : c.Op = 9
      · rw [if_pos q]
        unfold spawnO
        repeat' split
        all_goals first | exact x | exact ⟨x.ob, rise_new x.ls fun q hq => (i.lsk q hq).2⟩
      rw [if_neg q]
      exact ⟨x.ob, rise_del i.lso x.ls _⟩
    · rw [if_neg hl]; exact x
  · rw [if_neg q0]; exact x
theorem rise_newO (c : S_api_Config) (dr : List S_api_Word) : MSR (newO c dr) := ⟨List.Pairwise.nil, List.pairwise_singleton _ _⟩
theorem isort_rise {l : List Int} (h : l.Pairwise (· < ·)) : isort l = l := by
  have hn : l.Nodup := h.imp fun {a b} q e => by omega
  exact rising_eq (isort_rising hn) h fun x => (isort_perm l).mem_iff
end
section
variable {T : Type} {cells : T → List Value} {sz : Nat} {e : TypeId}
theorem w_cloneMap (cl : Sl → (Sl → H → Prop) → H → Prop)
    (hcl : ∀ {h : H} {s : Sl} {xs : List T} {k : Sl → H → Prop}, Arr cells h s xs → xs.length ≤ 2 ^ 20 → (∀ s' h', Buf cells sz e h' s' xs → Keeps h h' → (∀ c, s'.foot c → h c = none) → k s' h') → cl s k h)
    {t : TypeId} (hu : Try.prog.underlying t = some (.int .i64)) {h0 h : H} {b d : Nat} {so : List (Int × Sl)} {ob : List (Int × List T)} {F : Nat → Prop} (kp : Keeps h0 h) (mo : MapOf (Value.int .i64) Sl.val h0 b so) (ro : Rows cells sz e h0 F so ob) (md : MapOf (Value.int .i64) Sl.val h d ([] : List (Int × Sl))) (fd : h0 d = none)
    (hn : ∀ q ∈ ob, q.2.length ≤ 2 ^ 20) {K : H → Prop}
    (y : ∀ h' (sd : List (Int × Sl)) (ks : List Int) (G : Nat → Prop), MapOf (Value.int .i64) Sl.val h' d sd → Rows cells sz e h' G sd (ks.map fun k => (k, (alook ob k).getD [])) → ks.Perm (ob.map (·.1)) → But (· = d) h h' → (∀ c, h' c = none → h c = none) → (∀ c, G c → h c = none) → (∀ c, G c → h' c ≠ none) → K h') :
    mRange (some b) (fun it => mLoop (fun (rec : Unit → H → Prop) (_ : Unit) => mNext it fun n => mIf n.1 (mEntry (Value.int .i64) Sl.val it fun e15 => cl e15.2 fun r16 => mMapSet (eqV Try.prog 40 t) (some d) (Value.int .i64 e15.1) (Sl.val r16) <| rec ()) K) ()) h := by
  have hb0 : h0 b ≠ none := by obtain ⟨_, _, e, _⟩ := mo; rw [e]; simp
  have hd0 : h d ≠ none := by obtain ⟨_, _, e, _⟩ := md; rw [e]; simp
  have nbd : b ≠ d := fun e => hb0 (e ▸ fd)
  refine w_range (mo.keep kp) fun it h1 f1 it1 k1 => ?_
  have nit : it.block ≠ b := fun e => by rw [e] at f1; exact hb0 (kp.fresh f1)
  have nitd : it.block ≠ d := fun e => by rw [e] at f1; exact hd0 f1
  have osd := ro.onceS
  refine w_for so.length (fun j (_ : Unit) hh => ∃ (rest : List (Int × Sl)) (at_ : Option (Int × Sl)) (ks : List Int) (sd : List (Int × Sl)) (G : Nat → Prop), IterOf (Value.int .i64) Sl.val hh it b so rest at_ ∧ rest.length + j = so.length ∧ (ks ++ rest.map (·.1)).Perm (so.map (·.1)) ∧ MapOf (Value.int .i64) Sl.val hh d sd ∧ Rows cells sz e hh G sd (ks.map fun k => (k, (alook ob k).getD [])) ∧ (∀ c, G c → h c = none ∧ c ≠ it.block ∧ hh c ≠ none) ∧ But (· = d) h hh ∧ (∀ c, hh c = none → h c = none) ∧ ∀ q ∈ rest, alook so q.1 = some q.2) ?_
    ⟨so, none, [], [], fun _ => False, it1, rfl, .refl _, md.keep k1, Rows.nil, fun _ q => q.elim, .of k1, fun _ => k1.fresh, fun q hq => osd.look hq⟩
  rintro rec j _ h2 hj ⟨rest, at_, ks, sd, G, it2, hl, pk, m2, r2, g2, b2, d2, lk⟩ more
  refine w_next it2 nit (fun e => w_ifF rfl ?_) fun q rest' h3 pm it3 b3 d3 => w_ifT rfl (w_entry it3 ?_)
  · subst e
    rw [List.map_nil, List.append_nil, ro.keys] at pk
    exact y h2 sd ks G m2 r2 pk b2 d2 (fun c g => (g2 c g).1) fun c g => (g2 c g).2.2
  · have e2 := pm.length_eq
    simp only [List.length_cons] at e2
    have hq := lk q (pm.symm.subset (List.mem_cons_self ..))
    have k03 : Keeps h0 h3 := (kp.but b2 fun n e => by rw [e]; exact fd).but b3 fun n e => by rw [e]; exact kp.fresh f1
    have hs := alook_some ro.keys q.1
    rw [hq] at hs
    cases hx : alook ob q.1 with
    | none => rw [hx] at hs; cases hs
    | some xs =>
    have bx := (ro.buf _ _ _ hq hx).keep k03
    have m3 := m2.but b3 fun z => nitd z.symm
    have r3 := r2.but b3 fun i s q c g z => (g2 c (r2.foot i s q c g)).2.1 z
    refine hcl bx.arr (hn _ (alook_mem hx)) fun s4 h4 b4 k4 f4 => ?_
    have m4 := m3.keep k4
    have r4 := (r3.but (But.of (F := fun _ => False) k4) fun _ _ _ _ _ z => z)
    have G3 : ∀ c, G c → h3 c ≠ none := fun c g z => (g2 c g).2.2 (d3 c z)
    have r4' := r4.give (k := q.1) b4 fun c g g' => G3 c g' (f4 c g)
    refine w_mapSet (keyP hu) m4 rfl rfl fun h5 m5 b5 d5 => ?_
    have r5 := r4'.but b5 fun i s q' c g e => m4.untyped (r4'.typed q' g) e
    have nk : q.1 ∉ ks := fun z => by
      have nd : (ks ++ rest.map (·.1)).Nodup := pk.symm.nodup osd
      have hm : q.1 ∈ rest.map (·.1) := List.mem_map_of_mem (pm.symm.subset (List.mem_cons_self ..))
      exact (List.nodup_append.1 nd).2.2 _ z _ hm rfl
    have eo : aset (ks.map fun k => (k, (alook ob k).getD [])) q.1 xs = (ks ++ [q.1]).map fun k => (k, (alook ob k).getD []) := by
      rw [aset_new (by rw [List.map_map]; simpa using nk), List.map_append]
      show _ = _ ++ [(q.1, (alook ob q.1).getD [])]
      rw [hx]; rfl
    rw [eo] at r5
    have bt : But (· = d) h h5 := ((b2.trans b3 fun n e => .inr (by rw [e]; exact f1)).trans (But.of (F := (· = d)) k4) fun n e => .inl e).trans b5 fun n e => .inl e
    have it3e : h3 it.block ≠ none := by obtain ⟨_, _, _, _, e, _⟩ := it3.ex; rw [e]; simp
    refine more _ _ (by omega) ⟨rest', some q, ks ++ [q.1], aset sd q.1 s4, fun c => G c ∨ s4.foot c, (it3.keep k4).but b5 (fun z => nitd z) (fun z => nbd z), by omega, ?_, m5, r5, fun c g => ?_, bt, fun c z => d2 c (d3 c (k4.fresh (d5 c z))), fun z hz => lk z (pm.symm.subset (List.mem_cons_of_mem _ hz))⟩
    · refine List.Perm.trans ?_ pk
      rw [List.append_assoc]
      exact List.Perm.append_left ks (show ([q.1] ++ rest'.map (·.1)).Perm (rest.map (·.1)) from (pm.map Prod.fst).symm)
    · rcases g with g | g
      · exact ⟨(g2 c g).1, (g2 c g).2.1, fun z => G3 c g (k4.fresh (d5 c z))⟩
      · exact ⟨d2 c (d3 c (f4 c g)), fun e => it3e (e ▸ f4 c g), fun z => b4.has g (d5 c z)⟩
end
section
variable {T : Type} {cells : T → List Value} {sz : Nat} {e : TypeId}
theorem alook_of {V : Type} (g : Int → V) {l : List Int} {k : Int} {v : V} (h : alook (l.map fun k => (k, g k)) k = some v) : k ∈ l ∧ v = g k := by
  have hm := alook_mem h
  obtain ⟨q, hq, eq⟩ := List.mem_map.1 hm
  cases eq
  exact ⟨hq, rfl⟩
theorem alook_in {V : Type} (g : Int → V) : ∀ {l : List Int} {k : Int}, k ∈ l → alook (l.map fun k => (k, g k)) k = some (g k)
  | a :: r, k, h => by
    rw [List.map_cons, alook_cons]
    by_cases q : k = a
    · rw [if_pos q, q]
    · rw [if_neg q]
      exact alook_in g ((List.mem_cons.1 h).resolve_left q)
theorem Rows.order {h : H} {G : Nat → Prop} {sd : List (Int × Sl)} {ks : List Int} {ob : List (Int × List T)} (x : Rows cells sz e h G sd (ks.map fun k => (k, (alook ob k).getD []))) (o : Once ob) (pm : ks.Perm (ob.map (·.1))) : Rows cells sz e h G ((ob.map (·.1)).map fun k => (k, (alook sd k).getD Sl.nil)) ob := by
  have mem : ∀ {k s}, alook ((ob.map (·.1)).map fun k => (k, (alook sd k).getD Sl.nil)) k = some s → k ∈ ks ∧ alook sd k = some s := fun {k s} q => by
    obtain ⟨h1, h2⟩ := alook_of (fun k => (alook sd k).getD Sl.nil) q
    have hk : k ∈ ks := pm.symm.subset h1
    refine ⟨hk, ?_⟩
    have := alook_some x.keys k
    rw [alook_in (fun k => (alook ob k).getD []) hk] at this
    cases z : alook sd k with
    | none => rw [z] at this; cases this
    | some s' => rw [h2, z]; rfl
  refine ⟨by rw [List.map_map]; exact (List.map_congr_left fun k _ => rfl).trans (List.map_id _), o, fun k s xs q1 q2 => ?_, fun k k' s s' ne q1 q2 => x.apart k k' s s' ne (mem q1).2 (mem q2).2, fun k s q => x.foot k s (mem q).2⟩
  obtain ⟨hk, hs⟩ := mem q1
  refine x.buf k s xs hs ?_
  rw [alook_in (fun k => (alook ob k).getD []) hk, q2]; rfl
end
structure StAt (h h' : H) (s : S_api_State) (v : StV) (so sl : List (Int × Sl)) (G : Nat → Prop) : Prop where
  ob : Buf S_api_Object.cells 2 N_api_Object h' s.Objects (so.map fun q => ⟨q.1, q.2⟩)
  bs : Rows cU8 1 N_u8 h' G so v.ob
  ts : Buf S_api_Token.cells 5 N_api_Token h' s.Tokens v.ts
  ps : Buf S_api_Process.cells 2 N_api_Process h' s.Processes (sl.map fun q => ⟨q.1, q.2⟩)
  ls : Rows cCp 3 N_api_Cap h' G sl v.ls
  nums : s.NextId = v.ni ∧ s.NextProc = v.np ∧ s.Taken = v.tk
  new : ∀ c, s.Objects.foot c ∨ s.Tokens.foot c ∨ s.Processes.foot c ∨ G c → h c = none
section
variable {h : H} {p : Nat} {F : Nat → Prop} {m : MdS}
theorem t_cloneB {h : H} {s : Sl} {xs : List UInt8} {k : Sl → H → Prop} (ar : Arr cU8 h s xs) (hn : xs.length ≤ 2 ^ 20) (y : ∀ s' h', Buf cU8 1 N_u8 h' s' xs → Keeps h h' → (∀ c, s'.foot c → h c = none) → k s' h') : m_slices_Clone_byte_byte s k h := by
  unfold m_slices_Clone_byte_byte
  exact w_clone (by_ := 1) (e := N_u8) u8_len u8_plain rfl ar (by omega) y
theorem t_cloneC {h : H} {s : Sl} {xs : List S_api_Cap} {k : Sl → H → Prop} (ar : Arr cCp h s xs) (hn : xs.length ≤ 2 ^ 20) (y : ∀ s' h', Buf cCp 3 N_api_Cap h' s' xs → Keeps h h' → (∀ c, s'.foot c → h c = none) → k s' h') : m_slices_Clone_api_Cap_api_Cap s k h := by
  unfold m_slices_Clone_api_Cap_api_Cap
  exact w_clone (by_ := 24) (e := N_api_Cap) cap_len cap_plain rfl ar (by omega) y
theorem t_pState (x : PM h p F m) (i : MSI m) (r : MSR m) {K : S_api_State → H → Prop} (y : ∀ s h' so sl G, StAt h h' s (stateO m) so sl G → Keeps h h' → K s h') : m_plain_Model_State (some ⟨p, 0, none⟩) K h := by
  unfold m_plain_Model_State
  have x0 := x
  obtain ⟨bo, bl, sd, st, so, sl, x⟩ := x
  have on := i.obn
  have ln := i.lsn
  refine w_deref (w_deref (w_deref (w_load x.f16 (w_load x.f17 (w_load x.f11 (w_makeMap (Value.int .i64) Sl.val fun d7 h1 fd7 m7 k1 => w_makeMap (Value.int .i64) Sl.val fun d8 h2 fd8 m8 k2 => ?_))))))
  have k12 := k1.trans k2
  have x2 := x.keep k12
  have n78 : d7 ≠ d8 := fun e => by
    obtain ⟨_, _, z, _⟩ := m7
    rw [e, fd8] at z; cases z
  refine w_deref (w_load x2.f12 (w_cloneMap (T := UInt8) (cells := cU8) (sz := 1) (e := N_u8) (fun s k => m_slices_Clone_byte_byte s k) t_cloneB (by kernel_rfl) (h0 := h) k12 x.mo x.ob (m7.keep k2) fd7 (fun q hq => Nat.le_trans (i.obs q hq) (by decide)) fun h3 sd7 ks7 G7 m73 r73 pm7 b3 d3 f7 g7 => ?_))
  have k3 : Keeps h h3 := k12.but b3 fun n e => by rw [e]; exact fd7
  have x3 := x.keep k3
  have fd8' : h d8 = none := k1.fresh fd8
  refine w_deref (w_load x3.f15 (w_cloneMap (T := S_api_Cap) (cells := cCp) (sz := 3) (e := N_api_Cap) (fun s k => m_slices_Clone_api_Cap_api_Cap s k) t_cloneC (by kernel_rfl) (h0 := h) k3 x.ml x.ls (m8.but b3 fun e => n78 e.symm) fd8' (fun q hq => Nat.le_trans (i.lsl q hq) (by decide)) fun h4 sd8 ks8 G8 m84 r84 pm8 b4 d4 f8 g8 => ?_))
  have k4 : Keeps h h4 := k3.but b4 fun n e => by rw [e]; exact fd8'
  have m83 := m8.but b3 fun e => n78 e.symm
  have m74 := m73.but b4 n78
  have r74 := r73.but b4 fun i s q c g e => m83.untyped (r73.typed q g) e
  have e7 : sd7.map (·.1) = ks7 := by rw [r73.keys, List.map_map]; exact (List.map_congr_left fun k _ => rfl).trans (List.map_id _)
  have e8 : sd8.map (·.1) = ks8 := by rw [r84.keys, List.map_map]; exact (List.map_congr_left fun k _ => rfl).trans (List.map_id _)
  have l7 : sd7.length = m.ob.length := by
    have := pm7.length_eq
    rw [← e7, List.length_map, List.length_map] at this; exact this
  have l8 : sd8.length = m.ls.length := by
    have := pm8.length_eq
    rw [← e8, List.length_map, List.length_map] at this; exact this
  refine t_keysO m74 (by omega) fun s5 h5 b5 k5 f5 => ?_
  rw [e7, isort_eq pm7, isort_rise r.ob] at b5
  have k05 := k4.trans k5
  have x5 : PM h5 p F m := x0.keep k05
  have hl5 := b5.len
  rw [List.length_map] at hl5
  have m75 := m74.keep k5
  refine w_for m.ob.length (fun j (z : Int × Sl × Sl × Sl × Int × Int × Int) hh => ∃ so1 st1, z = ((j : Int), so1, st1, Sl.nil, m.ni, m.np, (m.tk : Int)) ∧ Buf S_api_Object.cells 2 N_api_Object hh so1 (((m.ob.map (·.1)).take j).map fun k => (⟨k, (alook sd7 k).getD Sl.nil⟩ : S_api_Object)) ∧ Buf S_api_Token.cells 5 N_api_Token hh st1 ((m.ob.take j).foldl (fun out q => belowO m.ts q.1 (m.ts.length + 1) 0 (-1) out) []) ∧ ((m.ob.take j).foldl (fun out q => belowO m.ts q.1 (m.ts.length + 1) 0 (-1) out) []).length ≤ j * 256 ∧ (∀ c, so1.foot c ∨ st1.foot c → h5 c = none) ∧ Keeps h5 hh) ?_
    ⟨Sl.nil, Sl.nil, rfl, Buf.nil, Buf.nil, Nat.zero_le _, fun c g => g.elim (fun ⟨_, e, _⟩ => (by cases e)) fun ⟨_, e, _⟩ => (by cases e), .refl _⟩
  rintro rec j _ hh hj ⟨so1, st1, rfl, bo1, bt1, lt1, fr1, kh⟩ more
  refine w_if' (fun c => ?_) fun c => ?_
  · have c : (j : Int) < (s5.len : Int) := c
    have hjl : j < m.ob.length := by omega
    have ht := List.getElem?_eq_getElem hjl
    generalize m.ob[j] = q at ht
    have hk : (m.ob.map (·.1))[j]? = some q.1 := by rw [List.getElem?_map, ht]; rfl
    have lo := bo1.len
    rw [List.length_map, List.length_take, List.length_map] at lo
    refine w_get ci_len (b5.keep kh).arr hk rfl (v' := q.1) rfl (w_lookup (keyP (by kernel_rfl)) (m75.keep kh) ?_)
    refine w_app (cells := S_api_Object.cells) (sz := 2) (by_ := 32) (e := N_api_Object) (fun _ => rfl) rfl bo1 [(⟨q.1, (alook sd7 q.1).getD Sl.nil⟩ : S_api_Object)] rfl rfl (.inl (by rw [List.length_map, List.length_take, List.length_map]; simp only [List.length_singleton]; omega)) fun s6 h6 b6 bt6 f6 d6 => ?_
    have k6 : Keeps h5 h6 := kh.but bt6 fun c g => fr1 c (.inl g)
    have bt6' : Buf S_api_Token.cells 5 N_api_Token h6 st1 _ := bt1.but bt6 fun ad ha g => (bt1.typed ⟨ad, ha, rfl⟩).ne (bo1.typed g) (by decide) rfl
    have fs : (m.ob.take (j + 1)).foldl (fun out q => belowO m.ts q.1 (m.ts.length + 1) 0 (-1) out) [] = belowO m.ts q.1 (m.ts.length + 1) 0 (-1) ((m.ob.take j).foldl (fun out q => belowO m.ts q.1 (m.ts.length + 1) 0 (-1) out) []) := by rw [List.take_add_one, ht, List.foldl_append]; rfl
    have fo : ((m.ob.map (·.1)).take (j + 1)).map (fun k => (⟨k, (alook sd7 k).getD Sl.nil⟩ : S_api_Object)) = ((m.ob.map (·.1)).take j).map (fun k => (⟨k, (alook sd7 k).getD Sl.nil⟩ : S_api_Object)) ++ [⟨q.1, (alook sd7 q.1).getD Sl.nil⟩] := by rw [List.take_add_one, hk, List.map_append]; rfl
    refine t_below i (x5.keep k6) bt6' (fun c g g' => x5.has c g' (fr1 c (.inr g))) (by omega) fun s7 h7 b7 ln7 bt7 f7 d7' => ?_
    have k7 : Keeps h5 h7 := k6.but bt7 fun c g => fr1 c (.inr g)
    refine more _ _ hjl ⟨s6, s7, by rw [ia1 j (by omega)], by rw [fo]; exact b6.but bt7 fun ad ha g => (b6.typed ⟨ad, ha, rfl⟩).ne (bt6'.typed g) (by decide) rfl, by rw [fs]; exact b7, by rw [fs]; omega, fun c g => ?_, k7⟩
    rcases g with g | g
    · exact (f6 c g).elim (fun g => fr1 c (.inl g)) fun z => kh.fresh z
    · exact (f7 c g).elim (fun g => fr1 c (.inr g)) fun z => k6.fresh z
  have c : ¬ (j : Int) < (s5.len : Int) := c
  clear more rec
  have ej : m.ob.take j = m.ob := List.take_of_length_le (by omega)
  have ej' : (m.ob.map (·.1)).take j = m.ob.map (·.1) := List.take_of_length_le (by rw [List.length_map]; omega)
  rw [ej] at bt1
  rw [ej'] at bo1
  have k0h := k05.trans kh
  have m85 := (m84.keep k5).keep kh
  refine t_keysL m85 (by omega) fun s9 h9 b9 k9 f9 => ?_
  rw [e8, isort_eq pm8, isort_rise r.ls] at b9
  have hl9 := b9.len
  rw [List.length_map] at hl9
  have m89 := m85.keep k9
  refine w_for m.ls.length (fun j (z : Int × Sl × Sl × Sl × Int × Int × Int) h10 => ∃ sp1, z = ((j : Int), so1, st1, sp1, m.ni, m.np, (m.tk : Int)) ∧ Buf S_api_Process.cells 2 N_api_Process h10 sp1 (((m.ls.map (·.1)).take j).map fun k => (⟨k, (alook sd8 k).getD Sl.nil⟩ : S_api_Process)) ∧ (∀ c, sp1.foot c → h9 c = none) ∧ Keeps h9 h10) ?_
    ⟨Sl.nil, rfl, Buf.nil, fun c ⟨_, e, _⟩ => (by cases e), .refl _⟩
  rintro rec j _ h10 hj ⟨sp1, rfl, bp1, fp1, k10⟩ more
  refine w_if' (fun c => ?_) fun c => ?_
  · have c : (j : Int) < (s9.len : Int) := c
    have hjl : j < m.ls.length := by omega
    have ht := List.getElem?_eq_getElem hjl
    generalize m.ls[j] = q at ht
    have hk : (m.ls.map (·.1))[j]? = some q.1 := by rw [List.getElem?_map, ht]; rfl
    refine w_get ci_len (b9.keep k10).arr hk rfl (v' := q.1) rfl (w_lookup (keyP (by kernel_rfl)) (m89.keep k10) ?_)
    refine w_app (cells := S_api_Process.cells) (sz := 2) (by_ := 32) (e := N_api_Process) (fun _ => rfl) rfl bp1 [(⟨q.1, (alook sd8 q.1).getD Sl.nil⟩ : S_api_Process)] rfl rfl (.inl (by rw [List.length_map, List.length_take, List.length_map]; simp only [List.length_singleton]; omega)) fun s6 h6 b6 bt6 f6 d6 => ?_
    have fo : ((m.ls.map (·.1)).take (j + 1)).map (fun k => (⟨k, (alook sd8 k).getD Sl.nil⟩ : S_api_Process)) = ((m.ls.map (·.1)).take j).map (fun k => (⟨k, (alook sd8 k).getD Sl.nil⟩ : S_api_Process)) ++ [⟨q.1, (alook sd8 q.1).getD Sl.nil⟩] := by rw [List.take_add_one, hk, List.map_append]; rfl
    exact more _ _ hjl ⟨s6, by rw [ia1 j (by omega)], by rw [fo]; exact b6, fun c g => (f6 c g).elim (fp1 c) fun z => k10.fresh z, k10.but bt6 fun c g => fp1 c g⟩
  have c : ¬ (j : Int) < (s9.len : Int) := c
  have ej8 : (m.ls.map (·.1)).take j = m.ls.map (·.1) := List.take_of_length_le (by rw [List.length_map]; omega)
  rw [ej8] at bp1
  have kx := (k5.trans kh).trans (k9.trans k10)
  have ky := kh.trans (k9.trans k10)
  have r7 := ((r74.but (But.of (F := fun _ => False) kx) fun _ _ _ _ _ z => z).order i.obo pm7).mono (F' := fun c => G7 c ∨ G8 c) fun _ g => .inl g
  have r8 := ((r84.but (But.of (F := fun _ => False) kx) fun _ _ _ _ _ z => z).order i.lso pm8).mono (F' := fun c => G7 c ∨ G8 c) fun _ g => .inr g
  refine y _ h10 ((m.ob.map (·.1)).map fun k => (k, (alook sd7 k).getD Sl.nil)) ((m.ls.map (·.1)).map fun k => (k, (alook sd8 k).getD Sl.nil)) (fun c => G7 c ∨ G8 c) ⟨?_, r7, bt1.keep (k9.trans k10), ?_, r8, ⟨rfl, rfl, rfl⟩, fun c g => ?_⟩ (k4.trans kx)
  · rw [List.map_map]; exact bo1.keep (k9.trans k10)
  · rw [List.map_map]; exact bp1
  · rcases g with g | g | g | g | g
    · exact k05.fresh (fr1 c (.inl g))
    · exact k05.fresh (fr1 c (.inr g))
    · exact k0h.fresh (k9.fresh (fp1 c g))
    · exact k12.fresh (f7 c g)
    · exact k3.fresh (f8 c g)
end
theorem pr_len : ∀ x : S_api_Process, (S_api_Process.cells x).length = 2 := fun _ => rfl
theorem ob_len : ∀ x : S_api_Object, (S_api_Object.cells x).length = 2 := fun _ => rfl
section
variable {m : MdS}
structure MSK (m : MdS) : Prop where
  kin : ∀ t ∈ m.ts, ∀ u ∈ m.ts, u.xparent = t.xname → u.xcap.Obj = t.xcap.Obj
  rgt : ∀ t ∈ m.ts, 1 ≤ t.xrights ∧ t.xrights ≤ 31
theorem MSK.same {m' : MdS} (x : MSK m) (e : m'.ts = m.ts) : MSK m' := ⟨e ▸ x.kin, e ▸ x.rgt⟩
theorem MSK.subT (x : MSK m) {m' : MdS} (s : ∀ t ∈ m'.ts, t ∈ m.ts) : MSK m' := ⟨fun t ht u hu => x.kin t (s t ht) u (s u hu), fun t ht => x.rgt t (s t ht)⟩
theorem MSK.issue (x : MSK m) (i : MSI m) {m' : MdS} {c : S_api_Cap} {r q : Int} (e : m'.ts = m.ts ++ [⟨c, r, ((m.nm + 1 : Nat) : Int), q⟩]) (hr : 1 ≤ r ∧ r ≤ 31) (hq : q < ((m.nm + 1 : Nat) : Int)) (hk : ∀ t ∈ m.ts, t.xname = q → c.Obj = t.xcap.Obj) : MSK m' := by
  refine ⟨fun t ht u hu p => ?_, fun t ht => ?_⟩
  · rw [e] at ht hu
    rcases List.mem_append.1 ht with z | z
    · rcases List.mem_append.1 hu with v | v
      · exact x.kin t z u v p
      · rw [List.mem_singleton] at v; subst v
        exact hk t z p.symm
    · rw [List.mem_singleton] at z; subst z
      have p : u.xparent = ((m.nm + 1 : Nat) : Int) := p
      rcases List.mem_append.1 hu with v | v
      · have := i.tsm u v; omega
      · rw [List.mem_singleton] at v; subst v
        have p : q = ((m.nm + 1 : Nat) : Int) := p
        omega
  · rw [e] at ht
    rcases List.mem_append.1 ht with z | z
    · exact x.rgt t z
    · rw [List.mem_singleton] at z; subst z; exact hr
theorem der_kin (x : MSK m) (i : MSI m) {t : Tk} {r : Int} (ht : t ∈ m.ts) (hr : 1 ≤ r ∧ r ≤ 31) : ∀ n tk, MSK (derO m t.xcap.Obj r t.xname tk n).2
  | 0, _ => x.same rfl
  | n + 1, tk => by
    rw [derO]
    split
    · exact x.same rfl
    · split
      · exact der_kin x i ht hr n (tk + 1)
      · refine x.issue i rfl hr (by have := i.tsm t ht; omega) fun u hu e => ?_
        rw [i.ok.one hu ht e]
theorem do_kin (x : MSK m) (i : MSI m) (c : S_api_Call) (ds : List UInt8) (gs : List Int) : MSK (doO m c ds gs).2 := by
  unfold doO
  by_cases q0 : formedO c ds gs
  · rw [if_pos q0]
    by_cases hl : (alook m.ls c.By).isSome = true
    · rw [if_pos hl]
      by_cases q : c.Op = 1
      · rw [if_pos q]
        unfold createO
        repeat' split
        all_goals first | exact x | exact x.issue i rfl (by decide) (by omega) fun t ht e => by have := i.tsm t ht; omega
      rw [if_neg q]; clear q
      by_cases q : c.Op = 2
      · rw [if_pos q]
        unfold destroyO
        split
        · exact x
        · exact x.subT fun t ht => (List.mem_filter.1 ht).1
      rw [if_neg q]; clear q
      by_cases q : c.Op = 3
      · rw [if_pos q]
        unfold deriveO
        split
        · exact x
        · next t e q =>
          obtain ⟨ht, hc⟩ := given_iv q
          split
          · next hp =>
            repeat' split
            all_goals first | exact x | exact hc ▸ der_kin x i ht (partOf_r hp) 9 m.tk
          · exact x
      rw [if_neg q]; clear q
      by_cases q : c.Op = 4
      · rw [if_pos q]
        unfold revokeO
        repeat' split
        all_goals first | exact x | exact x.subT fun t ht => (List.mem_filter.1 ht).1
      rw [if_neg q]; clear q
      by_cases q : c.Op = 5
      · rw [if_pos q, (read_sh c).1]; exact x
      rw [if_neg q]; clear q
      by_cases q : c.Op = 6
      · rw [if_pos q]
        unfold writeO
        dsimp only
        repeat' split
        all_goals exact x.same rfl
      rw [if_neg q]; clear q
      by_cases q : c.Op = 7
      · rw [if_pos q]
        unfold addO
        repeat' split
        all_goals exact x.same rfl
      rw [if_neg q]; clear q
      by_cases q : c.Op = 8
      · rw [if_pos q]
        unfold removeO
        split
        all_goals exact x.same rfl
      rw [if_neg q]; clear q
      by_cases q : c.Op = 9
      · rw [if_pos q]
        unfold spawnO
        repeat' split
        all_goals exact x.same rfl
      rw [if_neg q]
      exact x.same rfl
    · rw [if_neg hl]; exact x
  · rw [if_neg q0]; exact x
theorem kin_newO (c : S_api_Config) (dr : List S_api_Word) : MSK (newO c dr) := ⟨fun _ h => (by cases h), fun _ h => (by cases h)⟩
end
section
variable {T : Type} {cells : T → List Value} {sz : Nat} {e : TypeId} {h : H}
theorem w_empty {k : Addr → H → Prop} (y : ∀ b h', h b = none → Buf cells sz e h' ⟨some ⟨b, 0, none⟩, 0, 0⟩ ([] : List T) → Keeps h h' → k ⟨b, 0, none⟩ h') : mNew e #[] k h := fun b hb =>
  y b _ hb ⟨rfl, Nat.le_refl _, .inr ⟨b, [], (0, 0), rfl, upd_same _ _ _, by simp [flat], thawed0 _⟩⟩ (Keeps.new hb)
theorem w_anew (hs : ∀ x, (cells x).length = sz) (hp : ∀ x, (cells x).all plainVal = true) {by_ : Nat} {zero : Array Value} (hz : zero.size = sz) {h0 : H} {b : Nat} {s : Sl} {xs : List T} (k0 : Keeps h0 h) (hb : h0 b = none) (x : Buf cells sz e h ⟨some ⟨b, 0, none⟩, 0, 0⟩ ([] : List T)) (ar : Arr cells h s xs) (room : xs.length * by_ ≤ 2 ^ 48) {k : Sl → H → Prop}
    (y : ∀ s' h', Buf cells sz e h' s' xs → Keeps h0 h' → (∀ c, s'.foot c → h0 c = none) → But (· = b) h h' → k s' h') : mAppend e sz by_ zero ⟨some ⟨b, 0, none⟩, 0, 0⟩ s k h := by
  refine w_append hs hp hz x ar (.inr ⟨rfl, room⟩) fun s' h' bu' b' f' n' => ?_
  rw [List.nil_append] at bu'
  have foot : ∀ c, (⟨some ⟨b, 0, none⟩, 0, 0⟩ : Sl).foot c → c = b := fun c ⟨a, ha, hc⟩ => by
    cases ha; exact hc.symm
  have bt : But (· = b) h h' := b'.mono foot
  exact y s' h' bu' (k0.but bt fun n q => by rw [q]; exact hb) (fun c fc => (f' c fc).elim (fun q => by rw [foot c q]; exact hb) fun q => k0.fresh q) bt
end
theorem tok_len5 : ∀ x : S_api_Token, (S_api_Token.cells x).length = 5 := fun _ => rfl
end Go.Proofs.Ytbjkfllncegpcaa.K
namespace Go.Proofs.Ytbjkfllncegpcaa.K
open Go Go.Proofs
def m_law21_Copied (a0 : S_api_Call) (K : (S_api_Call) → H → Prop) : H → Prop :=
 mNew 5 #[] fun ad1 =>
 mAppend 5 1 1 #[(Value.int .u8 0)] (⟨some ad1, 0, 0⟩ : Sl) a0.Data fun s2 =>
 mNew 3 #[] fun ad3 =>
 mAppend 3 1 8 #[(Value.int .i64 0)] (⟨some ad3, 0, 0⟩ : Sl) a0.Gifts fun s4 =>
 K (⟨a0.Op, a0.By, a0.Size, ⟨a0.Cap.Obj, ⟨a0.Cap.Pass.Hi, a0.Cap.Pass.Lo⟩⟩, a0.Given, a0.Rights, a0.Off, a0.N, s2, a0.Index, s4⟩ : S_api_Call)
def x_law21_Copied : Cx Try.prog := ⟨tys, [], [1, 2], [], mixed⟩
def h_law21_Copied : Hint := .d
def s_law21_Copied : Spec Try.prog := mkSpec x_law21_Copied 36 Try.f36 [S_api_Call.ty] [S_api_Call.ty] false h_law21_Copied (fun a => m_law21_Copied a) (fun a K h => by kernel_rfl) callee36 rfl
def m_law21_sameBytes (a0 : Sl) (a1 : Sl) (K : (Bool) → H → Prop) : H → Prop :=
 mIf (!decide ((a0.len : Int) = (a1.len : Int))) (
 K false
 ) (
 mLoop (fun (rec2 : Int → H → Prop) (s1 : Int) =>
 mIf (decide (s1 < (a0.len : Int))) (
 mIdx a0 s1 1 fun ad3 =>
 mIdx a1 s1 1 fun ad4 =>
 mLoad (cInt .u8) ad3 fun x5 =>
 mLoad (cInt .u8) ad4 fun x6 =>
 mIf (!decide (x5 = x6)) (
 K false
 ) (
 rec2 (iAdd .i64 s1 1)
 )
 ) (
 K true
 )
 ) 0
 )
def x_law21_sameBytes : Cx Try.prog := ⟨tys, [], [], [], mixed⟩
def h_law21_sameBytes : Hint := (.seq .d (.seq .d (.seq (.seq .d (.blk (.loop [.slot 5 (tInt .i64)] 67106864 [] (.seq .d (.seq (.blk (.seq (.reg (.run [0, 4, 8, 16, 20, 24, 14, 30, 32] .nil)) .d)) .d))))) .d)))
def s_law21_sameBytes : Spec Try.prog := mkSpec x_law21_sameBytes 109 Try.f109 [tSl, tSl] [tBool] false h_law21_sameBytes (fun a => m_law21_sameBytes a.1 a.2) (fun a K h => by kernel_rfl) callee109 rfl
def m_law21_SameReply (a0 : S_api_Reply) (a1 : S_api_Reply) (K : (Bool) → H → Prop) : H → Prop :=
 mIf (((decide (a0.Code = a1.Code)) && ((decide (a0.Cap.Obj = a1.Cap.Obj)) && (((decide (a0.Cap.Pass.Hi = a1.Cap.Pass.Hi)) && ((decide (a0.Cap.Pass.Lo = a1.Cap.Pass.Lo)) && true)) && true))) && (decide (a0.Number = a1.Number))) (
 m_law21_sameBytes a0.Data a1.Data fun r2 =>
 K r2
 ) (
 K false
 )
def x_law21_SameReply : Cx Try.prog := ⟨tys, [s_law21_sameBytes], [2, 3], [], mixed⟩
def h_law21_SameReply : Hint := (.seq .d (.seq (.reg (.run [3, 7, 11, 15, 19, 23] (.sel 10 16 129024 (.run [27, 31, 35, 39, 43, 47] .nil) (.run [27, 31, 35, 39, 43, 47] .nil) (.run [51] (.sel 17 23 16515072 (.run [55, 59, 63, 67, 71, 75] .nil) (.run [55, 59, 63, 67, 71, 75] .nil) (.run [79] (.split 24 (.run [83, 87, 91, 95, 99, 103, 107] .nil) (.run [83, 87, 91, 95, 99, 103, 107] .nil)))))))) .d))
def s_law21_SameReply : Spec Try.prog := mkSpec x_law21_SameReply 34 Try.f34 [S_api_Reply.ty, S_api_Reply.ty] [tBool] false h_law21_SameReply (fun a => m_law21_SameReply a.1 a.2) (fun a K h => by kernel_rfl) callee34 rfl
def m_law21_below (a0 : Int) (a1 : Int) (K : (Int) → H → Prop) : H → Prop :=
 mNZ a1 <|
 mIf (decide ((iRem .i64 a0 a1) < 0)) (
 K (iAdd .i64 (iRem .i64 a0 a1) a1)
 ) (
 K (iRem .i64 a0 a1)
 )
def x_law21_below : Cx Try.prog := ⟨tys, [], [], [], mixed⟩
def h_law21_below : Hint := .d
def s_law21_below : Spec Try.prog := mkSpec x_law21_below 121 Try.f121 [(tInt .i64), (tInt .i64)] [(tInt .i64)] true h_law21_below (fun a => m_law21_below a.1 a.2) (fun a K h => by kernel_rfl) callee121 rfl
def m_law21_Config (a0 : S_api_Config) (K : (S_api_Config) → H → Prop) : H → Prop :=
 mPure (m_law21_below (iSub .i64 a0.Width 1) 128) fun r1 =>
 mPure (m_law21_below (iSub .i64 a0.Objects 1) 64) fun r2 =>
 mPure (m_law21_below (iSub .i64 a0.Pages 1) 256) fun r3 =>
 mPure (m_law21_below (iSub .i64 a0.Entries 1) 256) fun r4 =>
 mPure (m_law21_below (iSub .i64 a0.Quota 1) 256) fun r5 =>
 mPure (m_law21_below (iSub .i64 a0.Procs 1) 32) fun r6 =>
 mPure (m_law21_below (iSub .i64 a0.List 1) 32) fun r7 =>
 mPure (m_law21_below a0.Sets 17) fun r8 =>
 mPure (m_law21_below (iSub .i64 a0.Ways 1) 4) fun r9 =>
 mPure (m_law21_below a0.Knob 65) fun r10 =>
 K (⟨(iAdd .i64 1 r1), (iAdd .i64 1 r2), (iAdd .i64 1 r3), (iAdd .i64 1 r4), (iAdd .i64 1 r5), (iAdd .i64 1 r6), (iAdd .i64 1 r7), r8, (iAdd .i64 1 r9), r10⟩ : S_api_Config)
def x_law21_Config : Cx Try.prog := ⟨tys, [s_law21_below], [1, 2], [], mixed⟩
def h_law21_Config : Hint := (.seq .d (.seq (.reg (.run [0, 20, 40, 60, 80, 100, 120, 140, 152, 172, 5, 8, 12, 16, 25, 28, 32, 36, 45, 48, 52, 56, 65, 68, 72, 76, 85, 88, 92, 96, 105, 108, 112, 116, 125, 128, 132, 136, 145, 148, 157, 160, 164, 168, 177, 180, 184, 191] .nil)) .d))
def s_law21_Config : Spec Try.prog := mkSpec x_law21_Config 37 Try.f37 [S_api_Config.ty] [S_api_Config.ty] true h_law21_Config (fun a => m_law21_Config a) (fun a K h => by kernel_rfl) callee37 rfl
def m_law21_Words (a0 : Sl) (K : (Sl) → H → Prop) : H → Prop :=
 mJoin (fun (s1 : Sl) =>
 mNew 37 #[] fun ad3 =>
 mAppend 37 2 16 #[(Value.int .u64 0), (Value.int .u64 0)] (⟨some ad3, 0, 0⟩ : Sl) s1 fun s4 =>
 K s4
 ) (fun j2 =>
 mIf (decide (4096 < (a0.len : Int))) (
 mCut a0 0 4096 2 fun s5 =>
 j2 s5
 ) (
 j2 a0
 )
 )
def x_law21_Words : Cx Try.prog := ⟨tys, [], [], [], mixed⟩
def h_law21_Words : Hint := (.seq .d (.join [.slot 0 tSl] 249 [] .d .d))
def s_law21_Words : Spec Try.prog := mkSpec x_law21_Words 38 Try.f38 [tSl] [tSl] false h_law21_Words (fun a => m_law21_Words a) (fun a K h => by kernel_rfl) callee38 rfl
def m_law21_sameCaps (a0 : Sl) (a1 : Sl) (K : (Bool) → H → Prop) : H → Prop :=
 mIf (!decide ((a0.len : Int) = (a1.len : Int))) (
 K false
 ) (
 mLoop (fun (rec2 : Int → H → Prop) (s1 : Int) =>
 mIf (decide (s1 < (a0.len : Int))) (
 mIdx a0 s1 3 fun ad3 =>
 mIdx a1 s1 3 fun ad4 =>
 mLoad S_api_Cap.cells ad3 fun x5 =>
 mLoad S_api_Cap.cells ad4 fun x6 =>
 mIf (!((decide (x5.Obj = x6.Obj)) && (((decide (x5.Pass.Hi = x6.Pass.Hi)) && ((decide (x5.Pass.Lo = x6.Pass.Lo)) && true)) && true))) (
 K false
 ) (
 rec2 (iAdd .i64 s1 1)
 )
 ) (
 K true
 )
 ) 0
 )
def x_law21_sameCaps : Cx Try.prog := ⟨tys, [], [], [], mixed⟩
def h_law21_sameCaps : Hint := (.seq .d (.seq .d (.seq (.seq .d (.blk (.loop [.slot 5 (tInt .i64)] 67106864 [] (.seq .d (.seq (.blk (.seq (.reg (.run [0, 4, 8, 16, 20, 24, 14, 30, 32] .nil)) .d)) .d))))) .d)))
def s_law21_sameCaps : Spec Try.prog := mkSpec x_law21_sameCaps 128 Try.f128 [tSl, tSl] [tBool] false h_law21_sameCaps (fun a => m_law21_sameCaps a.1 a.2) (fun a K h => by kernel_rfl) callee128 rfl
def m_law21_SameState (a0 : S_api_State) (a1 : S_api_State) (K : (Bool) → H → Prop) : H → Prop :=
 mIf ((((((!decide ((a0.Objects.len : Int) = (a1.Objects.len : Int))) || (!decide ((a0.Tokens.len : Int) = (a1.Tokens.len : Int)))) || (!decide ((a0.Processes.len : Int) = (a1.Processes.len : Int)))) || (!decide (a0.NextId = a1.NextId))) || (!decide (a0.NextProc = a1.NextProc))) || (!decide (a0.Taken = a1.Taken))) (
 K false
 ) (
 mLoop (fun (rec2 : Int → H → Prop) (s1 : Int) =>
 mIf (decide (s1 < (a0.Objects.len : Int))) (
 mIdx a0.Objects s1 2 fun ad3 =>
 mIdx a1.Objects s1 2 fun ad4 =>
 mLoad (cInt .i64) (ad3.add 0) fun x5 =>
 mLoad (cInt .i64) (ad4.add 0) fun x6 =>
 mJoin (fun (s12 : Bool) =>
 mIf s12 (
 K false
 ) (
 rec2 (iAdd .i64 s1 1)
 )
 ) (fun j13 =>
 mIf (!decide (x5 = x6)) (
 j13 true
 ) (
 mIdx a0.Objects s1 2 fun ad14 =>
 mIdx a1.Objects s1 2 fun ad15 =>
 mLoad cSl (ad14.add 1) fun x16 =>
 mLoad cSl (ad15.add 1) fun x17 =>
 m_law21_sameBytes x16 x17 fun r18 =>
 j13 (!r18)
 ))
 ) (
 mLoop (fun (rec20 : Int → H → Prop) (s19 : Int) =>
 mIf (decide (s19 < (a0.Tokens.len : Int))) (
 mIdx a0.Tokens s19 5 fun ad21 =>
 mIdx a1.Tokens s19 5 fun ad22 =>
 mLoad S_api_Token.cells ad21 fun x23 =>
 mLoad S_api_Token.cells ad22 fun x24 =>
 mIf (!(((decide (x23.Cap.Obj = x24.Cap.Obj)) && (((decide (x23.Cap.Pass.Hi = x24.Cap.Pass.Hi)) && ((decide (x23.Cap.Pass.Lo = x24.Cap.Pass.Lo)) && true)) && true)) && ((decide (x23.Rights = x24.Rights)) && ((decide (x23.Parent = x24.Parent)) && true)))) (
 K false
 ) (
 rec20 (iAdd .i64 s19 1)
 )
 ) (
 mLoop (fun (rec26 : Int → H → Prop) (s25 : Int) =>
 mIf (decide (s25 < (a0.Processes.len : Int))) (
 mIdx a0.Processes s25 2 fun ad27 =>
 mIdx a1.Processes s25 2 fun ad28 =>
 mLoad (cInt .i64) (ad27.add 0) fun x29 =>
 mLoad (cInt .i64) (ad28.add 0) fun x30 =>
 mJoin (fun (s36 : Bool) =>
 mIf s36 (
 K false
 ) (
 rec26 (iAdd .i64 s25 1)
 )
 ) (fun j37 =>
 mIf (!decide (x29 = x30)) (
 j37 true
 ) (
 mIdx a0.Processes s25 2 fun ad38 =>
 mIdx a1.Processes s25 2 fun ad39 =>
 mLoad cSl (ad38.add 1) fun x40 =>
 mLoad cSl (ad39.add 1) fun x41 =>
 m_law21_sameCaps x40 x41 fun r42 =>
 j37 (!r42)
 ))
 ) (
 K true
 )
 ) 0
 )
 ) 0
 )
 ) 0
 )
def x_law21_SameState : Cx Try.prog := ⟨tys, [s_law21_sameBytes, s_law21_sameCaps], [2, 3], [], mixed⟩
def h_law21_SameState : Hint := (.seq .d (.seq (.seq (.reg (.run [3, 7, 11, 15, 19, 23, 27, 31] (.sel 15 23 16711680 (.run [35, 39, 43, 47, 51, 55, 59, 63] .nil) (.run [35, 39, 43, 47, 51, 55, 59, 63] .nil) (.run [67] (.sel 24 32 8556380160 (.run [71, 75, 79, 83, 87, 91, 95, 99] .nil) (.run [71, 75, 79, 83, 87, 91, 95, 99] .nil) (.run [103] (.sel 33 39 1082331758592 (.run [107, 111, 115, 119, 123, 127] .nil) (.run [107, 111, 115, 119, 123, 127] .nil) (.run [131] (.sel 40 46 138538465099776 (.run [135, 139, 143, 147, 151, 155] .nil) (.run [135, 139, 143, 147, 151, 155] .nil) (.run [159] (.sel 47 53 17732923532771328 (.run [163, 167, 171, 175, 179, 183] .nil) (.run [163, 167, 171, 175, 179, 183] .nil) .nil))))))))))) .d) (.seq (.seq .d (.blk (.loop [.slot 5 (tInt .i64)] 1237940039267365876389642288 [] (.seq .d (.seq (.blk (.seq (.reg (.run [0, 8, 24, 32, 5, 12, 16, 29, 36, 40, 22, 46, 48, 52] (.join [.slot 89 tBool] 1237902260353517317737414656 [] (.split 74 (.run [56, 60, 64, 68, 72, 76, 80, 84, 88, 92, 96, 100, 104, 108, 112] .nil) (.run [56, 64, 80, 88, 61, 68, 72, 85, 92, 96, 78, 102, 107, 108, 112] .nil)) .nil))) .d)) .d))))) (.seq (.seq .d (.blk (.loop [.slot 6 (tInt .i64)] 324517315718387441402881121452112 [] (.seq .d (.seq (.blk (.seq (.reg (.run [0, 8, 20, 28, 5, 12, 25, 32, 18, 38, 40] .nil)) .d)) .d))))) (.seq (.seq .d (.blk (.loop [.slot 7 (tInt .i64)] 22300745198206104587877291545865205485404304 [] (.seq .d (.seq (.blk (.seq (.reg (.run [0, 8, 24, 32, 5, 12, 16, 29, 36, 40, 22, 46, 48, 52] (.join [.slot 143 tBool] 22300064633796781264608791523433497969557504 [] (.split 128 (.run [56, 60, 64, 68, 72, 76, 80, 84, 88, 92, 96, 100, 104, 108, 112] .nil) (.run [56, 64, 80, 88, 61, 68, 72, 85, 92, 96, 78, 102, 107, 108, 112] .nil)) .nil))) .d)) .d))))) .d)))))
def s_law21_SameState : Spec Try.prog := mkSpec x_law21_SameState 40 Try.f40 [S_api_State.ty, S_api_State.ty] [tBool] false h_law21_SameState (fun a => m_law21_SameState a.1 a.2) (fun a K h => by kernel_rfl) callee40 rfl
end Go.Proofs.Ytbjkfllncegpcaa.K
namespace Go.Proofs.Ytbjkfllncegpcaa.K
open Go
section
variable {h : H}
theorem t_l21sameBytes {a b : Sl} {xs : List UInt8} (x : Arr cU8 h a xs) (z : Arr cU8 h b xs) (hn : xs.length ≤ 2 ^ 60) {K : Bool → H → Prop} (y : K true h) : m_law21_sameBytes a b K h := by
  unfold m_law21_sameBytes
  have l1 := x.len
  have l2 := z.len
  refine w_ifF (by rw [l1, l2]; simp) (w_for xs.length (fun i (s : Int) hh => s = (i : Int) ∧ hh = h) ?_ ⟨rfl, rfl⟩)
  rintro rec i _ _ hi ⟨rfl, rfl⟩ more
  refine w_if' (fun c => ?_) fun c => y
  have c : (i : Int) < (a.len : Int) := c
  have hil : i < xs.length := by omega
  have ht := List.getElem?_eq_getElem hil
  generalize xs[i] = t at ht
  refine w_idx u8_len x ht rfl fun a1 _ h1 => w_idx u8_len z ht rfl fun a2 _ h2 => w_load (v := ((t.toNat : Nat) : Int)) h1 (w_load (v := ((t.toNat : Nat) : Int)) h2 (w_ifF (by simp) (more _ _ hil ⟨ia1 i (by omega), rfl⟩)))
theorem t_l21sameCaps {a b : Sl} {xs : List S_api_Cap} (x : Arr cCp h a xs) (z : Arr cCp h b xs) (hn : xs.length ≤ 2 ^ 60) {K : Bool → H → Prop} (y : K true h) : m_law21_sameCaps a b K h := by
  unfold m_law21_sameCaps
  have l1 := x.len
  have l2 := z.len
  refine w_ifF (by rw [l1, l2]; simp) (w_for xs.length (fun i (s : Int) hh => s = (i : Int) ∧ hh = h) ?_ ⟨rfl, rfl⟩)
  rintro rec i _ _ hi ⟨rfl, rfl⟩ more
  refine w_if' (fun c => ?_) fun c => y
  have c : (i : Int) < (a.len : Int) := c
  have hil : i < xs.length := by omega
  have ht := List.getElem?_eq_getElem hil
  generalize xs[i] = t at ht
  refine w_idx cap_len x ht rfl fun a1 _ h1 => w_idx cap_len z ht rfl fun a2 _ h2 => w_load h1 (w_load h2 (w_ifF (by rw [cap_eqB]; simp) (more _ _ hil ⟨ia1 i (by omega), rfl⟩)))
theorem t_l21SameReply {a b : S_api_Reply} {xs : List UInt8} (e1 : a.Code = b.Code) (e2 : a.Cap = b.Cap) (e3 : a.Number = b.Number) (x : Arr cU8 h a.Data xs) (z : Arr cU8 h b.Data xs) (hn : xs.length ≤ 2 ^ 60) {K : Bool → H → Prop} (y : K true h) : m_law21_SameReply a b K h := by
  unfold m_law21_SameReply
  rw [cap_eqB]
  exact w_ifT (by rw [e1, e2, e3]; simp) (t_l21sameBytes x z hn y)
structure StR (h : H) (s : S_api_State) (v : StV) (so sl : List (Int × Sl)) : Prop where
  ob : Arr S_api_Object.cells h s.Objects (so.map fun q => ⟨q.1, q.2⟩)
  ok : so.map (·.1) = v.ob.map (·.1)
  bs : ∀ (j : Nat) q o, so[j]? = some q → v.ob[j]? = some o → Arr cU8 h q.2 o.2 ∧ o.2.length ≤ 2 ^ 60
  ts : Arr S_api_Token.cells h s.Tokens v.ts
  ps : Arr S_api_Process.cells h s.Processes (sl.map fun q => ⟨q.1, q.2⟩)
  pk : sl.map (·.1) = v.ls.map (·.1)
  ls : ∀ (j : Nat) q o, sl[j]? = some q → v.ls[j]? = some o → Arr cCp h q.2 o.2 ∧ o.2.length ≤ 2 ^ 60
  nums : s.NextId = v.ni ∧ s.NextProc = v.np ∧ s.Taken = v.tk
theorem Rows.nth {T : Type} {cells : T → List Value} {sz : Nat} {e : TypeId} {F : Nat → Prop} {so : List (Int × Sl)} {ob : List (Int × List T)} (x : Rows cells sz e h F so ob) {j : Nat} {q : Int × Sl} {o : Int × List T} (hq : so[j]? = some q) (ho : ob[j]? = some o) : q.1 = o.1 ∧ Buf cells sz e h q.2 o.2 := by
  have eky : q.1 = o.1 := by
    have := congrArg (fun l => l[j]?) x.keys
    simp only [List.getElem?_map, hq, ho, Option.map_some, Option.some.injEq] at this
    exact this
  exact ⟨eky, x.buf q.1 q.2 o.2 (x.onceS.look (List.mem_of_getElem? hq)) (by rw [eky]; exact x.once.look (List.mem_of_getElem? ho))⟩
theorem StAt.rd {h0 h : H} {s : S_api_State} {v : StV} {so sl : List (Int × Sl)} {G : Nat → Prop} (x : StAt h0 h s v so sl G) (h1 : ∀ o ∈ v.ob, o.2.length ≤ 2 ^ 60) (h2 : ∀ o ∈ v.ls, o.2.length ≤ 2 ^ 60) : StR h s v so sl :=
  ⟨x.ob.arr, x.bs.keys, fun _ _ o hq ho => ⟨(x.bs.nth hq ho).2.arr, h1 o (List.mem_of_getElem? ho)⟩, x.ts.arr, x.ps.arr, x.ls.keys, fun _ _ o hq ho => ⟨(x.ls.nth hq ho).2.arr, h2 o (List.mem_of_getElem? ho)⟩, x.nums⟩
theorem keys_nth {V W : Type} {l : List (Int × V)} {k : List (Int × W)} (e : l.map (·.1) = k.map (·.1)) {j : Nat} {q : Int × V} (hq : l[j]? = some q) : ∃ o, k[j]? = some o ∧ q.1 = o.1 := by
  have := congrArg (fun l => l[j]?) e
  simp only [List.getElem?_map, hq, Option.map_some] at this
  cases z : k[j]? with
  | none => rw [z] at this; cases this
  | some o =>
    rw [z] at this
    exact ⟨o, rfl, Option.some.inj this⟩
theorem keys_len {V W : Type} {l : List (Int × V)} {k : List (Int × W)} (e : l.map (·.1) = k.map (·.1)) : l.length = k.length := by
  have := congrArg List.length e
  rwa [List.length_map, List.length_map] at this
theorem t_l21SameState {a b : S_api_State} {v : StV} {so sl so2 sl2 : List (Int × Sl)} (x : StR h a v so sl) (z : StR h b v so2 sl2) (n1 : v.ob.length ≤ 2 ^ 60) (n2 : v.ts.length ≤ 2 ^ 60) (n3 : v.ls.length ≤ 2 ^ 60) {K : Bool → H → Prop} (y : K true h) : m_law21_SameState a b K h := by
  unfold m_law21_SameState
  have la := x.ob.len
  have lb := z.ob.len
  have pa := x.ps.len
  have pb := z.ps.len
  rw [List.length_map] at la lb pa pb
  have ta := x.ts.len
  have tb := z.ts.len
  have e1 := keys_len x.ok
  have e2 := keys_len z.ok
  have e3 := keys_len x.pk
  have e4 := keys_len z.pk
  obtain ⟨a1, a2, a3⟩ := x.nums
  obtain ⟨b1, b2, b3⟩ := z.nums
  refine w_ifF (by simp [la, lb, pa, pb, ta, tb, e1, e2, e3, e4, a1, a2, a3, b1, b2, b3]) ?_
  refine w_for so.length (fun i (s : Int) hh => s = (i : Int) ∧ hh = h) ?_ ⟨rfl, rfl⟩
  rintro rec i _ _ hi ⟨rfl, rfl⟩ more
  refine w_if' (fun c => ?_) fun c => ?_
  · have c : (i : Int) < (a.Objects.len : Int) := c
    have hil : i < so.length := by omega
    have hq := List.getElem?_eq_getElem hil
    generalize so[i] = q at hq
    obtain ⟨o, ho, eq⟩ := keys_nth x.ok hq
    have hil2 : i < so2.length := by omega
    have hq2 := List.getElem?_eq_getElem hil2
    generalize so2[i] = q2 at hq2
    obtain ⟨o2, ho2, eq2⟩ := keys_nth z.ok hq2
    have : o2 = o := by rw [ho] at ho2; cases ho2; rfl
    subst this
    have hq' : (so.map fun q => (⟨q.1, q.2⟩ : S_api_Object))[i]? = some ⟨q.1, q.2⟩ := by rw [List.getElem?_map, hq]; rfl
    have hq2' : (so2.map fun q => (⟨q.1, q.2⟩ : S_api_Object))[i]? = some ⟨q2.1, q2.2⟩ := by rw [List.getElem?_map, hq2]; rfl
    obtain ⟨xb, xn⟩ := x.bs i q o2 hq ho
    obtain ⟨zb, _⟩ := z.bs i q2 o2 hq2 ho
    refine w_idx ob_len x.ob hq' rfl fun ad1 _ h1 => w_idx ob_len z.ob hq2' rfl fun ad2 _ h2 => ?_
    have f1 := h1.sub (l1 := []) (l2 := cInt .i64 q.1) (l3 := cSl q.2) (n := 0) rfl
    have f2 := h2.sub (l1 := []) (l2 := cInt .i64 q2.1) (l3 := cSl q2.2) (n := 0) rfl
    have g1 := h1.sub (l1 := cInt .i64 q.1) (l2 := cSl q.2) (l3 := []) (n := 1) rfl
    have g2 := h2.sub (l1 := cInt .i64 q2.1) (l2 := cSl q2.2) (l3 := []) (n := 1) rfl
    refine w_load f1 (w_load f2 (w_joinV false (fun j hj => w_ifF (by rw [eq, eq2]; simp) (w_idx ob_len x.ob hq' rfl fun ad3 _ h3 => w_idx ob_len z.ob hq2' rfl fun ad4 _ h4 => ?_)) (w_ifF rfl (more _ _ hil ⟨ia1 i (by omega), rfl⟩))))
    have g3 := h3.sub (l1 := cInt .i64 q.1) (l2 := cSl q.2) (l3 := []) (n := 1) rfl
    have g4 := h4.sub (l1 := cInt .i64 q2.1) (l2 := cSl q2.2) (l3 := []) (n := 1) rfl
    exact w_load g3 (w_load g4 (t_l21sameBytes xb zb xn hj))
  refine w_for v.ts.length (fun i (s : Int) hh => s = (i : Int) ∧ hh = _) ?_ ⟨rfl, rfl⟩
  rintro rec i _ _ hi ⟨rfl, rfl⟩ more
  refine w_if' (fun c => ?_) fun c => ?_
  · have c : (i : Int) < (a.Tokens.len : Int) := c
    have hil : i < v.ts.length := by omega
    have ht := List.getElem?_eq_getElem hil
    generalize v.ts[i] = t at ht
    exact w_idx tok_len5 x.ts ht rfl fun a1 _ h1 => w_idx tok_len5 z.ts ht rfl fun a2 _ h2 => w_load h1 (w_load h2 (w_ifF (by simp) (more _ _ hil ⟨ia1 i (by omega), rfl⟩)))
  refine w_for sl.length (fun i (s : Int) hh => s = (i : Int) ∧ hh = _) ?_ ⟨rfl, rfl⟩
  rintro rec i _ _ hi ⟨rfl, rfl⟩ more
  refine w_if' (fun c => ?_) fun c => y
  have c : (i : Int) < (a.Processes.len : Int) := c
  have hil : i < sl.length := by omega
  have hq := List.getElem?_eq_getElem hil
  generalize sl[i] = q at hq
  obtain ⟨o, ho, eq⟩ := keys_nth x.pk hq
  have hil2 : i < sl2.length := by omega
  have hq2 := List.getElem?_eq_getElem hil2
  generalize sl2[i] = q2 at hq2
  obtain ⟨o2, ho2, eq2⟩ := keys_nth z.pk hq2
  have : o2 = o := by rw [ho] at ho2; cases ho2; rfl
  subst this
  have hq' : (sl.map fun q => (⟨q.1, q.2⟩ : S_api_Process))[i]? = some ⟨q.1, q.2⟩ := by rw [List.getElem?_map, hq]; rfl
  have hq2' : (sl2.map fun q => (⟨q.1, q.2⟩ : S_api_Process))[i]? = some ⟨q2.1, q2.2⟩ := by rw [List.getElem?_map, hq2]; rfl
  obtain ⟨xb, xn⟩ := x.ls i q o2 hq ho
  obtain ⟨zb, _⟩ := z.ls i q2 o2 hq2 ho
  refine w_idx pr_len x.ps hq' rfl fun ad1 _ h1 => w_idx pr_len z.ps hq2' rfl fun ad2 _ h2 => ?_
  have f1 := h1.sub (l1 := []) (l2 := cInt .i64 q.1) (l3 := cSl q.2) (n := 0) rfl
  have f2 := h2.sub (l1 := []) (l2 := cInt .i64 q2.1) (l3 := cSl q2.2) (n := 0) rfl
  refine w_load f1 (w_load f2 (w_joinV false (fun j hj => w_ifF (by rw [eq, eq2]; simp) (w_idx pr_len x.ps hq' rfl fun ad3 _ h3 => w_idx pr_len z.ps hq2' rfl fun ad4 _ h4 => ?_)) (w_ifF rfl (more _ _ hil ⟨ia1 i (by omega), rfl⟩))))
  have g3 := h3.sub (l1 := cInt .i64 q.1) (l2 := cSl q.2) (l3 := []) (n := 1) rfl
  have g4 := h4.sub (l1 := cInt .i64 q2.1) (l2 := cSl q2.2) (l3 := []) (n := 1) rfl
  exact w_load g3 (w_load g4 (t_l21sameCaps xb zb xn hj))
theorem t_Copied {c : S_api_Call} {ds : List UInt8} {gs : List Int} (ad : Arr cU8 h c.Data ds) (hd : ds.length * 1 ≤ 2 ^ 48) (ag : Arr (cInt .i64) h c.Gifts gs) (hg : gs.length * 8 ≤ 2 ^ 48) {K : S_api_Call → H → Prop}
    (y : ∀ s1 s2 h', Buf cU8 1 N_u8 h' s1 ds → Buf (cInt .i64) 1 N_int h' s2 gs → Keeps h h' → (∀ b, s1.foot b ∨ s2.foot b → h b = none) → K { c with Data := s1, Gifts := s2 } h') : m_law21_Copied c K h := by
  unfold m_law21_Copied
  refine w_empty (T := UInt8) (cells := cU8) (sz := 1) fun b h1 hb b1 k1 => ?_
  refine w_anew u8_len u8_plain rfl k1 hb b1 (ad.keep k1) hd fun s2 h2 b2 k2 f2 _ => ?_
  refine w_empty (T := Int) (cells := cInt .i64) (sz := 1) fun b3 h3 hb3 e3 k3 => ?_
  refine w_anew ci_len (fun _ => rfl) rfl k3 hb3 e3 (ag.keep (k2.trans k3)) hg fun s4 h4 b4 k4 f4 _ => ?_
  exact y s2 s4 h4 (b2.keep k4) b4 (k2.trans k4) fun c g => g.elim (f2 c) fun g => k2.fresh (f4 c g)
end
end Go.Proofs.Ytbjkfllncegpcaa.K
namespace Go.Proofs.Ytbjkfllncegpcaa.K
open Go Go.Proofs
def m_law22_example (K : (Bool) → H → Prop) : H → Prop :=
 mNew 37 #[(Value.int .u64 0), (Value.int .u64 261), (Value.int .u64 0), (Value.int .u64 7)] fun ad1 =>
 m_plain_New (⟨8, 2, 3, 4, 3, 2, 2, 1, 1, 0⟩ : S_api_Config) (⟨some ad1, 2, 2⟩ : Sl) fun r2 =>
 mIf ((!decide (r2.2 = 0)) || (r2.1.isNone)) (
 K false
 ) (
 m_plain_Model_Do r2.1 (⟨1, 0, 65, ⟨0, ⟨0, 0⟩⟩, false, 0, 0, 0, Sl.nil, 0, Sl.nil⟩ : S_api_Call) fun r3 =>
 m_plain_Model_State r2.1 fun r4 =>
 mIf ((((decide (r3.Code = 0)) && ((decide (r3.Cap.Obj = 1)) && (((decide (r3.Cap.Pass.Hi = 0)) && ((decide (r3.Cap.Pass.Lo = 5)) && true)) && true))) && (decide ((r4.Objects.len : Int) = 1))) && (decide ((r4.Tokens.len : Int) = 1))) (
 mIdx r4.Tokens 0 5 fun ad7 =>
 mLoad (cInt .i64) (ad7.add 3) fun x8 =>
 K (decide (x8 = 31))
 ) (
 K false
 )
 )
def x_law22_example : Cx Try.prog := ⟨tys, [s_plain_New, s_plain_Model_Do, s_plain_Model_State], [1, 4, 5], [], mixed⟩
def h_law22_example : Hint := (.seq .d (.seq .d (.seq .d (.seq (.seq (.reg (.run [3, 7, 11] (.sel 17 20 1835008 (.run [15, 19, 23] .nil) (.run [15, 19, 23] .nil) .nil))) .d) (.seq .d (.seq .d (.seq (.reg (.run [3, 7, 11, 15] (.sel 29 35 67645734912 (.run [19, 23, 27, 31, 35, 39] .nil) (.run [19, 23, 27, 31, 35, 39] .nil) (.run [43] (.sel 36 41 4260607557632 (.run [47, 51, 55, 59, 63] .nil) (.run [47, 51, 55, 59, 63] .nil) (.run [67] (.sel 42 47 272678883688448 (.run [71, 75, 79, 83, 87] .nil) (.run [71, 75, 79, 83, 87] .nil) (.run [91] (.split 48 (.run [95, 99, 103, 107, 111, 115, 119, 123] .nil) (.run [95, 99, 103, 107, 111, 115, 119, 123] .nil)))))))))) .d)))))))
def s_law22_example : Spec Try.prog := mkSpec x_law22_example 30 Try.f30 [] [tBool] false h_law22_example (fun _ => m_law22_example) (fun a K h => by kernel_rfl) callee30 rfl
def m_law22_copies (a0 : Sl) (K : (Sl) → H → Prop) : H → Prop :=
 mLoop (fun (rec2 : (Sl × Int) → H → Prop) (s1 : Sl × Int) =>
 mIf (decide (s1.2 < (a0.len : Int))) (
 mIdx a0 s1.2 13 fun ad3 =>
 mLoad S_api_Call.cells ad3 fun x4 =>
 m_law21_Copied x4 fun r5 =>
 mApp 43 13 136 #[(Value.int .i64 0), (Value.int .i64 0), (Value.int .i64 0), (Value.int .i64 0), (Value.int .u64 0), (Value.int .u64 0), (Value.bool false), (Value.int .i64 0), (Value.int .i64 0), (Value.int .i64 0), (Sl.val Sl.nil), (Value.int .i64 0), (Sl.val Sl.nil)] 1 [(Value.int .i64 r5.Op), (Value.int .i64 r5.By), (Value.int .i64 r5.Size), (Value.int .i64 r5.Cap.Obj), (Value.int .u64 r5.Cap.Pass.Hi), (Value.int .u64 r5.Cap.Pass.Lo), (Value.bool r5.Given), (Value.int .i64 r5.Rights), (Value.int .i64 r5.Off), (Value.int .i64 r5.N), (Sl.val r5.Data), (Value.int .i64 r5.Index), (Sl.val r5.Gifts)] s1.1 fun s6 =>
 rec2 (s6, (iAdd .i64 s1.2 1))
 ) (
 K s1.1
 )
 ) (Sl.nil, 0)
def x_law22_copies : Cx Try.prog := ⟨tys, [s_law21_Copied], [17], [], mixed⟩
def h_law22_copies : Hint := (.seq .d (.seq .d (.seq (.seq .d (.blk (.loop [.slot 3 tSl, .slot 4 (tInt .i64)] 524280 [] .d))) .d)))
def s_law22_copies : Spec Try.prog := mkSpec x_law22_copies 32 Try.f32 [tSl] [tSl] false h_law22_copies (fun a => m_law22_copies a) (fun a K h => by kernel_rfl) callee32 rfl
def m_law22_PlainKeeps (a0 : S_api_Config) (a1 : Sl) (a2 : Sl) (K : (Bool) → H → Prop) : H → Prop :=
 mPure (m_law21_Config a0) fun r1 =>
 m_law21_Words a1 fun r2 =>
 mNew 37 #[] fun ad3 =>
 mAppend 37 2 16 #[(Value.int .u64 0), (Value.int .u64 0)] (⟨some ad3, 0, 0⟩ : Sl) r2 fun s4 =>
 mApp 37 2 16 #[(Value.int .u64 0), (Value.int .u64 0)] 1 [(Value.int .u64 0), (Value.int .u64 77)] s4 fun s5 =>
 mCut s5 0 (iSub .i64 (s5.len : Int) 1) 2 fun s6 =>
 m_plain_New r1 s6 fun r7 =>
 mNew 37 #[] fun ad8 =>
 mAppend 37 2 16 #[(Value.int .u64 0), (Value.int .u64 0)] (⟨some ad8, 0, 0⟩ : Sl) r2 fun s9 =>
 m_plain_New r1 s9 fun r10 =>
 mJoin (fun (s12 : Bool) =>
 mJoin (fun (s16 : Bool) =>
 mIf s16 (
 K false
 ) (
 mLoop (fun (rec19 : Int → H → Prop) (s18 : Int) =>
 mIf (decide (s18 < (s5.len : Int))) (
 mIdx s5 s18 2 fun ad20 =>
 mStore ad20 [(Value.int .u64 3), (Value.int .u64 0)] <|
 rec19 (iAdd .i64 s18 1)
 ) (
 m_law22_copies a2 fun r21 =>
 mNew 37 #[] fun ad22 =>
 mAppend 37 2 16 #[(Value.int .u64 0), (Value.int .u64 0)] (⟨some ad22, 0, 0⟩ : Sl) r2 fun s23 =>
 m_plain_Run r1 s23 r21 fun r24 =>
 mNew 37 #[] fun ad25 =>
 mAppend 37 2 16 #[(Value.int .u64 0), (Value.int .u64 0)] (⟨some ad25, 0, 0⟩ : Sl) r2 fun s26 =>
 m_law22_copies a2 fun r27 =>
 m_plain_Run r1 s26 r27 fun r28 =>
 mIf ((((!decide (r24.2 = 0)) || (!decide (r28.2 = 0))) || (!decide ((r24.1.len : Int) = (a2.len : Int)))) || (!decide ((r28.1.len : Int) = (a2.len : Int)))) (
 K false
 ) (
 mLoop (fun (rec30 : Int → H → Prop) (s29 : Int) =>
 mIf (decide (s29 < (a2.len : Int))) (
 mIdx a2 s29 13 fun ad31 =>
 mLoad S_api_Call.cells ad31 fun x32 =>
 m_law21_Copied x32 fun r33 =>
 m_plain_Model_Do r10.1 r33 fun r34 =>
 mIdx r21 s29 13 fun ad35 =>
 mLoad S_api_Call.cells ad35 fun x36 =>
 m_plain_Model_Do r7.1 x36 fun r37 =>
 m_law21_SameReply r37 r34 fun r38 =>
 mJoin (fun (s42 : Bool) =>
 mJoin (fun (s47 : Bool) =>
 mJoin (fun (s51 : Bool) =>
 mIf s51 (
 K false
 ) (
 mLoop (fun (rec54 : Int → H → Prop) (s53 : Int) =>
 mIf (decide (s53 < (x36.Data.len : Int))) (
 mIdx a2 s29 13 fun ad55 =>
 mIdx x36.Data s53 1 fun ad56 =>
 mLoad (cInt .u8) ad56 fun x57 =>
 mLoad cSl (ad55.add 10) fun x58 =>
 mIdx x58 s53 1 fun ad59 =>
 mLoad (cInt .u8) ad59 fun x60 =>
 mIf (!decide (x57 = x60)) (
 K false
 ) (
 mIdx x36.Data s53 1 fun ad61 =>
 mStore ad61 [(Value.int .u8 238)] <|
 rec54 (iAdd .i64 s53 1)
 )
 ) (
 mLoop (fun (rec63 : Int → H → Prop) (s62 : Int) =>
 mIf (decide (s62 < (x36.Gifts.len : Int))) (
 mIdx a2 s29 13 fun ad64 =>
 mIdx x36.Gifts s62 1 fun ad65 =>
 mLoad (cInt .i64) ad65 fun x66 =>
 mLoad cSl (ad64.add 12) fun x67 =>
 mIdx x67 s62 1 fun ad68 =>
 mLoad (cInt .i64) ad68 fun x69 =>
 mIf (!decide (x66 = x69)) (
 K false
 ) (
 mIdx x36.Gifts s62 1 fun ad70 =>
 mStore ad70 [(Value.int .i64 0)] <|
 rec63 (iAdd .i64 s62 1)
 )
 ) (
 mLoop (fun (rec72 : Int → H → Prop) (s71 : Int) =>
 mIf (decide (s71 < (r37.Data.len : Int))) (
 mIdx r37.Data s71 1 fun ad73 =>
 mLoad (cInt .u8) ad73 fun x74 =>
 mIdx r37.Data s71 1 fun ad75 =>
 mStore ad75 [(Value.int .u8 (iXor .u8 x74 255))] <|
 rec72 (iAdd .i64 s71 1)
 ) (
 mLoop (fun (rec77 : Int → H → Prop) (s76 : Int) =>
 mIdx r24.1 s29 6 fun ad78 =>
 mLoad cSl (ad78.add 4) fun x79 =>
 mIf (decide (s76 < (x79.len : Int))) (
 mIdx r24.1 s29 6 fun ad80 =>
 mLoad cSl (ad80.add 4) fun x81 =>
 mIdx x81 s76 1 fun ad82 =>
 mLoad (cInt .u8) ad82 fun x83 =>
 mIdx x81 s76 1 fun ad84 =>
 mStore ad84 [(Value.int .u8 (iXor .u8 x83 255))] <|
 rec77 (iAdd .i64 s76 1)
 ) (
 mApp 5 1 1 #[(Value.int .u8 0)] 3 [(Value.int .u8 1), (Value.int .u8 2), (Value.int .u8 3)] r37.Data fun s85 =>
 mIdx r24.1 s29 6 fun ad86 =>
 mLoad cSl (ad86.add 4) fun x87 =>
 mApp 5 1 1 #[(Value.int .u8 0)] 3 [(Value.int .u8 4), (Value.int .u8 5), (Value.int .u8 6)] x87 fun s88 =>
 mJoin (fun (s92 : Bool) =>
 mIf s92 (
 K false
 ) (
 rec30 (iAdd .i64 s29 1)
 )
 ) (fun j93 =>
 mIf ((decide ((s85.len : Int) < 3)) || (decide ((s88.len : Int) < 3))) (
 j93 true
 ) (
 mIdx r28.1 s29 6 fun ad94 =>
 mLoad S_api_Reply.cells ad94 fun x95 =>
 m_law21_SameReply x95 r34 fun r96 =>
 j93 (!r96)
 ))
 )
 ) 0
 )
 ) 0
 )
 ) 0
 )
 ) 0
 )
 ) (fun j52 =>
 mIf s47 (
 j52 true
 ) (
 mIdx a2 s29 13 fun ad97 =>
 mLoad cSl (ad97.add 10) fun x98 =>
 j52 (!decide ((x36.Data.len : Int) = (x98.len : Int)))
 ))
 ) (fun j48 =>
 mIf s42 (
 j48 true
 ) (
 mIdx r28.1 s29 6 fun ad99 =>
 mLoad S_api_Reply.cells ad99 fun x100 =>
 m_law21_SameReply x100 r34 fun r101 =>
 j48 (!r101)
 ))
 ) (fun j43 =>
 mIf (!r38) (
 j43 true
 ) (
 mIdx r24.1 s29 6 fun ad102 =>
 mLoad S_api_Reply.cells ad102 fun x103 =>
 m_law21_SameReply x103 r34 fun r104 =>
 j43 (!r104)
 ))
 ) (
 m_plain_Model_State r7.1 fun r105 =>
 m_plain_Model_State r7.1 fun r106 =>
 m_plain_Model_State r10.1 fun r107 =>
 m_law21_SameState r105 r107 fun r108 =>
 mJoin (fun (s110 : Bool) =>
 mIf s110 (
 K false
 ) (
 mLoop (fun (rec113 : Int → H → Prop) (s112 : Int) =>
 mIf (decide (s112 < (r105.Objects.len : Int))) (
 mLoop (fun (rec115 : Int → H → Prop) (s114 : Int) =>
 mIdx r105.Objects s112 2 fun ad116 =>
 mLoad cSl (ad116.add 1) fun x117 =>
 mIf (decide (s114 < (x117.len : Int))) (
 mIdx r105.Objects s112 2 fun ad118 =>
 mLoad cSl (ad118.add 1) fun x119 =>
 mIdx x119 s114 1 fun ad120 =>
 mLoad (cInt .u8) ad120 fun x121 =>
 mIdx x119 s114 1 fun ad122 =>
 mStore ad122 [(Value.int .u8 (iXor .u8 x121 255))] <|
 rec115 (iAdd .i64 s114 1)
 ) (
 mIdx r105.Objects s112 2 fun ad123 =>
 mLoad cSl (ad123.add 1) fun x124 =>
 mApp 5 1 1 #[(Value.int .u8 0)] 2 [(Value.int .u8 1), (Value.int .u8 2)] x124 fun s125 =>
 mIdx r105.Objects s112 2 fun ad126 =>
 mStore (ad126.add 1) [(Sl.val s125)] <|
 rec113 (iAdd .i64 s112 1)
 )
 ) 0
 ) (
 mLoop (fun (rec128 : Int → H → Prop) (s127 : Int) =>
 mIf (decide (s127 < (r105.Tokens.len : Int))) (
 mIdx r105.Tokens s127 5 fun ad129 =>
 mStore (ad129.add 3) [(Value.int .i64 (-1))] <|
 rec128 (iAdd .i64 s127 1)
 ) (
 mLoop (fun (rec131 : Int → H → Prop) (s130 : Int) =>
 mIf (decide (s130 < (r105.Processes.len : Int))) (
 mLoop (fun (rec133 : Int → H → Prop) (s132 : Int) =>
 mIdx r105.Processes s130 2 fun ad134 =>
 mLoad cSl (ad134.add 1) fun x135 =>
 mIf (decide (s132 < (x135.len : Int))) (
 mIdx r105.Processes s130 2 fun ad136 =>
 mLoad cSl (ad136.add 1) fun x137 =>
 mIdx x137 s132 3 fun ad138 =>
 mStore (ad138.add 0) [(Value.int .i64 (-1))] <|
 rec133 (iAdd .i64 s132 1)
 ) (
 mIdx r105.Processes s130 2 fun ad139 =>
 mLoad cSl (ad139.add 1) fun x140 =>
 mApp 39 3 24 #[(Value.int .i64 0), (Value.int .u64 0), (Value.int .u64 0)] 2 [(Value.int .i64 (-2)), (Value.int .u64 0), (Value.int .u64 0), (Value.int .i64 (-2)), (Value.int .u64 0), (Value.int .u64 0)] x140 fun s141 =>
 mIdx r105.Processes s130 2 fun ad142 =>
 mStore (ad142.add 1) [(Sl.val s141)] <|
 rec131 (iAdd .i64 s130 1)
 )
 ) 0
 ) (
 m_law21_SameState r106 r107 fun r143 =>
 mIf r143 (
 m_plain_Model_State r7.1 fun r146 =>
 m_law21_SameState r146 r107 fun r147 =>
 K r147
 ) (
 K false
 )
 )
 ) 0
 )
 ) 0
 )
 ) 0
 )
 ) (fun j111 =>
 mIf (!r108) (
 j111 true
 ) (
 m_law21_SameState r106 r107 fun r148 =>
 j111 (!r148)
 ))
 )
 ) 0
 )
 )
 ) 0
 )
 ) (fun j17 =>
 mIf s12 (
 j17 true
 ) (
 mIdx s5 (iSub .i64 (s5.len : Int) 1) 2 fun ad149 =>
 mLoad (cInt .u64) (ad149.add 1) fun x150 =>
 j17 (!decide (x150 = 77))
 ))
 ) (fun j13 =>
 mIf ((((!decide (r7.2 = 0)) || (!decide (r10.2 = 0))) || (r7.1.isNone)) || (r10.1.isNone)) (
 j13 true
 ) (
 m_law22_example fun r151 =>
 j13 (!r151)
 ))
def x_law22_PlainKeeps : Cx Try.prog := ⟨tys, [s_law22_example, s_plain_Run, s_law22_copies, s_plain_New, s_law21_SameReply, s_plain_Model_Do, s_law21_Copied, s_law21_Config, s_law21_Words, s_plain_Model_State, s_law21_SameState], [3, 17, 18, 19, 26, 27, 28, 42, 281, 288, 361, 415], [], mixed⟩
def h_law22_PlainKeeps : Hint := (.seq .d (.seq .d (.seq .d (.seq .d (.seq (.reg (.run [4, 8, 12, 16, 20, 1, 27, 28, 32, 36, 40, 44] .nil)) (.seq (.reg (.run [8, 1, 6, 15, 19, 20, 24, 28, 32, 36] .nil)) (.seq (.seq (.reg (.run [3, 7, 11] (.sel 64 67 258254417031933722624 (.run [15, 19, 23] .nil) (.run [15, 19, 23] .nil) (.run [27] (.sel 68 71 4132070672510939561984 (.run [31, 35, 39] .nil) (.run [31, 35, 39] .nil) (.run [43] (.sel 72 75 66113130760175032991744 (.run [47, 51, 55] .nil) (.run [47, 51, 55] .nil) (.run [59] (.join [.slot 79 tBool] 1057810092162800527867904 [] (.split 76 (.run [63, 67, 71] .nil) (.run [63, 67, 71] .nil)) (.run [75] (.join [.slot 89 tBool] 1235522187646151016549711872 [] (.split 80 (.run [79, 83, 87, 91, 95, 99, 103, 107, 111] .nil) (.run [79, 83, 87, 91, 95, 99, 103, 107, 111] .nil)) .nil))))))))))) .d) (.seq (.seq .d (.blk (.loop [.slot 12 (tInt .i64)] 1266412660188944021221804085248 [] .d))) (.seq .d (.seq (.reg (.run [8, 16, 1, 6, 15, 23, 24, 28, 32, 36, 40] .nil)) (.seq (.reg (.run [8, 16, 1, 6, 15, 23, 27, 28, 32, 36, 40, 44] .nil)) (.seq (.seq (.reg (.run [3, 7, 11] (.sel 123 126 148873535527910577765226390751398592512 (.run [15, 19, 23] .nil) (.run [15, 19, 23] .nil) (.run [27] (.sel 127 133 21437789116019123198192600268201397321728 (.run [31, 35, 39, 43, 47, 51] .nil) (.run [31, 35, 39, 43, 47, 51] .nil) (.run [55] (.sel 134 140 2744037006850447769368652834329778857181184 (.run [59, 63, 67, 71, 75, 79] .nil) (.run [59, 63, 67, 71, 75, 79] .nil) .nil))))))) .d) (.seq (.seq .d (.blk (.loop [.slot 16 (tInt .i64)] 260740604970814219042361048116400404614587954389237052488276161189468114404923017346353659968 [] (.seq .d (.seq (.blk (.seq .d (.seq .d (.seq .d (.seq (.seq (.reg (.run [1, 5, 11, 12, 16] (.join [.slot 173 tBool] 23851706721240335625084136469929738880784819101368320 [] (.split 165 (.run [20, 24, 28, 32, 36, 40, 44, 48] .nil) (.run [20, 24, 28, 37, 34, 43, 44, 48] .nil)) (.run [52] (.join [.slot 182 tBool] 12212073841275051840043077872604026306961827379900579840 [] (.split 174 (.run [56, 60, 64, 68, 72, 76, 80, 84] .nil) (.run [56, 60, 64, 73, 70, 79, 80, 84] .nil)) (.run [88] (.join [.slot 194 tBool] 50192293954439591888952581833226926381880943729757338468352 [] (.split 183 (.run [92, 96, 100, 104, 108, 112, 116, 120, 124, 128, 132] .nil) (.run [92, 104, 108, 112, 116, 97, 100, 122, 124, 128, 132] .nil)) .nil))))))) .d) (.seq (.seq .d (.blk (.loop [.slot 20 (tInt .i64)] 1684996616480101104073242332252411531440990197589942224356700586048 [] (.seq .d (.seq (.blk (.seq (.seq (.reg (.run [0, 8, 20, 24, 28, 32, 40, 5, 12, 18, 38, 44, 50, 52] .nil)) .d) .d)) .d))))) (.seq (.seq .d (.blk (.loop [.slot 21 (tInt .i64)] 56539104387911631849750532857084949567752567597698280251105618372390289472 [] (.seq .d (.seq (.blk (.seq (.seq (.reg (.run [0, 8, 20, 24, 28, 32, 40, 5, 12, 18, 38, 44, 50, 52] .nil)) .d) .d)) .d))))) (.seq (.seq .d (.blk (.loop [.slot 22 (tInt .i64)] 926280174792456655090021214549479489433653397840424492509000780664863677480960 [] .d))) (.seq (.seq .d (.blk (.loop [.slot 23 (tInt .i64)] 971333519776150636930167564843879383817940593366192435501393889208780079297575518208 [] .d))) (.seq .d (.seq .d (.seq (.reg (.run [0, 4, 8, 12] (.sel 293 297 477430306953395176469166958220948006496437904765453808742845417817433117132032040511733760 (.run [16, 20, 24, 28] .nil) (.run [16, 20, 24, 28] .nil) (.run [32] (.join [.slot 306 tBool] 259722086982646975999226825272195715534062220192406871956107907292683615719825430038383165440 [] (.split 298 (.run [36, 40, 44, 48, 52, 56, 60, 64] .nil) (.run [36, 40, 44, 53, 50, 59, 60, 64] .nil)) .nil))))) .d)))))))))))) .d))))) (.seq .d (.seq .d (.seq .d (.seq (.seq (.reg (.run [3, 7, 11, 15, 19] (.join [.slot 322 tBool] 16553899528387053138561418222814028888170960048264058967089572460622202874799964262677956173758464 [] (.split 317 (.run [23, 27, 31, 35, 39] .nil) (.run [23, 27, 31, 35, 39] .nil)) .nil))) .d) (.seq (.seq .d (.blk (.loop [.slot 29 (tInt .i64)] 75153362648745575396176011816599624702372485148149414226454457866871112470804892433032122823912414801937039360 [] (.seq .d (.seq (.blk (.seq (.seq .d (.blk (.loop [.slot 30 (tInt .i64)] 9173992276709561263431359208706120645564894603503693601737918931777085094400940032904150988927326796906496 [] .d))) (.reg (.run [0, 8, 12, 20, 5, 17, 24, 28, 34, 38, 43, 44, 48, 55] .nil)))) .d))))) (.seq (.seq .d (.blk (.loop [.slot 31 (tInt .i64)] 307753020046683106182637537403274724067309441208946235857483408909580670651018290431483116748340090845306906738688 [] .d))) (.seq (.seq .d (.blk (.loop [.slot 32 (tInt .i64)] 1353842624082121302480113218982269159567790418727995751631910221419889714409744966548647681022635229412750513823804048910843904 [] (.seq .d (.seq (.blk (.seq (.seq .d (.blk (.loop [.slot 33 (tInt .i64)] 41315958647384341040015494473008089845661487605528305739843881756356957706547687616863714238215950418058809944944559521792 [] .d))) (.reg (.run [0, 8, 12, 20, 36, 40, 5, 17, 24, 28, 34, 46, 51, 52, 56, 63] .nil)))) .d))))) (.seq (.reg (.run [1, 5, 11, 12] (.split 422 (.run [16, 25, 23, 31, 32, 36] .nil) (.run [16, 20, 24, 28, 32, 36] .nil)))) .d)))))))))))))))))))))
def s_law22_PlainKeeps : Spec Try.prog := mkSpec x_law22_PlainKeeps 7 Try.f7 [S_api_Config.ty, tSl, tSl] [tBool] false h_law22_PlainKeeps (fun a => m_law22_PlainKeeps a.1 a.2.1 a.2.2) (fun a K h => by kernel_rfl) callee7 rfl
end Go.Proofs.Ytbjkfllncegpcaa.K
namespace Go.Proofs.Ytbjkfllncegpcaa.K
open Go
def exC : S_api_Config := ⟨8, 2, 3, 4, 3, 2, 2, 1, 1, 0⟩
def exD : List S_api_Word := [⟨0, 261⟩, ⟨0, 7⟩]
def exA : S_api_Call := ⟨1, 0, 65, ⟨0, ⟨0, 0⟩⟩, false, 0, 0, 0, Sl.nil, 0, Sl.nil⟩
theorem ex_do : (doO (newO exC exD) exA [] []).1 = ⟨0, ⟨1, ⟨0, 5⟩⟩, [], 0⟩ := by kernel_rfl
theorem ex_ts : (stateO (doO (newO exC exD) exA [] []).2).ts = [⟨⟨1, ⟨0, 5⟩⟩, 31, -1⟩] := by kernel_rfl
theorem ex_ob : (stateO (doO (newO exC exD) exA [] []).2).ob.length = 1 := by kernel_rfl
theorem doO_with (m : MdS) (c : S_api_Call) (s1 s2 : Sl) (ds : List UInt8) (gs : List Int) : doO m { c with Data := s1, Gifts := s2 } ds gs = doO m c ds gs := rfl
theorem state_len {m : MdS} (i : MSI m) : (stateO m).ts.length ≤ 2 ^ 20 := by
  have on := i.obn
  have tn := i.tsn
  have : ∀ (l : List (Int × List UInt8)) (out : List S_api_Token), (l.foldl (fun out p => belowO m.ts p.1 (m.ts.length + 1) 0 (-1) out) out).length ≤ out.length + l.length * 256 := by
    intro l
    induction l with
    | nil => intro out; exact Nat.le_refl _
    | cons a r ih =>
      intro out
      have h1 := ih (belowO m.ts a.1 (m.ts.length + 1) 0 (-1) out)
      have h2 := below_len (ts := m.ts) a.1 (m.ts.length + 1) 0 (-1) out
      have h3 := cntB_le i.ok a.1 (m.ts.length + 1) 0
      rw [List.foldl_cons, List.length_cons]
      omega
  have h1 := this m.ob []
  show (m.ob.foldl _ []).length ≤ _
  rw [List.length_nil] at h1
  omega
theorem do_data {m : MdS} (i : MSI m) (c : S_api_Call) (ds : List UInt8) (gs : List Int) : (doO m c ds gs).1.data.length ≤ 4096 := by
  have z : ∀ {l : List UInt8}, l = [] → l.length ≤ 4096 := fun e => by rw [e]; exact Nat.zero_le _
  unfold doO
  by_cases q0 : formedO c ds gs
  · rw [if_pos q0]
    by_cases hl : (alook m.ls c.By).isSome = true
    · rw [if_pos hl]
      by_cases q : c.Op = 1
      · rw [if_pos q]
        exact z (create_sh _).1
      rw [if_neg q]; clear q
      by_cases q : c.Op = 2
      · rw [if_pos q]
        exact z (destroy_sh _).2.1
      rw [if_neg q]; clear q
      by_cases q : c.Op = 3
      · rw [if_pos q]
        exact z (derive_sh _ _).1
      rw [if_neg q]; clear q
      by_cases q : c.Op = 4
      · rw [if_pos q]
        exact z (revoke_sh _).2.1
      rw [if_neg q]; clear q
      by_cases q : c.Op = 5
      · rw [if_pos q]
        unfold readO
        dsimp only
        split
        · split
          · have := i.obs' c.Cap.Obj
            rw [List.length_take, List.length_drop]; omega
          · exact z rfl
        · exact z rfl
      rw [if_neg q]; clear q
      by_cases q : c.Op = 6
      · rw [if_pos q]
        exact z (write_sh _ _).2.1
      rw [if_neg q]; clear q
      by_cases q : c.Op = 7
      · rw [if_pos q]
        exact z (add_sh _).2.1
      rw [if_neg q]; clear q
      by_cases q : c.Op = 8
      · rw [if_pos q]
        exact z (remove_sh _).2.1
      rw [if_neg q]; clear q
      by_cases q : c.Op = 9
      · rw [if_pos q]
        exact z (spawn_sh _ _).2
      rw [if_neg q]; clear q
      exact z rfl
    · rw [if_neg hl]; exact z rfl
  · rw [if_neg q0]; exact z rfl
section
variable {h : H}
theorem t_l22example {K : Bool → H → Prop} (y : ∀ h', Keeps h h' → K true h') : m_law22_example K h := by
  unfold m_law22_example
  refine w_new fun b hb => ?_
  have k1 : Keeps h (upd h b (.cells #[(Value.int .u64 0), (Value.int .u64 261), (Value.int .u64 0), (Value.int .u64 7)] N_api_Word (0, 0))) := Keeps.new hb
  have q1 : (upd h b (.cells #[(Value.int .u64 0), (Value.int .u64 261), (Value.int .u64 0), (Value.int .u64 7)] N_api_Word (0, 0))) b = some (.cells (flat cW exD ++ []).toArray N_api_Word (0, 0)) := upd_same _ _ _
  generalize (upd h b (.cells #[(Value.int .u64 0), (Value.int .u64 261), (Value.int .u64 0), (Value.int .u64 7)] N_api_Word (0, 0))) = h1 at k1 q1
  have b1 : Buf cW 2 N_api_Word h1 ⟨some ⟨b, 0, none⟩, 2, 2⟩ exD := ⟨rfl, Nat.le_refl _, .inr ⟨b, [], (0, 0), rfl, q1, rfl, thawed0 _⟩⟩
  have gw : ∀ w ∈ exD, GoodW w := fun w hw => by
    rcases List.mem_cons.1 hw with rfl | hw
    · exact ⟨261, by decide, by decide⟩
    · rw [List.mem_singleton] at hw; subst hw; exact ⟨7, by decide, by decide⟩
  have my : mayO exC := by decide
  refine t_pNew (c := exC) b1.arr gw (fun z => absurd my z) (fun _ z => absurd z (by decide)) fun _ _ p F h2 x2 i2 k2 f2 => ?_
  refine w_ifF rfl ?_
  have an : Arr cU8 h2 exA.Data [] := Buf.nil (e := N_u8) (sz := 1).arr
  have ag : Arr (cInt .i64) h2 exA.Gifts [] := (Buf.nil (e := N_int) (sz := 1)).arr
  refine t_pDo x2 i2 (c := exA) an ag ⟨0, by decide, by decide⟩ fun s h3 F3 x3 k3 b3 f3 => ?_
  rw [ex_do]
  have i3 := do_inv i2 exA [] []
  have r3 := rise_do (rise_newO exC exD) i2 exA [] []
  refine t_pState x3 i3 r3 fun st h4 so sl G at4 k4 => ?_
  have lt := at4.ts.len
  rw [ex_ts] at lt
  have lo := at4.ob.len
  rw [List.length_map, keys_len at4.bs.keys, ex_ob] at lo
  have bt := at4.ts
  rw [ex_ts] at bt
  refine w_ifT (by simp [lt, lo]) ?_
  refine w_field tok_len5 bt.arr (i := 0) (v := ⟨⟨1, ⟨0, 5⟩⟩, 31, -1⟩) rfl rfl (v' := (31 : Int)) (cells' := cInt .i64) (l1 := (S_api_Token.cells ⟨⟨1, ⟨0, 5⟩⟩, 31, -1⟩).take 3) (l3 := (S_api_Token.cells ⟨⟨1, ⟨0, 5⟩⟩, 31, -1⟩).drop 4) rfl rfl ?_
  exact y h4 ((((k1.trans k2).but k3.but fun c g => k1.fresh (f2 c g))).trans k4)
structure PlayIn (h : H) (x : S_api_Call) (ds : List UInt8) (gs : List Int) : Prop where
  ad : Arr cU8 h x.Data ds
  hd : ds.length * 1 ≤ 2 ^ 48
  ag : Arr (cInt .i64) h x.Gifts gs
  hg : gs.length * 8 ≤ 2 ^ 48
  gw : GoodW x.Cap.Pass
theorem PlayIn.keep {h' : H} {x : S_api_Call} {ds : List UInt8} {gs : List Int} (q : PlayIn h x ds gs) (k : Keeps h h') : PlayIn h' x ds gs := ⟨q.ad.keep k, q.hd, q.ag.keep k, q.hg, q.gw⟩
theorem goodW_of {x : S_api_Word} (h1 : IntKind.u64.min ≤ x.Hi ∧ x.Hi ≤ IntKind.u64.max) (h2 : IntKind.u64.min ≤ x.Lo ∧ x.Lo ≤ IntKind.u64.max) : GoodW x := by
  have e1 : IntKind.u64.min = 0 := by decide
  have e2 : IntKind.u64.max = 18446744073709551615 := by decide
  rw [e1, e2] at h1 h2
  obtain ⟨a, b⟩ := x
  have h1 : 0 ≤ a ∧ a ≤ 18446744073709551615 := h1
  have h2 : 0 ≤ b ∧ b ≤ 18446744073709551615 := h2
  refine ⟨a.toNat * 2 ^ 64 + b.toNat, by omega, ?_⟩
  unfold wordOf
  congr 1 <;> omega
theorem cl_len : ∀ x, (S_api_Call.cells x).length = 13 := fun _ => rfl
end
theorem next_le5 {need cap : Nat} (hc : cap < need) : Builtin.nextslicecap need cap ≤ need + (need + 768) / 4 + 512 := by
  unfold Builtin.nextslicecap
  split
  · omega
  · split
    · omega
    · have := growBy_le need 4 cap; omega
section
variable {T : Type} {cells : T → List Value} {sz by_ : Nat} {e : TypeId} {h : H}
theorem w_appR (hs : ∀ x, (cells x).length = sz) {zero : Array Value} (hz : zero.size = sz) {m : Nat} {new : List Value} {s : Sl} {xs : List T} (x : Buf cells sz e h s xs) (ys : List T) (hnew : new = flat cells ys) (hm : m = ys.length)
    (room : (xs.length + ys.length + (xs.length + ys.length + 768) / 4 + 512) * by_ ≤ 2 ^ 48) {k : Sl → H → Prop}
    (y : ∀ s' h', Buf cells sz e h' s' (xs ++ ys) → But s.foot h h' → (∀ b, s'.foot b → s.foot b ∨ h b = none) → (∀ b, h' b = none → h b = none) → k s' h') : mApp e sz by_ zero m new s k h := by
  have t := w_app (by_ := 0) hs hz x ys hnew hm (.inl (by simp)) y
  refine ⟨t.1, fun hgt => ?_⟩
  obtain ⟨r, h1, h2, _, h4⟩ := t.2 hgt
  refine ⟨r, h1, h2, ?_, h4⟩
  have hl := x.len
  unfold Room
  refine Nat.le_trans (Nat.mul_le_mul_right _ (next_le5 (Nat.lt_of_not_le hgt))) ?_
  rw [hl, hm]; exact room
end
structure Ins (h : H) (s : Sl) (cs : List S_api_Call) (n : Nat) (C : Nat → S_api_Call) (d : Nat → List UInt8) (g : Nat → List Int) : Prop where
  ac : Arr S_api_Call.cells h s cs
  len : cs.length = n
  at_ : ∀ i, i < n → cs[i]? = some (C i) ∧ PlayIn h (C i) (d i) (g i)
theorem Ins.of {h : H} {s : Sl} {cs : List S_api_Call} (ac : Arr S_api_Call.cells h s cs) (good : ∀ x ∈ cs, ∃ ds gs, PlayIn h x ds gs) : ∃ C d g, Ins h s cs cs.length C d g := by
  have z : S_api_Call := exA
  refine ⟨fun i => cs.getD i exA, ?_⟩
  have : ∀ i, ∃ p : List UInt8 × List Int, i < cs.length → PlayIn h (cs.getD i exA) p.1 p.2 := fun i => by
    by_cases q : i < cs.length
    · obtain ⟨ds, gs, p⟩ := good _ (List.getElem_mem q)
      refine ⟨(ds, gs), fun _ => ?_⟩
      rw [List.getD_eq_getElem?_getD, List.getElem?_eq_getElem q]; exact p
    · exact ⟨([], []), fun z => absurd z q⟩
  refine ⟨fun i => (this i).choose.1, fun i => (this i).choose.2, ac, rfl, fun i hi => ⟨?_, (this i).choose_spec hi⟩⟩
  rw [List.getD_eq_getElem?_getD, List.getElem?_eq_getElem hi]; rfl
theorem Ins.keep {h h' : H} {s : Sl} {cs : List S_api_Call} {n : Nat} {C : Nat → S_api_Call} {d : Nat → List UInt8} {g : Nat → List Int} (x : Ins h s cs n C d g) (k : Keeps h h') : Ins h' s cs n C d g := ⟨x.ac.keep k, x.len, fun i hi => ⟨(x.at_ i hi).1, (x.at_ i hi).2.keep k⟩⟩
structure Cop (h0 h : H) (s : Sl) (n : Nat) (C : Nat → S_api_Call) (d : Nat → List UInt8) (g : Nat → List Int) (cs' : List S_api_Call) (D G : Nat → Sl) : Prop where
  buf : Buf S_api_Call.cells 13 N_api_Call h s cs'
  len : cs'.length = n
  nth : ∀ i, i < n → cs'[i]? = some { C i with Data := D i, Gifts := G i }
  dat : ∀ i, i < n → Buf cU8 1 N_u8 h (D i) (d i)
  gif : ∀ i, i < n → Buf (cInt .i64) 1 N_int h (G i) (g i)
  new : ∀ c, s.foot c → h0 c = none
  newD : ∀ i c, i < n → (D i).foot c ∨ (G i).foot c → h0 c = none
  apD : ∀ i j c, i < j → j < n → (D i).foot c → ¬ (D j).foot c
  apG : ∀ i j c, i < j → j < n → (G i).foot c → ¬ (G j).foot c
section
variable {h h0 h' : H} {s : Sl} {cs cs' : List S_api_Call} {n : Nat} {C : Nat → S_api_Call} {d : Nat → List UInt8} {g : Nat → List Int} {D G : Nat → Sl}
theorem Cop.keep (x : Cop h0 h s n C d g cs' D G) (k : Keeps h h') : Cop h0 h' s n C d g cs' D G :=
  ⟨x.buf.keep k, x.len, x.nth, fun i hi => (x.dat i hi).keep k, fun i hi => (x.gif i hi).keep k, x.new, x.newD, x.apD, x.apG⟩
theorem Cop.ins (x : Cop h0 h s n C d g cs' D G) (p : ∀ i, i < n → PlayIn h0 (C i) (d i) (g i)) : Ins h s cs' n (fun i => { C i with Data := D i, Gifts := G i }) d g :=
  ⟨x.buf.arr, x.len, fun i hi => ⟨x.nth i hi, (x.dat i hi).arr, (p i hi).hd, (x.gif i hi).arr, (p i hi).hg, (p i hi).gw⟩⟩
theorem t_copies (x : Ins h s cs n C d g) (hn : n * 136 ≤ 140737488351232) {K : Sl → H → Prop} (y : ∀ s' h' cs' D G, Cop h h' s' n C d g cs' D G → Keeps h h' → K s' h') : m_law22_copies s K h := by
  unfold m_law22_copies
  have cl := x.ac.len
  have ln := x.len
  refine w_for n (fun i (z : Sl × Int) hh => ∃ sg cs' D G, z = (sg, (i : Int)) ∧ Cop h hh sg i C d g cs' D G ∧ Keeps h hh) ?_
    ⟨Sl.nil, [], fun _ => Sl.nil, fun _ => Sl.nil, rfl, ⟨Buf.nil, rfl, fun i hi => absurd hi (Nat.not_lt_zero _), fun i hi => absurd hi (Nat.not_lt_zero _), fun i hi => absurd hi (Nat.not_lt_zero _), fun _ ⟨_, q, _⟩ => (by cases q), fun i _ hi => absurd hi (Nat.not_lt_zero _), fun _ _ _ _ hi => absurd hi (Nat.not_lt_zero _), fun _ _ _ _ hi => absurd hi (Nat.not_lt_zero _)⟩, .refl _⟩
  rintro rec i _ hh hi ⟨sg, cs', D, G, rfl, co, kh⟩ more
  refine w_if' (fun c0 => ?_) fun c0 => ?_
  · have c0 : (i : Int) < (s.len : Int) := c0
    have hil : i < n := by omega
    obtain ⟨ht, pin⟩ := x.at_ i hil
    have pin1 := pin.keep kh
    refine w_get cl_len (x.ac.keep kh) ht rfl rfl (t_Copied pin1.ad pin1.hd pin1.ag pin1.hg fun s1 s2 h2 b1 b2 k2 f2 => ?_)
    have co2 := co.keep k2
    have k02 := kh.trans k2
    refine w_appR (by_ := 136) cl_len rfl co2.buf [({ C i with Data := s1, Gifts := s2 } : S_api_Call)] rfl rfl (by rw [co2.len]; simp only [List.length_singleton]; omega) fun s3 h3 b3 bt3 f3 d3 => ?_
    have k03 : Keeps h h3 := k02.but bt3 co2.new
    have nty : ∀ {e : TypeId} {c : Nat}, Typed h2 e c → e ≠ N_api_Call → ¬ sg.foot c := fun t ne q => t.ne (co2.buf.typed q) ne rfl
    have fresh1 : ∀ j c, j < i → s1.foot c → ¬ (D j).foot c := fun j c hj g1 g2 => (co.dat j hj).has g2 (f2 c (.inl g1))
    have fresh2 : ∀ j c, j < i → s2.foot c → ¬ (G j).foot c := fun j c hj g1 g2 => (co.gif j hj).has g2 (f2 c (.inr g1))
    refine more _ _ hil ⟨s3, _, fun j => if j = i then s1 else D j, fun j => if j = i then s2 else G j, by rw [ia1 i (by omega)], ⟨b3, by rw [List.length_append, co2.len]; rfl, fun j hj => ?_, fun j hj => ?_, fun j hj => ?_, fun c q => (f3 c q).elim (co2.new c) fun z => k02.fresh z, fun j c hj q => ?_, fun j k c hjk hk q => ?_, fun j k c hjk hk q => ?_⟩, k03⟩
    · rcases Nat.lt_succ_iff_lt_or_eq.1 hj with q | rfl
      · rw [List.getElem?_append_left (by rw [co2.len]; exact q), co2.nth j q]
        simp only [if_neg (Nat.ne_of_lt q)]
      · rw [List.getElem?_append_right (by rw [co2.len]; exact Nat.le_refl _), co2.len, Nat.sub_self]
        simp only [if_pos]
        rfl
    · rcases Nat.lt_succ_iff_lt_or_eq.1 hj with q | rfl
      · simp only [if_neg (Nat.ne_of_lt q)]
        exact (co2.dat j q).but bt3 fun ad ha => nty ((co2.dat j q).typed ⟨ad, ha, rfl⟩) (by decide)
      · simp only [if_pos]
        exact b1.but bt3 fun ad ha => nty (b1.typed ⟨ad, ha, rfl⟩) (by decide)
    · rcases Nat.lt_succ_iff_lt_or_eq.1 hj with q | rfl
      · simp only [if_neg (Nat.ne_of_lt q)]
        exact (co2.gif j q).but bt3 fun ad ha => nty ((co2.gif j q).typed ⟨ad, ha, rfl⟩) (by decide)
      · simp only [if_pos]
        exact b2.but bt3 fun ad ha => nty (b2.typed ⟨ad, ha, rfl⟩) (by decide)
    · rcases Nat.lt_succ_iff_lt_or_eq.1 hj with q' | rfl
      · simp only [if_neg (Nat.ne_of_lt q')] at q
        exact co.newD j c q' q
      · simp only [if_pos] at q
        exact kh.fresh (f2 c q)
    · have hj : j < i := by omega
      simp only [if_neg (Nat.ne_of_lt hj)] at q
      rcases Nat.lt_succ_iff_lt_or_eq.1 hk with q' | rfl
      · simp only [if_neg (Nat.ne_of_lt q')]
        exact co.apD j k c hjk q' q
      · simp only [if_pos]
        exact fun q2 => fresh1 j c hj q2 q
    · have hj : j < i := by omega
      simp only [if_neg (Nat.ne_of_lt hj)] at q
      rcases Nat.lt_succ_iff_lt_or_eq.1 hk with q' | rfl
      · simp only [if_neg (Nat.ne_of_lt q')]
        exact co.apG j k c hjk q' q
      · simp only [if_pos]
        exact fun q2 => fresh2 j c hj q2 q
  · have c0 : ¬ (i : Int) < (s.len : Int) := c0
    have ei : i = n := by omega
    subst ei
    exact y sg hh cs' D G co kh
end
def stN (m0 : MdS) (C : Nat → S_api_Call) (d : Nat → List UInt8) (g : Nat → List Int) : Nat → MdS
  | 0 => m0
  | n + 1 => (doO (stN m0 C d g n) (C n) (d n) (g n)).2
def rpN (m0 : MdS) (C : Nat → S_api_Call) (d : Nat → List UInt8) (g : Nat → List Int) (n : Nat) : RpV := (doO (stN m0 C d g n) (C n) (d n) (g n)).1
theorem stN_with (m0 : MdS) (C : Nat → S_api_Call) (d : Nat → List UInt8) (g : Nat → List Int) (D G : Nat → Sl) : ∀ n, stN m0 (fun i => { C i with Data := D i, Gifts := G i }) d g n = stN m0 C d g n
  | 0 => rfl
  | n + 1 => by
    rw [stN, stN_with m0 C d g D G n]
    exact congrArg Prod.snd (doO_with _ _ _ _ _ _)
theorem rpN_with (m0 : MdS) (C : Nat → S_api_Call) (d : Nat → List UInt8) (g : Nat → List Int) (D G : Nat → Sl) (n : Nat) : rpN m0 (fun i => { C i with Data := D i, Gifts := G i }) d g n = rpN m0 C d g n := by
  unfold rpN
  rw [stN_with]
  exact congrArg Prod.fst (doO_with _ _ _ _ _ _)
theorem stN_inv {m0 : MdS} (i : MSI m0) (r : MSR m0) (k : MSK m0) (C : Nat → S_api_Call) (d : Nat → List UInt8) (g : Nat → List Int) : ∀ n, MSI (stN m0 C d g n) ∧ MSR (stN m0 C d g n) ∧ MSK (stN m0 C d g n)
  | 0 => ⟨i, r, k⟩
  | n + 1 => by
    obtain ⟨a, b, c⟩ := stN_inv i r k C d g n
    exact ⟨do_inv a _ _ _, rise_do b a _ _ _, do_kin c a _ _ _⟩
theorem rpN_data {m0 : MdS} (i : MSI m0) (r : MSR m0) (k : MSK m0) (C : Nat → S_api_Call) (d : Nat → List UInt8) (g : Nat → List Int) (n : Nat) : (rpN m0 C d g n).data.length ≤ 4096 := do_data (stN_inv i r k C d g n).1 _ _ _
theorem rp_len : ∀ x, (S_api_Reply.cells x).length = 6 := fun _ => rfl
structure Reps (h0 h : H) (s : Sl) (n : Nat) (R : Nat → RpV) (rs : List S_api_Reply) (Q : Nat → Sl) : Prop where
  buf : Buf S_api_Reply.cells 6 N_api_Reply h s rs
  len : rs.length = n
  nth : ∀ i, i < n → rs[i]? = some ⟨(R i).code, (R i).cap, Q i, (R i).num⟩
  dat : ∀ i, i < n → Buf cU8 1 N_u8 h (Q i) (R i).data
  new : ∀ c, s.foot c → h0 c = none
  newQ : ∀ i c, i < n → (Q i).foot c → h0 c = none
  apQ : ∀ i j c, i < j → j < n → (Q i).foot c → ¬ (Q j).foot c
section
variable {h h0 h' : H} {s : Sl} {cs cs' : List S_api_Call} {n : Nat} {C : Nat → S_api_Call} {d : Nat → List UInt8} {g : Nat → List Int} {D G : Nat → Sl} {R : Nat → RpV} {rs : List S_api_Reply} {Q : Nat → Sl}
theorem Reps.keep (x : Reps h0 h s n R rs Q) (k : Keeps h h') : Reps h0 h' s n R rs Q :=
  ⟨x.buf.keep k, x.len, x.nth, fun i hi => (x.dat i hi).keep k, x.new, x.newQ, x.apQ⟩
theorem t_pRun {c : S_api_Config} {sd : Sl} {xs : List S_api_Word} (ar : Arr cW h sd xs) (gw : ∀ w ∈ xs, GoodW w) (x : Ins h s cs n C d g) (hn : n * 136 ≤ 140737488351232) {K : Sl × Int → H → Prop} (no1 : ¬ mayO c → K (Sl.nil, 16) h) (no2 : mayO c → 4096 < xs.length → K (Sl.nil, 23) h)
    (yes : mayO c → xs.length ≤ 4096 → ∀ s' h' rs Q, Reps h h' s' n (rpN (newO c xs) C d g) rs Q → Keeps h h' → K (s', 0) h') : m_plain_Run c sd s K h := by
  unfold m_plain_Run
  have cl := x.ac.len
  have ln := x.len
  refine t_pNew ar gw (fun z => w_ifT rfl (no1 z)) (fun z1 z2 => w_ifT rfl (no2 z1 z2)) fun my hx p F h1 x1 i1 k1 f1 => w_ifF rfl ?_
  have inv := stN_inv i1 (rise_newO c xs) (kin_newO c xs) C d g
  refine w_for n (fun i (z : Sl × Int) hh => ∃ sg rs Q F, z = (sg, (i : Int)) ∧ Reps h hh sg i (rpN (newO c xs) C d g) rs Q ∧ PM hh p F (stN (newO c xs) C d g i) ∧ (∀ c, F c → h c = none) ∧ (∀ c, F c → ¬ sg.foot c) ∧ (∀ j c, j < i → F c → ¬ (Q j).foot c) ∧ Keeps h hh) ?_
    ⟨Sl.nil, [], fun _ => Sl.nil, F, rfl, ⟨Buf.nil, rfl, fun i hi => absurd hi (Nat.not_lt_zero _), fun i hi => absurd hi (Nat.not_lt_zero _), fun _ ⟨_, q, _⟩ => (by cases q), fun i _ hi => absurd hi (Nat.not_lt_zero _), fun _ _ _ _ hi => absurd hi (Nat.not_lt_zero _)⟩, x1, f1, fun _ _ ⟨_, q, _⟩ => (by cases q), fun _ _ hi => absurd hi (Nat.not_lt_zero _), k1⟩
  rintro rec i _ hh hi ⟨sg, rs, Q, F, rfl, re, xp, ff, dj, dq, kh⟩ more
  refine w_if' (fun c0 => ?_) fun c0 => ?_
  · have c0 : (i : Int) < (s.len : Int) := c0
    have hil : i < n := by omega
    obtain ⟨ht, pin⟩ := x.at_ i hil
    have pin1 := pin.keep kh
    refine w_get cl_len (x.ac.keep kh) ht rfl rfl (t_pDo xp (inv i).1 pin1.ad pin1.ag pin1.gw fun s1 h2 F2 xp2 c2 b2 f2 => ?_)
    have re2b := re.buf.but c2.but fun ad ha q => dj _ q ⟨ad, ha, rfl⟩
    have re2d : ∀ j, j < i → Buf cU8 1 N_u8 h2 (Q j) (rpN (newO c xs) C d g j).data := fun j hj => (re.dat j hj).but c2.but fun ad ha q => dq j _ hj q ⟨ad, ha, rfl⟩
    have k02 : Keeps h h2 := kh.but c2.but ff
    have ff2 : ∀ c, F2 c → h c = none := fun c q => (c2.foot c q).elim (ff c) fun z => kh.fresh z
    have dj2 : ∀ c, F2 c → ¬ sg.foot c := fun c q q' => (c2.foot c q).elim (fun q => dj c q q') fun z => re.buf.has q' z
    have dq2 : ∀ j c, j < i → F2 c → ¬ (Q j).foot c := fun j c hj q q' => (c2.foot c q).elim (fun q => dq j c hj q q') fun z => (re.dat j hj).has q' z
    refine w_app (by_ := 64) rp_len rfl re2b [(⟨(rpN (newO c xs) C d g i).code, (rpN (newO c xs) C d g i).cap, s1, (rpN (newO c xs) C d g i).num⟩ : S_api_Reply)] rfl rfl (.inl (by rw [re.len]; simp only [List.length_singleton]; omega)) fun s3 h3 b3 bt3 f3 d3 => ?_
    have k03 : Keeps h h3 := k02.but bt3 re.new
    have nty : ∀ {e : TypeId} {c : Nat}, Typed h2 e c → e ≠ N_api_Reply → ¬ sg.foot c := fun t ne q => t.ne (re2b.typed q) ne rfl
    refine more _ _ hil ⟨s3, _, fun j => if j = i then s1 else Q j, F2, by rw [ia1 i (by omega)], ⟨b3, by rw [List.length_append, re.len]; rfl, fun j hj => ?_, fun j hj => ?_, fun c q => (f3 c q).elim (re.new c) fun z => k02.fresh z, fun j c hj q => ?_, fun j k c hjk hk q => ?_⟩, xp2.but bt3 (fun c q => dj2 c q) d3, ff2, fun c q q' => (f3 c q').elim (dj2 c q) fun z => xp2.has c q z, fun j c hj q => ?_, k03⟩
    · rcases Nat.lt_succ_iff_lt_or_eq.1 hj with q | rfl
      · rw [List.getElem?_append_left (by rw [re.len]; exact q), re.nth j q]
        simp only [if_neg (Nat.ne_of_lt q)]
      · rw [List.getElem?_append_right (by rw [re.len]; exact Nat.le_refl _), re.len, Nat.sub_self]
        simp only [if_pos]
        rfl
    · rcases Nat.lt_succ_iff_lt_or_eq.1 hj with q | rfl
      · simp only [if_neg (Nat.ne_of_lt q)]
        exact (re2d j q).but bt3 fun ad ha => nty ((re2d j q).typed ⟨ad, ha, rfl⟩) (by decide)
      · simp only [if_pos]
        exact b2.but bt3 fun ad ha => nty (b2.typed ⟨ad, ha, rfl⟩) (by decide)
    · rcases Nat.lt_succ_iff_lt_or_eq.1 hj with q' | rfl
      · simp only [if_neg (Nat.ne_of_lt q')] at q
        exact re.newQ j c q' q
      · simp only [if_pos] at q
        exact kh.fresh (f2 c q).1
    · have hj : j < i := by omega
      simp only [if_neg (Nat.ne_of_lt hj)] at q
      rcases Nat.lt_succ_iff_lt_or_eq.1 hk with q' | rfl
      · simp only [if_neg (Nat.ne_of_lt q')]
        exact re.apQ j k c hjk q' q
      · simp only [if_pos]
        exact fun q2 => (re.dat j hj).has q (f2 c q2).1
    · rcases Nat.lt_succ_iff_lt_or_eq.1 hj with q' | rfl
      · simp only [if_neg (Nat.ne_of_lt q')]
        exact dq2 j c q' q
      · simp only [if_pos]
        exact fun q2 => (f2 c q2).2 q
  · have c0 : ¬ (i : Int) < (s.len : Int) := c0
    have ei : i = n := by omega
    subst ei
    exact yes my hx sg hh rs Q re kh
end
def belowI (a k : Int) : Int := if iRem .i64 a k < 0 then iAdd .i64 (iRem .i64 a k) k else iRem .i64 a k
theorem belowI_in {a k : Int} (hk : 0 < k) (hb : k ≤ 1000) : 0 ≤ belowI a k ∧ belowI a k < k := by
  have h1 := Int.tmod_lt_of_pos a hk
  have h2 : -k < Int.tmod a k := by
    have := Int.natAbs_tmod a k
    have h3 : a.natAbs % k.natAbs < k.natAbs := Nat.mod_lt _ (by omega)
    omega
  have e : iRem .i64 a k = Int.tmod a k := by
    rfl
  unfold belowI
  rw [e]
  split
  · rw [iAdd_eq (by omega) (by omega)]; omega
  · omega
def cfgO (c : S_api_Config) : S_api_Config := ⟨iAdd .i64 1 (belowI (iSub .i64 c.Width 1) 128), iAdd .i64 1 (belowI (iSub .i64 c.Objects 1) 64), iAdd .i64 1 (belowI (iSub .i64 c.Pages 1) 256), iAdd .i64 1 (belowI (iSub .i64 c.Entries 1) 256), iAdd .i64 1 (belowI (iSub .i64 c.Quota 1) 256), iAdd .i64 1 (belowI (iSub .i64 c.Procs 1) 32), iAdd .i64 1 (belowI (iSub .i64 c.List 1) 32), belowI c.Sets 17, iAdd .i64 1 (belowI (iSub .i64 c.Ways 1) 4), belowI c.Knob 65⟩
theorem cfgO_may (c : S_api_Config) : mayO (cfgO c) := by
  have up : ∀ {a k : Int}, 0 < k → k ≤ 1000 → inB (iAdd .i64 1 (belowI a k)) 1 k := fun {a k} h1 h2 => by
    obtain ⟨q1, q2⟩ := belowI_in (a := a) h1 h2
    rw [iAdd_eq (by omega) (by omega)]
    unfold inB; omega
  have at0 : ∀ {a k : Int}, 0 < k → k ≤ 1000 → inB (belowI a k) 0 (k - 1) := fun {a k} h1 h2 => by
    obtain ⟨q1, q2⟩ := belowI_in (a := a) h1 h2
    unfold inB; omega
  exact ⟨up (by decide) (by decide), up (by decide) (by decide), up (by decide) (by decide), up (by decide) (by decide), up (by decide) (by decide), up (by decide) (by decide), up (by decide) (by decide), at0 (by decide) (by decide), up (by decide) (by decide), at0 (by decide) (by decide)⟩
section
variable {h : H}
theorem w_lBelow {a k : Int} (hk : k ≠ 0) {kk : Int → H → Prop} (y : kk (belowI a k) h) : mPure (m_law21_below a k) kk h := by
  refine w_pure _ (fun K0 h0 z => ?_) y
  unfold m_law21_below
  refine ⟨hk, ?_⟩
  unfold belowI at z
  exact w_if' (fun q => by rw [if_pos q] at z; exact z) fun q => by rw [if_neg q] at z; exact z
theorem w_lConfig {c : S_api_Config} {k : S_api_Config → H → Prop} (y : k (cfgO c) h) : mPure (m_law21_Config c) k h := by
  refine w_pure _ (fun K0 h0 z => ?_) y
  unfold m_law21_Config
  exact w_lBelow (by decide) (w_lBelow (by decide) (w_lBelow (by decide) (w_lBelow (by decide) (w_lBelow (by decide) (w_lBelow (by decide) (w_lBelow (by decide) (w_lBelow (by decide) (w_lBelow (by decide) (w_lBelow (by decide) z)))))))))
theorem t_lWords {s : Sl} {xs : List S_api_Word} (ar : Arr cW h s xs) {K : Sl → H → Prop} (y : ∀ s' h', Buf cW 2 N_api_Word h' s' (xs.take 4096) → Keeps h h' → (∀ c, s'.foot c → h c = none) → K s' h') : m_law21_Words s K h := by
  unfold m_law21_Words
  have al := ar.len
  refine w_joinP (fun z hh => hh = h ∧ Arr cW h z (xs.take 4096)) (fun j hj => ?_) ?_
  · refine w_if' (fun q => w_take ar (n := 4096) (by omega) rfl rfl fun s' a' _ _ => hj _ _ ⟨rfl, a'⟩) fun q => ?_
    have e : xs.take 4096 = xs := List.take_of_length_le (by omega)
    exact hj _ _ ⟨rfl, by rw [e]; exact ar⟩
  · rintro z _ ⟨rfl, az⟩
    refine w_empty (T := S_api_Word) (cells := cW) (sz := 2) fun b h2 hb b2 k2 => ?_
    exact w_anew word_len word_plain rfl k2 hb b2 (az.keep k2) (by rw [List.length_take]; omega) fun s3 h3 b3 k3 f3 _ => y s3 h3 b3 k3 f3
theorem xor255 (u : UInt8) : ∃ b : UInt8, [(Value.int .u8 (iXor .u8 ((u.toNat : Nat) : Int) 255))] = cU8 b := by
  have : ∀ n : Fin 256, iXor .u8 ((n.1 : Nat) : Int) 255 = (((255 - n.1) : Nat) : Int) := by decide +kernel
  have hu : u.toNat < 256 := UInt8.toNat_lt u
  have e := this ⟨u.toNat, hu⟩
  have e : iXor .u8 ((u.toNat : Nat) : Int) 255 = (((255 - u.toNat) : Nat) : Int) := e
  refine ⟨UInt8.ofNat (255 - u.toNat), ?_⟩
  rw [e]
  have e2 : (UInt8.ofNat (255 - u.toNat)).toNat = 255 - u.toNat := by
    rw [UInt8.toNat_ofNat']; omega
  show _ = [Value.int .u8 (((UInt8.ofNat (255 - u.toNat)).toNat : Nat) : Int)]
  rw [e2]
theorem w_turn (src : (Sl → H → Prop) → H → Prop) {s : Sl} {xs : List UInt8} (b : Buf cU8 1 N_u8 h s xs) (hn : xs.length ≤ 2 ^ 60) (hsrc : ∀ hh (k : Sl → H → Prop), But s.foot h hh → k s hh → src k hh) {E : H → Prop} (y : ∀ h' xs', xs'.length = xs.length → Buf cU8 1 N_u8 h' s xs' → But s.foot h h' → (∀ c, h' c = none → h c = none) → E h') :
    mLoop (fun (rec : Int → H → Prop) (i : Int) => src fun x79 => mIf (decide (i < (x79.len : Int))) (src fun x81 => mIdx x81 i 1 fun ad82 => mLoad (cInt .u8) ad82 fun x83 => mIdx x81 i 1 fun ad84 => mStore ad84 [(Value.int .u8 (iXor .u8 x83 255))] <| rec (iAdd .i64 i 1)) E) 0 h := by
  have bl := b.len
  refine w_for xs.length (fun i (z : Int) hh => z = (i : Int) ∧ ∃ ys, ys.length = xs.length ∧ Buf cU8 1 N_u8 hh s ys ∧ But s.foot h hh ∧ ∀ c, hh c = none → h c = none) ?_ ⟨rfl, xs, rfl, b, .refl _ _, fun _ z => z⟩
  rintro rec i _ hh hi ⟨rfl, ys, ly, by_, bt, dm⟩ more
  refine hsrc hh _ bt (w_if' (fun c => ?_) fun c => y hh ys ly by_ bt dm)
  have c : (i : Int) < (s.len : Int) := c
  have hil : i < ys.length := by omega
  have ht := List.getElem?_eq_getElem hil
  generalize ys[i] = u at ht
  obtain ⟨v, ev⟩ := xor255 u
  refine hsrc hh _ bt (w_idx u8_len by_.arr ht rfl fun a _ ha => w_load (v := ((u.toNat : Nat) : Int)) ha ?_)
  rw [ev]
  exact w_put u8_len by_ hil rfl v rfl fun h2 b2 bt2 d2 => more _ _ (by omega) ⟨ia1 i (by omega), ys.set i v, by rw [List.length_set, ly], b2, bt.trans bt2 fun _ q => .inl q, fun c z => dm c (d2 c z)⟩
theorem w_wipeD {sc s : Sl} {cs : List S_api_Call} {n : Nat} {x : S_api_Call} {ds : List UInt8} (ht : cs[n]? = some x) (b : Buf cU8 1 N_u8 h s ds) (hn : ds.length ≤ 2 ^ 60) (hin : ∀ hh, But s.foot h hh → Arr S_api_Call.cells hh sc cs ∧ Arr cU8 hh x.Data ds) {E Z : H → Prop} (y : ∀ h', But s.foot h h' → (∀ c, h' c = none → h c = none) → E h') :
    mLoop (fun (rec54 : Int → H → Prop) (s53 : Int) => mIf (decide (s53 < (s.len : Int))) (mIdx sc (n : Int) 13 fun ad55 => mIdx s s53 1 fun ad56 => mLoad (cInt .u8) ad56 fun x57 => mLoad cSl (ad55.add 10) fun x58 => mIdx x58 s53 1 fun ad59 => mLoad (cInt .u8) ad59 fun x60 => mIf (!decide (x57 = x60)) Z (mIdx s s53 1 fun ad61 => mStore ad61 [(Value.int .u8 238)] <| rec54 (iAdd .i64 s53 1))) E) 0 h := by
  have bl := b.len
  refine w_for ds.length (fun i (z : Int) hh => z = (i : Int) ∧ ∃ ys, ys.length = ds.length ∧ (∀ j, i ≤ j → ys[j]? = ds[j]?) ∧ Buf cU8 1 N_u8 hh s ys ∧ But s.foot h hh ∧ ∀ c, hh c = none → h c = none) ?_ ⟨rfl, ds, rfl, fun _ _ => rfl, b, .refl _ _, fun _ z => z⟩
  rintro rec i _ hh hi ⟨rfl, ys, ly, ey, by_, bt, dm⟩ more
  refine w_if' (fun c => ?_) fun c => y hh bt dm
  have c : (i : Int) < (s.len : Int) := c
  have hil : i < ds.length := by omega
  have hd := List.getElem?_eq_getElem hil
  generalize ds[i] = u at hd
  have hy := (ey i (Nat.le_refl _)).trans hd
  obtain ⟨ac, ad⟩ := hin hh bt
  refine w_idx cl_len ac ht rfl fun a1 _ h1 => w_idx u8_len by_.arr hy rfl fun a2 _ h2 => w_load (v := ((u.toNat : Nat) : Int)) h2 ?_
  have f1 := h1.sub (l1 := (S_api_Call.cells x).take 10) (l2 := cSl x.Data) (l3 := (S_api_Call.cells x).drop 11) (n := 10) rfl
  refine w_load f1 (w_idx u8_len ad hd rfl fun a3 _ h3 => w_load (v := ((u.toNat : Nat) : Int)) h3 (w_ifF (by simp) ?_))
  refine w_put u8_len by_ (by omega) rfl (238 : UInt8) rfl fun h2 b2 bt2 d2 => more _ _ (by omega) ⟨ia1 i (by omega), ys.set i 238, by rw [List.length_set, ly], fun j hj => ?_, b2, bt.trans bt2 fun _ q => .inl q, fun c z => dm c (d2 c z)⟩
  rw [List.getElem?_set_ne (by omega)]; exact ey j (by omega)
theorem w_wipeG {sc s : Sl} {cs : List S_api_Call} {n : Nat} {x : S_api_Call} {ds : List Int} (ht : cs[n]? = some x) (b : Buf (cInt .i64) 1 N_int h s ds) (hn : ds.length ≤ 2 ^ 60) (hin : ∀ hh, But s.foot h hh → Arr S_api_Call.cells hh sc cs ∧ Arr (cInt .i64) hh x.Gifts ds) {E Z : H → Prop} (y : ∀ h', But s.foot h h' → (∀ c, h' c = none → h c = none) → E h') :
    mLoop (fun (rec54 : Int → H → Prop) (s53 : Int) => mIf (decide (s53 < (s.len : Int))) (mIdx sc (n : Int) 13 fun ad55 => mIdx s s53 1 fun ad56 => mLoad (cInt .i64) ad56 fun x57 => mLoad cSl (ad55.add 12) fun x58 => mIdx x58 s53 1 fun ad59 => mLoad (cInt .i64) ad59 fun x60 => mIf (!decide (x57 = x60)) Z (mIdx s s53 1 fun ad61 => mStore ad61 [(Value.int .i64 0)] <| rec54 (iAdd .i64 s53 1))) E) 0 h := by
  have bl := b.len
  refine w_for ds.length (fun i (z : Int) hh => z = (i : Int) ∧ ∃ ys, ys.length = ds.length ∧ (∀ j, i ≤ j → ys[j]? = ds[j]?) ∧ Buf (cInt .i64) 1 N_int hh s ys ∧ But s.foot h hh ∧ ∀ c, hh c = none → h c = none) ?_ ⟨rfl, ds, rfl, fun _ _ => rfl, b, .refl _ _, fun _ z => z⟩
  rintro rec i _ hh hi ⟨rfl, ys, ly, ey, by_, bt, dm⟩ more
  refine w_if' (fun c => ?_) fun c => y hh bt dm
  have c : (i : Int) < (s.len : Int) := c
  have hil : i < ds.length := by omega
  have hd := List.getElem?_eq_getElem hil
  generalize ds[i] = u at hd
  have hy := (ey i (Nat.le_refl _)).trans hd
  obtain ⟨ac, ad⟩ := hin hh bt
  refine w_idx cl_len ac ht rfl fun a1 _ h1 => w_idx ci_len by_.arr hy rfl fun a2 _ h2 => w_load (v := u) h2 ?_
  have f1 := h1.sub (l1 := (S_api_Call.cells x).take 12) (l2 := cSl x.Gifts) (l3 := []) (n := 12) rfl
  refine w_load f1 (w_idx ci_len ad hd rfl fun a3 _ h3 => w_load (v := u) h3 (w_ifF (by simp) ?_))
  refine w_put ci_len by_ (by omega) rfl (0 : Int) rfl fun h2 b2 bt2 d2 => more _ _ (by omega) ⟨ia1 i (by omega), ys.set i 0, by rw [List.length_set, ly], fun j hj => ?_, b2, bt.trans bt2 fun _ q => .inl q, fun c z => dm c (d2 c z)⟩
  rw [List.getElem?_set_ne (by omega)]; exact ey j (by omega)
end
section
variable {h : H}
theorem w_turnC (src : (Sl → H → Prop) → H → Prop) {s : Sl} {xs : List S_api_Cap} (b : Buf cCp 3 N_api_Cap h s xs) (hn : xs.length ≤ 2 ^ 60) (hsrc : ∀ hh (k : Sl → H → Prop), But s.foot h hh → k s hh → src k hh) {E : H → Prop} (y : ∀ h' xs', xs'.length = xs.length → Buf cCp 3 N_api_Cap h' s xs' → But s.foot h h' → (∀ c, h' c = none → h c = none) → E h') :
    mLoop (fun (rec : Int → H → Prop) (i : Int) => src fun x79 => mIf (decide (i < (x79.len : Int))) (src fun x81 => mIdx x81 i 3 fun ad82 => mStore (ad82.add 0) [(Value.int .i64 (-1))] <| rec (iAdd .i64 i 1)) E) 0 h := by
  have bl := b.len
  refine w_for xs.length (fun i (z : Int) hh => z = (i : Int) ∧ ∃ ys, ys.length = xs.length ∧ Buf cCp 3 N_api_Cap hh s ys ∧ But s.foot h hh ∧ ∀ c, hh c = none → h c = none) ?_ ⟨rfl, xs, rfl, b, .refl _ _, fun _ z => z⟩
  rintro rec i _ hh hi ⟨rfl, ys, ly, by_, bt, dm⟩ more
  refine hsrc hh _ bt (w_if' (fun c => ?_) fun c => y hh ys ly by_ bt dm)
  have c : (i : Int) < (s.len : Int) := c
  have hil : i < ys.length := by omega
  have ht := List.getElem?_eq_getElem hil
  generalize ys[i] = u at ht
  refine hsrc hh _ bt (w_idx cap_len by_.arr ht rfl fun a ha _ => ?_)
  exact w_set cap_len by_ (v' := (⟨-1, u.Pass⟩ : S_api_Cap)) ht ha (c1 := []) (c2 := cInt .i64 u.Obj) (c3 := S_api_Word.cells u.Pass) (new := [.int .i64 (-1)]) rfl rfl rfl rfl fun h2 b2 bt2 d2 => more _ _ (by omega) ⟨ia1 i (by omega), _, by rw [List.length_set, ly], b2, bt.trans bt2 fun _ q => .inl q, fun c z => dm c (d2 c z)⟩
def stFoot (s : S_api_State) (G : Nat → Prop) (c : Nat) : Prop := s.Objects.foot c ∨ s.Tokens.foot c ∨ s.Processes.foot c ∨ G c
theorem w_spoil {h0 : H} {s : S_api_State} {v : StV} {so sl : List (Int × Sl)} {G : Nat → Prop} (x : StAt h0 h s v so sl G) (o1 : ∀ o ∈ v.ob, o.2.length ≤ 4096) (o2 : ∀ o ∈ v.ls, o.2.length ≤ 4096) (n1 : v.ob.length ≤ 2 ^ 60) (n2 : v.ts.length ≤ 2 ^ 60) (n3 : v.ls.length ≤ 2 ^ 60) {E : H → Prop} (y : ∀ h', But (stFoot s G) h h' → (∀ c, h' c = none → h c = none) → E h') :
    mLoop (fun (rec113 : Int → H → Prop) (s112 : Int) =>
      mIf (decide (s112 < (s.Objects.len : Int))) (
        mLoop (fun (rec115 : Int → H → Prop) (s114 : Int) =>
          mIdx s.Objects s112 2 fun ad116 => mLoad cSl (ad116.add 1) fun x117 =>
          mIf (decide (s114 < (x117.len : Int))) (
            mIdx s.Objects s112 2 fun ad118 => mLoad cSl (ad118.add 1) fun x119 => mIdx x119 s114 1 fun ad120 => mLoad (cInt .u8) ad120 fun x121 => mIdx x119 s114 1 fun ad122 => mStore ad122 [(Value.int .u8 (iXor .u8 x121 255))] <| rec115 (iAdd .i64 s114 1)) (
            mIdx s.Objects s112 2 fun ad123 => mLoad cSl (ad123.add 1) fun x124 => mApp N_u8 1 1 #[(Value.int .u8 0)] 2 [(Value.int .u8 1), (Value.int .u8 2)] x124 fun s125 =>
            mIdx s.Objects s112 2 fun ad126 => mStore (ad126.add 1) [(Sl.val s125)] <| rec113 (iAdd .i64 s112 1))) 0) (
        mLoop (fun (rec128 : Int → H → Prop) (s127 : Int) =>
          mIf (decide (s127 < (s.Tokens.len : Int))) (mIdx s.Tokens s127 5 fun ad129 => mStore (ad129.add 3) [(Value.int .i64 (-1))] <| rec128 (iAdd .i64 s127 1)) (
            mLoop (fun (rec131 : Int → H → Prop) (s130 : Int) =>
              mIf (decide (s130 < (s.Processes.len : Int))) (
                mLoop (fun (rec133 : Int → H → Prop) (s132 : Int) =>
                  mIdx s.Processes s130 2 fun ad134 => mLoad cSl (ad134.add 1) fun x135 =>
                  mIf (decide (s132 < (x135.len : Int))) (
                    mIdx s.Processes s130 2 fun ad136 => mLoad cSl (ad136.add 1) fun x137 => mIdx x137 s132 3 fun ad138 => mStore (ad138.add 0) [(Value.int .i64 (-1))] <| rec133 (iAdd .i64 s132 1)) (
                    mIdx s.Processes s130 2 fun ad139 => mLoad cSl (ad139.add 1) fun x140 => mApp N_api_Cap 3 24 #[(Value.int .i64 0), (Value.int .u64 0), (Value.int .u64 0)] 2 [(Value.int .i64 (-2)), (Value.int .u64 0), (Value.int .u64 0), (Value.int .i64 (-2)), (Value.int .u64 0), (Value.int .u64 0)] x140 fun s141 =>
                    mIdx s.Processes s130 2 fun ad142 => mStore (ad142.add 1) [(Sl.val s141)] <| rec131 (iAdd .i64 s130 1))) 0) E) 0)) 0)) 0 h := by
  have lo := x.ob.len
  rw [List.length_map] at lo
  have lp := x.ps.len
  rw [List.length_map] at lp
  have lt := x.ts.len
  have e1 := keys_len x.bs.keys
  have e3 := keys_len x.ls.keys
  refine w_for so.length (fun i (z : Int) hh => z = (i : Int) ∧ But (stFoot s G) h hh ∧ (∀ c, hh c = none → h c = none) ∧ (∃ L : List S_api_Object, L.length = so.length ∧ (∀ j, i ≤ j → L[j]? = (so.map fun q => (⟨q.1, q.2⟩ : S_api_Object))[j]?) ∧ Buf S_api_Object.cells 2 N_api_Object hh s.Objects L) ∧ (∀ j q o, i ≤ j → so[j]? = some q → v.ob[j]? = some o → Buf cU8 1 N_u8 hh q.2 o.2) ∧ Buf S_api_Token.cells 5 N_api_Token hh s.Tokens v.ts ∧ Buf S_api_Process.cells 2 N_api_Process hh s.Processes (sl.map fun q => ⟨q.1, q.2⟩) ∧ Rows cCp 3 N_api_Cap hh G sl v.ls) ?_
    ⟨rfl, .refl _ _, fun _ z => z, ⟨_, by rw [List.length_map], fun _ _ => rfl, x.ob⟩, fun j q o _ hq ho => (x.bs.nth hq ho).2, x.ts, x.ps, x.ls⟩
  rintro rec i _ hh hi ⟨rfl, bt, dm, ⟨L, ll, el, bL⟩, bb, bT, bP, bR⟩ more
  refine w_if' (fun c => ?_) fun c => ?_
  · have c : (i : Int) < (s.Objects.len : Int) := c
    have hil : i < so.length := by omega
    have hq := List.getElem?_eq_getElem hil
    generalize so[i] = q at hq
    obtain ⟨o, ho, eq⟩ := keys_nth x.bs.keys hq
    have hL : L[i]? = some ⟨q.1, q.2⟩ := by rw [el i (Nat.le_refl _), List.getElem?_map, hq]; rfl
    have b1 := bb i q o (Nat.le_refl _) hq ho
    have ol := o1 o (List.mem_of_getElem? ho)
    have fG : ∀ c, q.2.foot c → G c := fun c g => x.bs.foot q.1 q.2 (x.bs.onceS.look (List.mem_of_getElem? hq)) c g
    have ap : ∀ j q', j ≠ i → so[j]? = some q' → ∀ c, q.2.foot c → ¬ q'.2.foot c := fun j q' ne hq' => by
      have k1 := x.bs.onceS.look (List.mem_of_getElem? hq)
      have k2 := x.bs.onceS.look (List.mem_of_getElem? hq')
      refine x.bs.apart q.1 q'.1 _ _ (fun e => ?_) k1 k2
      have o' : (so.map (·.1)).Nodup := x.bs.onceS
      have m1 : (so.map (·.1))[i]? = some q.1 := by rw [List.getElem?_map, hq]; rfl
      have m2 : (so.map (·.1))[j]? = some q.1 := by rw [List.getElem?_map, hq', e]; rfl
      exact ne ((List.getElem?_inj (lt_of_get m2) o').1 (m2.trans m1.symm))
    refine w_turn (fun k => mIdx s.Objects (i : Int) 2 fun ad => mLoad cSl (ad.add 1) k) b1 (by omega) (fun h2 k bt2 z => ?_) fun h2 xs2 lx b2 bt2 d2 => ?_
    · have bL2 := bL.but bt2 fun ad ha g => (bL.typed ⟨ad, ha, rfl⟩).ne (b1.typed g) (by decide) rfl
      exact w_field ob_len bL2.arr hL rfl (v' := q.2) (cells' := cSl) (l1 := (S_api_Object.cells ⟨q.1, q.2⟩).take 1) (l3 := []) rfl rfl z
    have nt : ∀ {e : TypeId} {c : Nat}, Typed hh e c → e ≠ N_u8 → ¬ q.2.foot c := fun t ne g => t.ne (b1.typed g) ne rfl
    have bL2 := bL.but bt2 fun ad ha => nt (bL.typed ⟨ad, ha, rfl⟩) (by decide)
    refine w_field ob_len bL2.arr hL rfl (v' := q.2) (cells' := cSl) (l1 := (S_api_Object.cells ⟨q.1, q.2⟩).take 1) (l3 := []) rfl rfl ?_
    refine w_app u8_len rfl b2 [1, 2] rfl rfl (.inl (by rw [lx]; simp only [List.length_cons, List.length_nil]; omega)) fun s3 h3 b3 bt3 f3 d3 => ?_
    have nt2 : ∀ {e : TypeId} {c : Nat}, Typed h2 e c → e ≠ N_u8 → ¬ q.2.foot c := fun t ne g => t.ne (b2.typed g) ne rfl
    have bL3 := bL2.but bt3 fun ad ha => nt2 (bL2.typed ⟨ad, ha, rfl⟩) (by decide)
    refine w_idx ob_len bL3.arr hL rfl fun a ha _ => w_set ob_len bL3 (v' := (⟨q.1, s3⟩ : S_api_Object)) hL ha (c1 := cInt .i64 q.1) (c2 := cSl q.2) (c3 := []) (new := [Sl.val s3]) rfl rfl rfl rfl fun h4 b4 bt4 d4 => ?_
    have bt23 : But q.2.foot hh h3 := bt2.trans bt3 fun _ g => .inl g
    have d23 : ∀ c, h3 c = none → hh c = none := fun c z => d2 c (d3 c z)
    have bt24 : But (fun c => q.2.foot c ∨ s.Objects.foot c) hh h4 := (bt23.mono fun _ g => .inl g).trans bt4 fun _ g => .inl (.inr g)
    have no : ∀ {e : TypeId} {c : Nat}, Typed hh e c → e ≠ N_u8 → e ≠ N_api_Object → ¬ (q.2.foot c ∨ s.Objects.foot c) := fun t n1 n2 g => g.elim (nt t n1) fun g => t.ne (bL.typed g) n2 rfl
    refine more _ _ hil ⟨ia1 i (by omega), bt.trans bt24 fun c g => .inl (g.elim (fun g => .inr (.inr (.inr (fG c g)))) .inl), fun c z => dm c (d23 c (d4 c z)), ⟨_, by rw [List.length_set, ll], fun j hj => ?_, b4⟩, fun j q' o' hj hq' ho' => ?_, bT.but bt24 fun ad ha => no (bT.typed ⟨ad, ha, rfl⟩) (by decide) (by decide), bP.but bt24 fun ad ha => no (bP.typed ⟨ad, ha, rfl⟩) (by decide) (by decide), bR.but bt24 fun _ _ q' c g => no (bR.typed q' g) (by decide) (by decide)⟩
    · rw [List.getElem?_set_ne (by omega)]; exact el j (by omega)
    · have b' := bb j q' o' (by omega) hq' ho'
      exact b'.but bt24 fun ad ha g => g.elim (fun g => ap j q' (by omega) hq' _ g ⟨ad, ha, rfl⟩) fun g => (b'.typed ⟨ad, ha, rfl⟩).ne (bL.typed g) (by decide) rfl
  clear more rec
  refine w_for v.ts.length (fun i (z : Int) hh => z = (i : Int) ∧ But (stFoot s G) h hh ∧ (∀ c, hh c = none → h c = none) ∧ (∃ L : List S_api_Token, L.length = v.ts.length ∧ Buf S_api_Token.cells 5 N_api_Token hh s.Tokens L) ∧ Buf S_api_Process.cells 2 N_api_Process hh s.Processes (sl.map fun q => ⟨q.1, q.2⟩) ∧ Rows cCp 3 N_api_Cap hh G sl v.ls) ?_ ⟨rfl, bt, dm, ⟨_, rfl, bT⟩, bP, bR⟩
  clear bt dm bT bP bR bL bb
  rintro rec i2 _ hh hi2 ⟨rfl, bt, dm, ⟨L, ll, bT⟩, bP, bR⟩ more
  refine w_if' (fun c => ?_) fun c => ?_
  · have c : (i2 : Int) < (s.Tokens.len : Int) := c
    have hil : i2 < L.length := by omega
    have ht := List.getElem?_eq_getElem hil
    generalize L[i2] = u at ht
    refine w_idx tok_len5 bT.arr ht rfl fun a ha _ => w_set tok_len5 bT (v' := (⟨u.Cap, -1, u.Parent⟩ : S_api_Token)) ht ha (c1 := S_api_Cap.cells u.Cap) (c2 := cInt .i64 u.Rights) (c3 := cInt .i64 u.Parent) (new := [.int .i64 (-1)]) rfl rfl rfl rfl fun h2 b2 bt2 d2 => ?_
    have nt : ∀ {e : TypeId} {c : Nat}, Typed hh e c → e ≠ N_api_Token → ¬ s.Tokens.foot c := fun t ne g => t.ne (bT.typed g) ne rfl
    exact more _ _ (by omega) ⟨ia1 i2 (by omega), bt.trans bt2 fun c g => .inl (.inr (.inl g)), fun c z => dm c (d2 c z), ⟨_, by rw [List.length_set, ll], b2⟩, bP.but bt2 fun ad ha => nt (bP.typed ⟨ad, ha, rfl⟩) (by decide), bR.but bt2 fun _ _ q' c g => nt (bR.typed q' g) (by decide)⟩
  clear more rec
  refine w_for sl.length (fun i (z : Int) hh => z = (i : Int) ∧ But (stFoot s G) h hh ∧ (∀ c, hh c = none → h c = none) ∧ (∃ L : List S_api_Process, L.length = sl.length ∧ (∀ j, i ≤ j → L[j]? = (sl.map fun q => (⟨q.1, q.2⟩ : S_api_Process))[j]?) ∧ Buf S_api_Process.cells 2 N_api_Process hh s.Processes L) ∧ (∀ j q o, i ≤ j → sl[j]? = some q → v.ls[j]? = some o → Buf cCp 3 N_api_Cap hh q.2 o.2)) ?_
    ⟨rfl, bt, dm, ⟨_, by rw [List.length_map], fun _ _ => rfl, bP⟩, fun j q o _ hq ho => (bR.nth hq ho).2⟩
  clear bt dm bT bP bR
  rintro rec i3 _ hh hi3 ⟨rfl, bt, dm, ⟨L, ll, el, bL⟩, bb⟩ more
  refine w_if' (fun c => ?_) fun c => y hh bt dm
  have c : (i3 : Int) < (s.Processes.len : Int) := c
  have hil : i3 < sl.length := by omega
  have hq := List.getElem?_eq_getElem hil
  generalize sl[i3] = q at hq
  obtain ⟨o, ho, eq⟩ := keys_nth x.ls.keys hq
  have hL : L[i3]? = some ⟨q.1, q.2⟩ := by rw [el i3 (Nat.le_refl _), List.getElem?_map, hq]; rfl
  have b1 := bb i3 q o (Nat.le_refl _) hq ho
  have ol := o2 o (List.mem_of_getElem? ho)
  have fG : ∀ c, q.2.foot c → G c := fun c g => x.ls.foot q.1 q.2 (x.ls.onceS.look (List.mem_of_getElem? hq)) c g
  have ap : ∀ j q', j ≠ i3 → sl[j]? = some q' → ∀ c, q.2.foot c → ¬ q'.2.foot c := fun j q' ne hq' => by
    have k1 := x.ls.onceS.look (List.mem_of_getElem? hq)
    have k2 := x.ls.onceS.look (List.mem_of_getElem? hq')
    refine x.ls.apart q.1 q'.1 _ _ (fun e => ?_) k1 k2
    have o' : (sl.map (·.1)).Nodup := x.ls.onceS
    have m1 : (sl.map (·.1))[i3]? = some q.1 := by rw [List.getElem?_map, hq]; rfl
    have m2 : (sl.map (·.1))[j]? = some q.1 := by rw [List.getElem?_map, hq', e]; rfl
    exact ne ((List.getElem?_inj (lt_of_get m2) o').1 (m2.trans m1.symm))
  refine w_turnC (fun k => mIdx s.Processes (i3 : Int) 2 fun ad => mLoad cSl (ad.add 1) k) b1 (by omega) (fun h2 k bt2 z => ?_) fun h2 xs2 lx b2 bt2 d2 => ?_
  · have bL2 := bL.but bt2 fun ad ha g => (bL.typed ⟨ad, ha, rfl⟩).ne (b1.typed g) (by decide) rfl
    exact w_field pr_len bL2.arr hL rfl (v' := q.2) (cells' := cSl) (l1 := (S_api_Process.cells ⟨q.1, q.2⟩).take 1) (l3 := []) rfl rfl z
  have nt : ∀ {e : TypeId} {c : Nat}, Typed hh e c → e ≠ N_api_Cap → ¬ q.2.foot c := fun t ne g => t.ne (b1.typed g) ne rfl
  have bL2 := bL.but bt2 fun ad ha => nt (bL.typed ⟨ad, ha, rfl⟩) (by decide)
  refine w_field pr_len bL2.arr hL rfl (v' := q.2) (cells' := cSl) (l1 := (S_api_Process.cells ⟨q.1, q.2⟩).take 1) (l3 := []) rfl rfl ?_
  refine w_app cap_len rfl b2 [⟨-2, ⟨0, 0⟩⟩, ⟨-2, ⟨0, 0⟩⟩] rfl rfl (.inl (by rw [lx]; simp only [List.length_cons, List.length_nil]; omega)) fun s3 h3 b3 bt3 f3 d3 => ?_
  have nt2 : ∀ {e : TypeId} {c : Nat}, Typed h2 e c → e ≠ N_api_Cap → ¬ q.2.foot c := fun t ne g => t.ne (b2.typed g) ne rfl
  have bL3 := bL2.but bt3 fun ad ha => nt2 (bL2.typed ⟨ad, ha, rfl⟩) (by decide)
  refine w_idx pr_len bL3.arr hL rfl fun a ha _ => w_set pr_len bL3 (v' := (⟨q.1, s3⟩ : S_api_Process)) hL ha (c1 := cInt .i64 q.1) (c2 := cSl q.2) (c3 := []) (new := [Sl.val s3]) rfl rfl rfl rfl fun h4 b4 bt4 d4 => ?_
  have bt23 : But q.2.foot hh h3 := bt2.trans bt3 fun _ g => .inl g
  have bt24 : But (fun c => q.2.foot c ∨ s.Processes.foot c) hh h4 := (bt23.mono fun _ g => .inl g).trans bt4 fun _ g => .inl (.inr g)
  refine more _ _ hil ⟨ia1 i3 (by omega), bt.trans bt24 fun c g => .inl (g.elim (fun g => .inr (.inr (.inr (fG c g)))) fun g => .inr (.inr (.inl g))), fun c z => dm c (d2 c (d3 c (d4 c z))), ⟨_, by rw [List.length_set, ll], fun j hj => ?_, b4⟩, fun j q' o' hj hq' ho' => ?_⟩
  · rw [List.getElem?_set_ne (by omega)]; exact el j (by omega)
  · have b' := bb j q' o' (by omega) hq' ho'
    exact b'.but bt24 fun ad ha g => g.elim (fun g => ap j q' (by omega) hq' _ g ⟨ad, ha, rfl⟩) fun g => (b'.typed ⟨ad, ha, rfl⟩).ne (bL.typed g) (by decide) rfl
end
section
variable {h h0 h' : H} {s : S_api_State} {v : StV} {so sl : List (Int × Sl)} {G : Nat → Prop}
theorem StAt.but {V : Nat → Prop} (x : StAt h0 h s v so sl G) (k : But V h h') (f : ∀ c, stFoot s G c → ¬ V c) : StAt h0 h' s v so sl G :=
  ⟨x.ob.but k fun ad ha => f _ (.inl ⟨ad, ha, rfl⟩), x.bs.but k fun i t q c g => f _ (.inr (.inr (.inr (x.bs.foot i t q c g)))), x.ts.but k fun ad ha => f _ (.inr (.inl ⟨ad, ha, rfl⟩)), x.ps.but k fun ad ha => f _ (.inr (.inr (.inl ⟨ad, ha, rfl⟩))), x.ls.but k fun i t q c g => f _ (.inr (.inr (.inr (x.ls.foot i t q c g)))), x.nums, x.new⟩
theorem StAt.here (x : StAt h0 h s v so sl G) : StAt h0 h s v so sl (fun c => G c ∧ h c ≠ none) :=
  ⟨x.ob, ⟨x.bs.keys, x.bs.once, x.bs.buf, x.bs.apart, fun k t q c g => ⟨x.bs.foot k t q c g, (x.bs.typed q g).has⟩⟩, x.ts, x.ps, ⟨x.ls.keys, x.ls.once, x.ls.buf, x.ls.apart, fun k t q c g => ⟨x.ls.foot k t q c g, (x.ls.typed q g).has⟩⟩, x.nums, fun c q => x.new c (q.imp id fun q => q.imp id fun q => q.imp id fun q => q.1)⟩
theorem StAt.has (x : StAt h0 h s v so sl G) {c : Nat} (q : stFoot s (fun c => G c ∧ h c ≠ none) c) : h c ≠ none := by
  rcases q with q | q | q | q
  · exact x.ob.has q
  · exact x.ts.has q
  · exact x.ps.has q
  · exact q.2
theorem StAt.keep (x : StAt h0 h s v so sl G) (k : Keeps h h') : StAt h0 h' s v so sl G := x.but (V := fun _ => False) (.of k) fun _ _ z => z
end
section
variable {h : H} {sc sd : Sl} {cs : List S_api_Call} {xs : List S_api_Word} {n : Nat} {C : Nat → S_api_Call} {d : Nat → List UInt8} {g : Nat → List Int}
theorem w_copyW {h0 : H} {s : Sl} {ws : List S_api_Word} (b1 : Buf cW 2 N_api_Word h0 s ws) (hw : ws.length ≤ 4096) {k : Sl → H → Prop} (y : ∀ s' h', Buf cW 2 N_api_Word h' s' ws → Keeps h0 h' → (∀ c, s'.foot c → h0 c = none) → k s' h') :
    mNew N_api_Word #[] (fun ad6 => mAppend N_api_Word 2 16 #[(Value.int .u64 0), (Value.int .u64 0)] (⟨some ad6, 0, 0⟩ : Sl) s k) h0 := by
  refine w_empty (T := S_api_Word) (cells := cW) (sz := 2) fun b h2 hb b2 k2 => ?_
  exact w_anew word_len word_plain rfl k2 hb b2 (b1.keep k2).arr (by omega) fun s4 h3 b3 k3 f3 _ => y s4 h3 b3 k3 f3
theorem t_PlainKeeps {c : S_api_Config} (ar : Arr cW h sd xs) (gw : ∀ w ∈ xs, GoodW w) (x : Ins h sc cs n C d g) (hn : n * 136 ≤ 140737488351232) {K : Bool → H → Prop} (y : ∀ h', Keeps h h' → K true h') : m_law22_PlainKeeps c sd sc K h := by
  unfold m_law22_PlainKeeps
  have cl := x.ac.len
  have ln := x.len
  have my := cfgO_may c
  refine w_lConfig (t_lWords ar fun r2 h1 b1 k1 f1 => ?_)
  have hw : (xs.take 4096).length ≤ 4096 := by rw [List.length_take]; omega
  have gw' : ∀ w ∈ xs.take 4096, GoodW w := fun w hw => gw w (List.mem_of_mem_take hw)
  generalize xs.take 4096 = ws at b1 hw gw'
  generalize cfgO c = cc at my ⊢
  refine w_copyW b1 hw fun s4 h3 b3 k3 f3 => ?_
  refine w_app word_len rfl b3 [⟨0, 77⟩] rfl rfl (.inl (by simp only [List.length_singleton]; omega)) fun s5 h4 b4 bt4 f4 d4 => ?_
  have k4 : Keeps h1 h4 := k3.but bt4 f3
  have f5 : ∀ c, s5.foot c → h1 c = none := fun c q => (f4 c q).elim (f3 c) fun z => k3.fresh z
  have l5 := b4.len
  rw [List.length_append, List.length_singleton] at l5
  have e5 : iSub .i64 (s5.len : Int) 1 = ((ws.length : Nat) : Int) := by rw [iSub_eq (by omega) (by omega)]; omega
  rw [e5]
  refine w_take b4.arr (n := ws.length) (by rw [List.length_append]; omega) rfl rfl fun s6 a6 _ _ => ?_
  rw [List.take_left] at a6
  refine t_pNew a6 gw' (fun z => absurd my z) (fun _ q => by omega) fun _ _ px Fx h5 x5 i5 k5 fx => ?_
  have k15 := k4.trans k5
  refine w_copyW (b1.keep k15) hw fun s9 h7 b9 k7 f9 => ?_
  refine t_pNew b9.arr gw' (fun z => absurd my z) (fun _ q => by omega) fun _ _ py Fy h8 y8 _ k8 fy => ?_
  have k58 := k7.trans k8
  refine w_joinP (fun (z : Bool) hh => z = false ∧ Keeps h8 hh) (fun j hj => w_ifF rfl (t_l22example fun h9 k9 => hj _ _ ⟨rfl, k9⟩)) ?_
  rintro _ h9 ⟨rfl, k9⟩
  have k59 := k58.trans k9
  have b49 := (b4.keep k5).keep k59
  refine w_joinV false (fun j hj => w_ifF rfl (w_field word_len b49.arr (i := ws.length) (v := (⟨0, 77⟩ : S_api_Word)) (by rw [List.getElem?_append_right (Nat.le_refl _), Nat.sub_self]; rfl) rfl (v' := (77 : Int)) (cells' := cInt .u64) (l1 := [.int .u64 0]) (l3 := []) rfl rfl hj)) (w_ifF rfl ?_)
  refine w_for (ws.length + 1) (fun i (z : Int) hh => z = (i : Int) ∧ (∃ L, L.length = ws.length + 1 ∧ Buf cW 2 N_api_Word hh s5 L) ∧ But s5.foot h9 hh ∧ ∀ c, hh c = none → h9 c = none) ?_ ⟨rfl, ⟨_, by rw [List.length_append]; rfl, b49⟩, .refl _ _, fun _ z => z⟩
  rintro rec i _ h10 hi ⟨rfl, ⟨L, ll, bL⟩, bt10, d10⟩ more
  refine w_if' (fun c0 => ?_) fun c0 => ?_
  · have c0 : (i : Int) < (s5.len : Int) := c0
    exact w_put word_len bL (i := i) (by omega) rfl (⟨3, 0⟩ : S_api_Word) rfl fun h2 b2 bt2 d2 => more _ _ (by omega) ⟨ia1 i (by omega), ⟨_, by rw [List.length_set, ll], b2⟩, bt10.trans bt2 fun _ q => .inl q, fun c z => d10 c (d2 c z)⟩
  clear more rec c0
  have k19 := k15.trans k59
  have k10 : Keeps h1 h10 := k19.but bt10 f5
  have kA : Keeps h h10 := k1.trans k10
  have e5at : ∀ c, s5.foot c → h4 c ≠ none := fun c q => b4.has q
  have x10 : PM h10 px Fx (newO cc ws) := (x5.keep k59).but bt10 (fun c q q' => e5at c q' (fx c q)) d10
  have y10 : PM h10 py Fy (newO cc ws) := (y8.keep k9).but bt10 (fun c q q' => e5at c q' (k5.fresh (k7.fresh (fy c q)))) d10
  have dj0 : ∀ c, Fx c → ¬ Fy c := fun c q q' => x5.has c q (k7.fresh (fy c q'))
  have nx : ∀ c, Fx c → h c = none := fun c q => (k1.trans k4).fresh (fx c q)
  have ny : ∀ c, Fy c → h c = none := fun c q => ((k1.trans k15).trans k7).fresh (fy c q)
  clear x5 y8 bL bt10 d10
  have b110 := b1.keep k10
  refine t_copies (x.keep kA) hn fun s21 h11 cs11 D G co11 k11 => ?_
  have in11 := co11.ins fun i hi => ((x.keep kA).at_ i hi).2
  refine w_copyW (b110.keep k11) hw fun s23 h13 b13 k13 f13 => ?_
  refine t_pRun b13.arr gw' (in11.keep k13) hn (fun z => absurd my z) (fun _ q => by omega) fun _ _ s24 h14 rs14 Q re14 k14 => ?_
  rw [show rpN (newO cc ws) (fun i => { C i with Data := D i, Gifts := G i }) d g = rpN (newO cc ws) C d g from funext fun i => rpN_with _ _ _ _ _ _ i] at re14
  have k1114 := k13.trans k14
  refine w_copyW ((b110.keep k11).keep k1114) hw fun s26 h16 b16 k16 f16 => ?_
  have kA16 := kA.trans (k11.trans (k1114.trans k16))
  refine t_copies (x.keep kA16) hn fun s27 h17 cs17 D17 G17 co17 k17 => ?_
  have in17 := co17.ins fun i hi => ((x.keep kA16).at_ i hi).2
  refine t_pRun (b16.keep k17).arr gw' in17 hn (fun z => absurd my z) (fun _ q => by omega) fun _ _ s28 h18 rs18 P re18 k18 => ?_
  rw [show rpN (newO cc ws) (fun i => { C i with Data := D17 i, Gifts := G17 i }) d g = rpN (newO cc ws) C d g from funext fun i => rpN_with _ _ _ _ _ _ i] at re18
  have inv := stN_inv i5 (rise_newO cc ws) (kin_newO cc ws) C d g
  have hR : ∀ i, (rpN (newO cc ws) C d g i).data.length ≤ 4096 := fun i => rpN_data i5 (rise_newO cc ws) (kin_newO cc ws) C d g i
  have hR' : ∀ i, (rpN (newO cc ws) C d g i).data.length ≤ 2 ^ 60 := fun i => Nat.le_trans (hR i) (by decide)
  have l24 := re14.buf.len
  rw [re14.len] at l24
  have l28 := re18.buf.len
  rw [re18.len] at l28
  refine w_ifF (by rw [l24, l28, cl, ln]; simp) ?_
  have k1417 := k16.trans k17
  have k1117 := k1114.trans k1417
  have k1118 := k1117.trans k18
  have k1018 := k11.trans k1118
  have k018 := kA.trans k1018
  have co := co11.keep k1118
  have re := re14.keep (k1417.trans k18)
  let W : Nat → Nat → Prop := fun i c => Fx c ∨ Fy c ∨ ∃ j, j < i ∧ j < n ∧ ((D j).foot c ∨ (G j).foot c ∨ (Q j).foot c)
  have F10 : ∀ c, Fx c ∨ Fy c → h10 c ≠ none := fun c q => q.elim (x10.has c) (y10.has c)
  have eD : ∀ j c, j < n → (D j).foot c ∨ (G j).foot c → h11 c ≠ none := fun j c hj q => q.elim (fun q => (co11.dat j hj).has q) fun q => (co11.gif j hj).has q
  have eQ : ∀ j c, j < n → (Q j).foot c → h14 c ≠ none := fun j c hj q => (re14.dat j hj).has q
  have W17 : ∀ i c, W i c → h17 c ≠ none := fun i c q z => by
    have z14 := k1417.fresh z
    have z11 := k1114.fresh z14
    rcases q with q | q | ⟨j, _, hj, q | q | q⟩
    · exact F10 c (.inl q) (k11.fresh z11)
    · exact F10 c (.inr q) (k11.fresh z11)
    · exact eD j c hj (.inl q) z11
    · exact eD j c hj (.inr q) z11
    · exact eQ j c hj q z14
  have Wh : ∀ i c, W i c → h c = none := fun i c q => by
    rcases q with q | q | ⟨j, _, hj, q | q | q⟩
    · exact nx c q
    · exact ny c q
    · exact kA.fresh (co11.newD j c hj (.inl q))
    · exact kA.fresh (co11.newD j c hj (.inr q))
    · exact (kA.trans (k11.trans k13)).fresh (re14.newQ j c hj q)
  have tD : ∀ j c, j < n → (D j).foot c → Typed h18 N_u8 c := fun j c hj q => (co.dat j hj).typed q
  have tG : ∀ j c, j < n → (G j).foot c → Typed h18 N_int c := fun j c hj q => (co.gif j hj).typed q
  have tQ : ∀ j c, j < n → (Q j).foot c → Typed h18 N_u8 c := fun j c hj q => (re.dat j hj).typed q
  have nD : ∀ i k c, i ≤ k → k < n → (D k).foot c → ¬ W i c := fun i k c hik hk q w => by
    rcases w with w | w | ⟨j, hji, hj, w | w | w⟩
    · exact F10 c (.inl w) (co11.newD k c hk (.inl q))
    · exact F10 c (.inr w) (co11.newD k c hk (.inl q))
    · exact co11.apD j k c (by omega) hk w q
    · exact (tD k c hk q).ne (tG j c hj w) (by decide) rfl
    · exact eD k c hk (.inl q) (k13.fresh (re14.newQ j c hj w))
  have nG : ∀ i k c, i ≤ k → k < n → (G k).foot c → ¬ W i c := fun i k c hik hk q w => by
    rcases w with w | w | ⟨j, hji, hj, w | w | w⟩
    · exact F10 c (.inl w) (co11.newD k c hk (.inr q))
    · exact F10 c (.inr w) (co11.newD k c hk (.inr q))
    · exact (tG k c hk q).ne (tD j c hj w) (by decide) rfl
    · exact co11.apG j k c (by omega) hk w q
    · exact eD k c hk (.inr q) (k13.fresh (re14.newQ j c hj w))
  have nQ : ∀ i k c, i ≤ k → k < n → (Q k).foot c → ¬ W i c := fun i k c hik hk q w => by
    have z13 := re14.newQ k c hk q
    rcases w with w | w | ⟨j, hji, hj, w | w | w⟩
    · exact F10 c (.inl w) (k11.fresh (k13.fresh z13))
    · exact F10 c (.inr w) (k11.fresh (k13.fresh z13))
    · exact eD j c hj (.inl w) (k13.fresh z13)
    · exact eD j c hj (.inr w) (k13.fresh z13)
    · exact re14.apQ j k c (by omega) hk w q
  have nM : ∀ i c, s21.foot c → ¬ W i c := fun i c q w => by
    have z10 := co11.new c q
    have t21 := co.buf.typed q
    rcases w with w | w | ⟨j, hji, hj, w | w | w⟩
    · exact F10 c (.inl w) z10
    · exact F10 c (.inr w) z10
    · exact t21.ne (tD j c hj w) (by decide) rfl
    · exact t21.ne (tG j c hj w) (by decide) rfl
    · exact t21.ne (tQ j c hj w) (by decide) rfl
  have nL : ∀ i c, s24.foot c → ¬ W i c := fun i c q w => by
    have z13 := re14.new c q
    have t24 := re.buf.typed q
    rcases w with w | w | ⟨j, hji, hj, w | w | w⟩
    · exact F10 c (.inl w) (k11.fresh (k13.fresh z13))
    · exact F10 c (.inr w) (k11.fresh (k13.fresh z13))
    · exact t24.ne (tD j c hj w) (by decide) rfl
    · exact t24.ne (tG j c hj w) (by decide) rfl
    · exact t24.ne (tQ j c hj w) (by decide) rfl
  refine w_for n (fun i (z : Int) hh => z = (i : Int) ∧ ∃ Fx' Fy', PM hh px Fx' (stN (newO cc ws) C d g i) ∧ PM hh py Fy' (stN (newO cc ws) C d g i) ∧ (∀ c, Fx' c → Fx c ∨ h18 c = none) ∧ (∀ c, Fy' c → Fy c ∨ h18 c = none) ∧ (∀ c, Fx' c → ¬ Fy' c) ∧ But (W i) h18 hh ∧ ∀ c, hh c = none → h18 c = none) ?_
    ⟨rfl, Fx, Fy, x10.keep k1018, y10.keep k1018, fun _ q => .inl q, fun _ q => .inl q, dj0, .refl _ _, fun _ z => z⟩
  rintro rec i _ hh hi ⟨rfl, Fx', Fy', xp, yp, fx', fy', dj, bt, dm⟩ more
  have k0h : Keeps h hh := k018.but bt (Wh i)
  refine w_if' (fun c0 => ?_) fun c0 => ?_
  · have c0 : (i : Int) < (sc.len : Int) := c0
    have hil : i < n := by omega
    obtain ⟨ht, pin⟩ := x.at_ i hil
    have pin1 := pin.keep k0h
    have bD := (co.dat i hil).but bt fun ad ha => nD i i _ (Nat.le_refl _) hil ⟨ad, ha, rfl⟩
    have bG := (co.gif i hil).but bt fun ad ha => nG i i _ (Nat.le_refl _) hil ⟨ad, ha, rfl⟩
    have bQ := (re.dat i hil).but bt fun ad ha => nQ i i _ (Nat.le_refl _) hil ⟨ad, ha, rfl⟩
    have bM := co.buf.but bt fun ad ha => nM i _ ⟨ad, ha, rfl⟩
    have bLs := re.buf.but bt fun ad ha => nL i _ ⟨ad, ha, rfl⟩
    have bP := (re18.dat i hil).but bt fun ad ha w => W17 i _ w (re18.newQ i _ hil ⟨ad, ha, rfl⟩)
    have bPs := re18.buf.but bt fun ad ha w => W17 i _ w (re18.new _ ⟨ad, ha, rfl⟩)
    have Fo : ∀ {F F' : Nat → Prop} {u : Sl} , (∀ c, F' c → F c ∨ h18 c = none) → (∀ c, F c → W i c) → (∀ c, u.foot c → ¬ W i c) → (∀ c, u.foot c → h18 c ≠ none) → ∀ c, u.foot c → ¬ F' c := fun f1 f2 f3 f4 c q w => (f1 c w).elim (fun w => f3 c q (f2 c w)) (f4 c q)
    have wx : ∀ c, Fx c → W i c := fun _ q => .inl q
    have wy : ∀ c, Fy c → W i c := fun _ q => .inr (.inl q)
    refine w_get cl_len (x.ac.keep k0h) ht rfl rfl (t_Copied pin1.ad pin1.hd pin1.ag pin1.hg fun s1 s2 h2 b1c b2c k2 f2 => ?_)
    refine t_pDo (yp.keep k2) (inv i).1 (c := { C i with Data := s1, Gifts := s2 }) b1c.arr b2c.arr pin.gw fun sw h3 Fy3 y3 c3 b3w f3w => ?_
    rw [doO_with] at y3 b3w ⊢
    have nF : ∀ {u : Sl}, (∀ c, u.foot c → ¬ W i c) → (∀ c, u.foot c → h18 c ≠ none) → ∀ c, u.foot c → ¬ Fx' c ∧ ¬ Fy' c := fun q1 q2 c q => ⟨Fo fx' wx q1 q2 c q, Fo fy' wy q1 q2 c q⟩
    have kp : ∀ {T : Type} {cells : T → List Value} {sz : Nat} {e : TypeId} {u : Sl} {us : List T}, Buf cells sz e hh u us → (∀ c, u.foot c → ¬ Fy' c) → Buf cells sz e h3 u us := fun b q => (b.keep k2).but c3.but fun ad ha => q _ ⟨ad, ha, rfl⟩
    have fD := nF (fun c => nD i i c (Nat.le_refl _) hil) (fun c q => (co.dat i hil).has q)
    have fG := nF (fun c => nG i i c (Nat.le_refl _) hil) (fun c q => (co.gif i hil).has q)
    have fQ := nF (fun c => nQ i i c (Nat.le_refl _) hil) (fun c q => (re.dat i hil).has q)
    have fM := nF (fun c => nM i c) (fun c q => co.buf.has q)
    have fL := nF (fun c => nL i c) (fun c q => re.buf.has q)
    have fP := nF (u := P i) (fun c q w => W17 i _ w (re18.newQ i _ hil q)) (fun c q => (re18.dat i hil).has q)
    have fPs := nF (u := s28) (fun c q w => W17 i _ w (re18.new _ q)) (fun c q => re18.buf.has q)
    have bM3 := kp bM fun c q => (fM c q).2
    refine w_get cl_len bM3.arr (co.nth i hil) rfl rfl ?_
    have x3 : PM h3 px Fx' (stN (newO cc ws) C d g i) := (xp.keep k2).but c3.but (fun c q => dj c q) c3.dom
    refine t_pDo x3 (inv i).1 (c := { C i with Data := D i, Gifts := G i }) (kp bD fun c q => (fD c q).2).arr (kp bG fun c q => (fG c q).2).arr pin.gw fun sr h4 Fx4 x4 c4 b4r f4r => ?_
    rw [doO_with] at x4 b4r ⊢
    have swx : ∀ c, sw.foot c → ¬ Fx' c := fun c q w => xp.has c w (k2.fresh (f3w c q).1)
    have kq : ∀ {T : Type} {cells : T → List Value} {sz : Nat} {e : TypeId} {u : Sl} {us : List T}, Buf cells sz e hh u us → (∀ c, u.foot c → ¬ Fx' c ∧ ¬ Fy' c) → Buf cells sz e h4 u us := fun b q => (kp b fun c z => (q c z).2).but c4.but fun ad ha => (q _ ⟨ad, ha, rfl⟩).1
    have b4w : Buf cU8 1 N_u8 h4 sw (rpN (newO cc ws) C d g i).data := b3w.but c4.but fun ad ha => swx _ ⟨ad, ha, rfl⟩
    have b4r : Buf cU8 1 N_u8 h4 sr (rpN (newO cc ws) C d g i).data := b4r
    refine t_l21SameReply (a := ⟨_, _, sr, _⟩) (b := ⟨_, _, sw, _⟩) rfl rfl rfl b4r.arr b4w.arr (hR' i) ?_
    have bL4 := kq bLs fL
    have bQ4 := kq bQ fQ
    have bP4 := kq bP fP
    have bPs4 := kq bPs fPs
    have bD4 := kq bD fD
    have bG4 := kq bG fG
    refine w_joinV false (fun j hj => w_ifF rfl (w_get rp_len bL4.arr (re.nth i hil) rfl rfl ?_)) ?_
    · exact t_l21SameReply (a := ⟨_, _, Q i, _⟩) (b := ⟨_, _, sw, _⟩) rfl rfl rfl bQ4.arr b4w.arr (hR' i) hj
    refine w_joinV false (fun j hj => w_ifF rfl (w_get rp_len bPs4.arr (re18.nth i hil) rfl rfl ?_)) ?_
    · exact t_l21SameReply (a := ⟨_, _, P i, _⟩) (b := ⟨_, _, sw, _⟩) rfl rfl rfl bP4.arr b4w.arr (hR' i) hj
    have k04 : Keeps h h4 := ((k0h.trans k2).but c3.but fun c q => (fy' c q).elim (ny c) k018.fresh).but c4.but fun c q => (fx' c q).elim (nx c) k018.fresh
    refine w_joinV false (fun j hj => w_ifF rfl (w_field cl_len (x.ac.keep k04) ht rfl (v' := (C i).Data) (cells' := cSl) (l1 := (S_api_Call.cells (C i)).take 10) (l3 := (S_api_Call.cells (C i)).drop 11) rfl rfl ?_)) (w_ifF rfl ?_)
    · rw [show (!decide ((((({ C i with Data := D i, Gifts := G i } : S_api_Call).Data.len : Nat)) : Int) = (((C i).Data.len : Nat) : Int))) = false by
        have e1 : (D i).len = (d i).length := bD4.len
        have e2 := pin.ad.len
        show (!decide ((((D i).len : Nat) : Int) = (((C i).Data.len : Nat) : Int))) = false
        rw [e1, e2]; simp]
      exact hj
    have hD := (pin.hd)
    have hG := (pin.hg)
    have hI : ∀ {V : Nat → Prop} {h' : H}, But V h4 h' → (∀ c, V c → h c = none) → Keeps h h' := fun b f => k04.but b f
    have newD : ∀ c, (D i).foot c → h c = none := fun c q => kA.fresh (co11.newD i c hil (.inl q))
    have newG : ∀ c, (G i).foot c → h c = none := fun c q => kA.fresh (co11.newD i c hil (.inr q))
    have newQ : ∀ c, (Q i).foot c → h c = none := fun c q => (kA.trans (k11.trans k13)).fresh (re14.newQ i c hil q)
    refine w_wipeD ht bD4 (by omega) (fun h' b' => ⟨x.ac.keep (hI b' newD), pin.ad.keep (hI b' newD)⟩) fun h5 bt5 d5 => ?_
    have k05 := hI bt5 newD
    have D4 : ∀ {e : TypeId} {c : Nat}, Typed h4 e c → e ≠ N_u8 → ¬ (D i).foot c := fun t ne q => t.ne (bD4.typed q) ne rfl
    have bG5 := bG4.but bt5 fun ad ha => D4 (bG4.typed ⟨ad, ha, rfl⟩) (by decide)
    refine w_wipeG ht bG5 (by omega) (fun h' b' => ⟨x.ac.keep (k05.but b' newG), pin.ag.keep (k05.but b' newG)⟩) fun h6 bt6 d6 => ?_
    have apDQ : ∀ c, (Q i).foot c → ¬ (D i).foot c := fun c q w => eD i c hil (.inl w) (k13.fresh (re14.newQ i c hil q))
    have srN : ∀ c, sr.foot c → h3 c = none := fun c q => (f4r c q).1
    have at3 : ∀ {T : Type} {cells : T → List Value} {sz : Nat} {e : TypeId} {u : Sl} {us : List T}, Buf cells sz e hh u us → (∀ c, u.foot c → ¬ Fy' c) → ∀ c, u.foot c → ¬ sr.foot c := fun b q c z w => (kp b q).has z (srN c w)
    have G5 : ∀ {e : TypeId} {c : Nat}, Typed h5 e c → e ≠ N_int → ¬ (G i).foot c := fun t ne q => t.ne (bG5.typed q) ne rfl
    have sDr := at3 bD fun c q => (fD c q).2
    have sGr := at3 bG fun c q => (fG c q).2
    have sQr := at3 bQ fun c q => (fQ c q).2
    have sLr := at3 bLs fun c q => (fL c q).2
    have sPr := at3 bP fun c q => (fP c q).2
    have sPsr := at3 bPs fun c q => (fPs c q).2
    have b5r := b4r.but bt5 fun ad ha q => sDr _ q ⟨ad, ha, rfl⟩
    have b6r := b5r.but bt6 fun ad ha => G5 (b5r.typed ⟨ad, ha, rfl⟩) (by decide)
    refine w_turn (fun k => k sr) b6r (hR' i) (fun _ _ _ z => z) fun h7 xs7 lx7 b7r bt7 d7 => ?_
    have bt57 : But (fun c => (D i).foot c ∨ (G i).foot c ∨ sr.foot c) h4 h7 := ((bt5.mono fun _ q => .inl q).trans bt6 fun _ q => .inl (.inr (.inl q))).trans bt7 fun _ q => .inl (.inr (.inr q))
    have bQ7 := bQ4.but bt57 fun ad ha q => q.elim (apDQ _ ⟨ad, ha, rfl⟩) fun q => q.elim (fun q => (bQ4.typed ⟨ad, ha, rfl⟩).ne (bG4.typed q) (by decide) rfl) (sQr _ ⟨ad, ha, rfl⟩)
    have bL7 := bL4.but bt57 fun ad ha q => q.elim (D4 (bL4.typed ⟨ad, ha, rfl⟩) (by decide)) fun q => q.elim (fun q => (bL4.typed ⟨ad, ha, rfl⟩).ne (bG4.typed q) (by decide) rfl) (sLr _ ⟨ad, ha, rfl⟩)
    refine w_turn (fun k => mIdx s24 (i : Int) 6 fun ad => mLoad cSl (ad.add 4) k) bQ7 (hR' i) (fun h' k b' z => ?_) fun h8 xs8 lx8 b8q bt8 d8 => ?_
    · have bL' := bL7.but b' fun ad ha q => (bL7.typed ⟨ad, ha, rfl⟩).ne (bQ7.typed q) (by decide) rfl
      exact w_field rp_len bL'.arr (re.nth i hil) rfl (v' := Q i) (cells' := cSl) (l1 := (S_api_Reply.cells ⟨(rpN (newO cc ws) C d g i).code, (rpN (newO cc ws) C d g i).cap, Q i, (rpN (newO cc ws) C d g i).num⟩).take 4) (l3 := [.int .i64 (rpN (newO cc ws) C d g i).num]) rfl rfl z
    have sRq : ∀ c, sr.foot c → ¬ (Q i).foot c := fun c q w => sQr c w q
    have b8r := b7r.but bt8 fun ad ha => sRq _ ⟨ad, ha, rfl⟩
    have hRi := hR i
    refine w_app u8_len rfl b8r [1, 2, 3] rfl rfl (.inl (by rw [lx7]; simp only [List.length_cons, List.length_nil]; omega)) fun s85 h9 b9 bt9 f9 d9 => ?_
    have bL8 := bL7.but bt8 fun ad ha q => (bL7.typed ⟨ad, ha, rfl⟩).ne (bQ7.typed q) (by decide) rfl
    have bL9 := bL8.but bt9 fun ad ha => sLr _ ⟨ad, ha, rfl⟩
    have b9q := b8q.but bt9 fun ad ha => sQr _ ⟨ad, ha, rfl⟩
    refine w_field rp_len bL9.arr (re.nth i hil) rfl (v' := Q i) (cells' := cSl) (l1 := (S_api_Reply.cells ⟨(rpN (newO cc ws) C d g i).code, (rpN (newO cc ws) C d g i).cap, Q i, (rpN (newO cc ws) C d g i).num⟩).take 4) (l3 := [.int .i64 (rpN (newO cc ws) C d g i).num]) rfl rfl ?_
    refine w_app u8_len rfl b9q [4, 5, 6] rfl rfl (.inl (by rw [lx8]; simp only [List.length_cons, List.length_nil]; omega)) fun s88 h20 b20 bt20 f20 d20 => ?_
    have U : But (fun c => (D i).foot c ∨ (G i).foot c ∨ sr.foot c ∨ (Q i).foot c) h4 h20 := (((bt57.mono fun _ q => q.imp id fun q => q.imp id .inl).trans bt8 fun _ q => .inl (.inr (.inr (.inr q)))).trans bt9 fun _ q => .inl (.inr (.inr (.inl q)))).trans bt20 fun _ q => .inl (.inr (.inr (.inr q)))
    have dU : ∀ c, h20 c = none → h4 c = none := fun c z => d5 c (d6 c (d7 c (d8 c (d9 c (d20 c z)))))
    have bP20 := bP4.but U fun ad ha q => by
      have hq : (P i).foot ad.block := ⟨ad, ha, rfl⟩
      have z17 := re18.newQ i _ hil hq
      rcases q with q | q | q | q
      · exact eD i _ hil (.inl q) (k1117.fresh z17)
      · exact eD i _ hil (.inr q) (k1117.fresh z17)
      · exact sPr _ hq q
      · exact eQ i _ hil q (k1417.fresh z17)
    have bPs20 := bPs4.but U fun ad ha q => by
      have hq : s28.foot ad.block := ⟨ad, ha, rfl⟩
      have z17 := re18.new _ hq
      rcases q with q | q | q | q
      · exact eD i _ hil (.inl q) (k1117.fresh z17)
      · exact eD i _ hil (.inr q) (k1117.fresh z17)
      · exact sPsr _ hq q
      · exact eQ i _ hil q (k1417.fresh z17)
    have bw20 := b4w.but U fun ad ha q => by
      have hq : sw.foot ad.block := ⟨ad, ha, rfl⟩
      have z2 := (f3w _ hq).1
      rcases q with q | q | q | q
      · exact bD.has q (k2.fresh z2)
      · exact bG.has q (k2.fresh z2)
      · exact b3w.has hq (srN _ q)
      · exact bQ.has q (k2.fresh z2)
    have l85 := b9.len
    rw [List.length_append] at l85
    have l88 := b20.len
    rw [List.length_append] at l88
    refine w_joinV false (fun j hj => w_ifF (by rw [l85, l88]; simp; omega) (w_get rp_len bPs20.arr (re18.nth i hil) rfl rfl ?_)) (w_ifF rfl ?_)
    · exact t_l21SameReply (a := ⟨_, _, P i, _⟩) (b := ⟨_, _, sw, _⟩) rfl rfl rfl bP20.arr bw20.arr (hR' i) hj
    have x4D : ∀ c, Fx4 c → ¬ ((D i).foot c ∨ (G i).foot c ∨ sr.foot c ∨ (Q i).foot c) := fun c w q => by
      rcases q with q | q | q | q
      · exact (c4.foot c w).elim (fD c q).1 ((kp bD fun c q => (fD c q).2).has q)
      · exact (c4.foot c w).elim (fG c q).1 ((kp bG fun c q => (fG c q).2).has q)
      · exact (f4r c q).2 w
      · exact (c4.foot c w).elim (fQ c q).1 ((kp bQ fun c q => (fQ c q).2).has q)
    have y4 : PM h4 py Fy3 (stN (newO cc ws) C d g (i + 1)) := y3.but c4.but (fun c w q => (c3.foot c w).elim (fun w => dj c q w) fun z => xp.has c q (k2.fresh z)) c4.dom
    have y4D : ∀ c, Fy3 c → ¬ ((D i).foot c ∨ (G i).foot c ∨ sr.foot c ∨ (Q i).foot c) := fun c w q => by
      rcases q with q | q | q | q
      · exact (c3.foot c w).elim (fD c q).2 ((bD.keep k2).has q)
      · exact (c3.foot c w).elim (fG c q).2 ((bG.keep k2).has q)
      · exact y3.has c w (srN c q)
      · exact (c3.foot c w).elim (fQ c q).2 ((bQ.keep k2).has q)
    have dm3 : ∀ c, h3 c = none → h18 c = none := fun c z => dm c (k2.fresh (c3.dom c z))
    have wS : ∀ c, W i c → W (i + 1) c := fun c w => w.imp id fun w => w.imp id fun ⟨j, q1, q2, q3⟩ => ⟨j, by omega, q2, q3⟩
    refine more _ _ hil ⟨ia1 i (by omega), Fx4, Fy3, x4.but U x4D dU, y4.but U y4D dU, fun c w => (c4.foot c w).elim (fx' c) fun z => .inr (dm3 c z), fun c w => (c3.foot c w).elim (fy' c) fun z => .inr (dm c (k2.fresh z)), fun c w q => ?_, ?_, fun c z => dm3 c (c4.dom c (dU c z))⟩
    · rcases c4.foot c w with w | z
      · rcases c3.foot c q with q | z
        · exact dj c w q
        · exact xp.has c w (k2.fresh z)
      · exact y3.has c q z
    · refine (((bt.mono wS).trans (But.of (F := fun _ => False) k2) fun _ q => q.elim).trans c3.but fun c q => ?_).trans c4.but (fun c q => ?_) |>.trans U fun c q => ?_
      · exact (fy' c q).imp (fun q => .inr (.inl q)) id
      · exact (fx' c q).imp (fun q => .inl q) id
      · rcases q with q | q | q | q
        · exact .inl (.inr (.inr ⟨i, by omega, hil, .inl q⟩))
        · exact .inl (.inr (.inr ⟨i, by omega, hil, .inr (.inl q)⟩))
        · exact .inr (dm3 c (srN c q))
        · exact .inl (.inr (.inr ⟨i, by omega, hil, .inr (.inr q)⟩))
  have c0 : ¬ (i : Int) < (sc.len : Int) := c0
  clear more rec
  have ii := (inv i).1
  have ir := (inv i).2.1
  have o1 : ∀ o ∈ (stateO (stN (newO cc ws) C d g i)).ob, o.2.length ≤ 4096 := fun o ho => ii.obs o ho
  have o2 : ∀ o ∈ (stateO (stN (newO cc ws) C d g i)).ls, o.2.length ≤ 4096 := fun o ho => Nat.le_trans (ii.lsl o ho) (by decide)
  have o1' : ∀ o ∈ (stateO (stN (newO cc ws) C d g i)).ob, o.2.length ≤ 2 ^ 60 := fun o ho => Nat.le_trans (o1 o ho) (by decide)
  have o2' : ∀ o ∈ (stateO (stN (newO cc ws) C d g i)).ls, o.2.length ≤ 2 ^ 60 := fun o ho => Nat.le_trans (o2 o ho) (by decide)
  have n1 : (stateO (stN (newO cc ws) C d g i)).ob.length ≤ 2 ^ 60 := Nat.le_trans ii.obn (by decide)
  have n2 : (stateO (stN (newO cc ws) C d g i)).ts.length ≤ 2 ^ 60 := Nat.le_trans (state_len ii) (by decide)
  have n3 : (stateO (stN (newO cc ws) C d g i)).ls.length ≤ 2 ^ 60 := Nat.le_trans ii.lsn (by decide)
  refine t_pState xp ii ir fun t1 g1 so1 sl1 G1 at1 q1 => ?_
  refine t_pState (xp.keep q1) ii ir fun t2 g2 so2 sl2 G2 at2 q2 => ?_
  refine t_pState (yp.keep (q1.trans q2)) ii ir fun t3 g3 so3 sl3 G3 at3 q3 => ?_
  have a1 := (at1.here.keep q2).keep q3
  have a2 := at2.keep q3
  refine t_l21SameState (a1.rd o1' o2') (at3.rd o1' o2') n1 n2 n3 ?_
  refine w_joinV false (fun j hj => w_ifF rfl (t_l21SameState (a2.rd o1' o2') (at3.rd o1' o2') n1 n2 n3 hj)) (w_ifF rfl ?_)
  refine w_spoil a1 o1 o2 n1 n2 n3 fun g4 bt4' d4' => ?_
  have b2 := a2.but bt4' fun c q w => at1.has w (at2.new c q)
  have b3 := at3.but bt4' fun c q w => at1.has w (q2.fresh (at3.new c q))
  refine t_l21SameState (b2.rd o1' o2') (b3.rd o1' o2') n1 n2 n3 (w_ifT rfl ?_)
  have q13 := q1.trans (q2.trans q3)
  have xp4 : PM g4 px Fx' (stN (newO cc ws) C d g i) := (xp.keep q13).but bt4' (fun c q w => xp.has c q (at1.here.new c w)) d4'
  refine t_pState xp4 ii ir fun t5 g5 so5 sl5 G5 at5 q5 => ?_
  refine t_l21SameState (at5.rd o1' o2') ((b3.keep q5).rd o1' o2') n1 n2 n3 (y g5 ?_)
  exact (((k0h.trans q13).but bt4' fun c w => k0h.fresh (at1.here.new c w))).trans q5
theorem t_PlainKeepsA {c : S_api_Config} (ar : Arr cW h sd xs) (_hx : xs.length * 16 ≤ 2 ^ 48) (gw : ∀ w ∈ xs, GoodW w) (ac : Arr S_api_Call.cells h sc cs) (hn : cs.length * 136 ≤ 140737488351232) (good : ∀ x ∈ cs, ∃ ds gs, PlayIn h x ds gs) {K : Bool → H → Prop} (y : ∀ h', Keeps h h' → K true h') : m_law22_PlainKeeps c sd sc K h := by
  obtain ⟨C, d, g, x⟩ := Ins.of ac good
  exact t_PlainKeeps ar gw x hn y
end
end Go.Proofs.Ytbjkfllncegpcaa.K
