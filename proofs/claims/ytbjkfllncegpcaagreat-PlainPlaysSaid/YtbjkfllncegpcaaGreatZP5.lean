/- plainPlays: true at every input, the arguments as they were: no condition. Part 5 of 6. -/
import Derived.Test.YtbjkfllncegpcaaGreatZP4
namespace Go.Proofs.YtbjkfllncegpcaaGreat.K
open Go Go.Sort
abbrev BufI (h : H) (s : Sl) (d : Array Int) : Prop := Buf (cInt .i64) 1 N_int h s d.toList
structure Wrote (s : Sl) (h h' : H) : Prop where
  but : But s.foot h h'
  dom : ∀ c, h' c = none → h c = none
theorem Wrote.refl (s : Sl) (h : H) : Wrote s h h := ⟨.refl _ _, fun _ e => e⟩
theorem Wrote.trans {s : Sl} {a b c : H} (x : Wrote s a b) (y : Wrote s b c) : Wrote s a c := ⟨x.but.trans y.but fun _ f => .inl f, fun n e => x.dom n (y.dom n e)⟩
section
variable {h : H} {s : Sl} {d : Array Int}
theorem get_bang {i : Nat} (hi : i < d.size) : d.toList[i]? = some d[i]! := by
  rw [Array.getElem?_toList, getElem!_pos d i hi, Array.getElem?_eq_getElem hi]
theorem rdB (x : BufI h s d) {i i' : Nat} (hi : i < d.size) (hi' : i' < d.size) {j j' : Int} (hj : j = i) (hj' : j' = i') {k : Int → Int → H → Prop} (y : k d[i]! d[i']! h) :
    mIdx s j 1 (fun a => mIdx s j' 1 fun a' => mLoad (cInt .i64) a fun x => mLoad (cInt .i64) a' fun x' => k x x') h :=
  w_idx ci_len x.arr (get_bang hi) hj fun _ _ h1 => w_idx ci_len x.arr (get_bang hi') hj' fun _ _ h2 => w_load h1 (w_load h2 y)
theorem w_swp (x : BufI h s d) {i j : Nat} (hi : i < d.size) (hj : j < d.size) {I J : Int} (eI : I = i) (eJ : J = j) {k : H → Prop} (y : ∀ h', BufI h' s (swp d i j) → Wrote s h h' → k h') :
    mIdx s J 1 (fun a => mIdx s I 1 fun a' => mLoad (cInt .i64) a fun x => mLoad (cInt .i64) a' fun x' => mIdx s I 1 fun b => mStore b [Value.int .i64 x] <| mIdx s J 1 fun b' => mStore b' [Value.int .i64 x'] k) h := by
  refine rdB x hj hi eJ eI ?_
  refine w_put ci_len x (i := i) (by simpa using hi) eI d[j]! rfl fun h1 x1 b1 d1 => ?_
  refine w_put ci_len x1 (i := j) (by simpa using hj) eJ d[i]! rfl fun h2 x2 b2 d2 => y h2 ?_ ⟨b1.trans b2 fun _ f => .inl f, fun c e => d1 c (d2 c e)⟩
  show Buf (cInt .i64) 1 N_int h2 s (swp d i j).toList
  unfold swp
  rw [Array.toList_setIfInBounds, Array.toList_setIfInBounds]
  exact x2
theorem w_less {x y : Int} {k : Bool → H → Prop} (z : k (ltInt x y) h) : mPure (m_cmp_Less_int x y) k h := by
  refine w_pure (ltInt x y) (fun h' k' q => ?_) z
  unfold m_cmp_Less_int
  refine w_pure false (fun h'' k'' q' => ?_) (w_ifF rfl q)
  unfold m_cmp_isNaN_int
  rw [decide_eq_true rfl]; exact q'
theorem insInner_stop {a j : Nat} {d : Array Int} (h : ¬ (a < j ∧ ltInt d[j]! d[j - 1]! = true)) : insInner ltInt a j d = d := by
  cases j with
  | zero => rfl
  | succ j =>
    unfold insInner
    rw [if_neg]
    intro q
    rw [Bool.and_eq_true, decide_eq_true_eq] at q
    exact h q
theorem insInner_go {a j : Nat} {d : Array Int} (h1 : a < j) (h2 : ltInt d[j]! d[j - 1]! = true) : insInner ltInt a j d = insInner ltInt a (j - 1) (swp d j (j - 1)) := by
  cases j with
  | zero => omega
  | succ j =>
    rw [insInner, if_pos]
    · rfl
    · rw [Bool.and_eq_true, decide_eq_true_eq]; exact ⟨h1, h2⟩
theorem t_insertion {a b : Nat} (x : BufI h s d) (hb : b ≤ d.size) (hn : d.size ≤ 2 ^ 40) {K : Unit → H → Prop} (y : ∀ h', BufI h' s (insertionSort ltInt d a b) → Wrote s h h' → K () h') (ha : a ≤ b) : m_slices_insertionSortOrdered_int s (a : Int) (b : Int) K h := by
  unfold m_slices_insertionSortOrdered_int
  rw [ia1 a (by omega)]
  refine w_loop (fun z => b - z.toNat) (fun z h' => ∃ (i : Nat) (e : Array Int), z = (i : Int) ∧ a + 1 ≤ i ∧ e.size = d.size ∧ BufI h' s e ∧ insOuter ltInt a b i e = insOuter ltInt a b (a + 1) d ∧ Wrote s h h') ?_ ⟨a + 1, d, rfl, Nat.le_refl _, rfl, x, rfl, .refl _ _⟩
  rintro rec _ h1 ⟨i, e, rfl, hi, he, x1, eq1, w1⟩ more
  refine w_if' (fun c => ?_) fun c => ?_
  · have c : i < b := by omega
    refine w_loop (fun z => z.toNat) (fun z h' => ∃ (j : Nat) (e' : Array Int), z = (j : Int) ∧ j ≤ i ∧ e'.size = d.size ∧ BufI h' s e' ∧ insInner ltInt a j e' = insInner ltInt a i e ∧ Wrote s h h') ?_ ⟨i, e, rfl, Nat.le_refl _, he, x1, rfl, w1⟩
    rintro rec2 _ h2 ⟨j, e', rfl, hj, he', x2, eq2, w2⟩ more2
    refine w_joinV (decide (a < j) && ltInt e'[j]! e'[j - 1]!) (fun k hk => w_if' (fun c2 => ?_) fun c2 => ?_) ?_
    · have c2 : a < j := by omega
      refine rdB x2 (i := j) (i' := j - 1) (by omega) (by omega) rfl (is1 j (by omega) (by omega)) (w_less ?_)
      rw [decide_eq_true c2, Bool.true_and] at hk
      exact hk
    · have c2 : ¬ a < j := by omega
      rw [decide_eq_false c2, Bool.false_and] at hk
      exact hk
    · refine w_if (fun c2 => ?_) fun c2 => ?_
      · rw [Bool.and_eq_true, decide_eq_true_eq] at c2
        rw [is1 j (by omega) (by omega)]
        refine w_swp x2 (i := j) (j := j - 1) (by omega) (by omega) rfl rfl fun h3 x3 w3 => ?_
        exact more2 _ _ ⟨j - 1, _, rfl, by omega, by rw [swp_size]; exact he', x3, by rw [← insInner_go c2.1 c2.2]; exact eq2, w2.trans w3⟩ (by omega)
      · have c2 : ¬ (a < j ∧ ltInt e'[j]! e'[j - 1]! = true) := by
          intro q
          rw [q.2, decide_eq_true q.1] at c2; cases c2
        rw [ia1 i (by omega)]
        rw [insInner_stop c2] at eq2
        refine more _ _ ⟨i + 1, e', rfl, by omega, he', x2, ?_, w2⟩ (by simp only [Int.toNat_natCast]; omega)
        rw [← eq1, eq2]
        conv => rhs; rw [insOuter, if_pos c]
  · have c : ¬ i < b := by omega
    refine y h1 ?_ w1
    have : insOuter ltInt a b i e = e := by rw [insOuter, if_neg c]
    unfold insertionSort
    rw [← eq1, this]; exact x1
theorem t_sift {lo hi first : Nat} (x : BufI h s d) (hb : first + hi ≤ d.size) (hlo : lo ≤ d.size) (hn : d.size ≤ 2 ^ 40) {K : Unit → H → Prop} (y : ∀ h', BufI h' s (siftDown ltInt hi first lo d) → Wrote s h h' → K () h') : m_slices_siftDownOrdered_int s (lo : Int) (hi : Int) (first : Int) K h := by
  unfold m_slices_siftDownOrdered_int
  refine w_loop (fun z => hi - z.toNat) (fun z h' => ∃ (r : Nat) (e : Array Int), z = (r : Int) ∧ r ≤ d.size ∧ e.size = d.size ∧ BufI h' s e ∧ siftDown ltInt hi first r e = siftDown ltInt hi first lo d ∧ Wrote s h h') ?_ ⟨lo, d, rfl, hlo, rfl, x, rfl, .refl _ _⟩
  rintro rec _ h1 ⟨r, e, rfl, hr, he, x1, eq1, w1⟩ more
  rw [im2 r (by omega), ia1 (2 * r) (by omega), ia1 (2 * r + 1) (by omega)]
  rw [siftDown] at eq1
  refine w_if' (fun c => ?_) fun c => ?_
  · have c : 2 * r + 1 ≥ hi := by omega
    rw [dif_pos c] at eq1
    exact y h1 (by rw [← eq1]; exact x1) w1
  have c : ¬ 2 * r + 1 ≥ hi := by omega
  rw [dif_neg c] at eq1
  rw [ia first (2 * r + 1) (by omega), ia1 (first + (2 * r + 1)) (by omega)]
  have rest : ∀ ch : Nat, 2 * r + 1 ≤ ch → ch < hi → (if (!ltInt e[first + r]! e[first + ch]!) = true then e else siftDown ltInt hi first ch (swp e (first + r) (first + ch))) = siftDown ltInt hi first lo d →
      (mIdx s (iAdd .i64 (first : Int) (r : Int)) 1 fun ad5 => mIdx s (iAdd .i64 (first : Int) (ch : Int)) 1 fun ad6 => mLoad (cInt .i64) ad5 fun x7 => mLoad (cInt .i64) ad6 fun x8 => mPure (m_cmp_Less_int x7 x8) fun r9 =>
        mIf (!r9) (K ()) (mIdx s (iAdd .i64 (first : Int) (ch : Int)) 1 fun ad10 => mIdx s (iAdd .i64 (first : Int) (r : Int)) 1 fun ad11 => mLoad (cInt .i64) ad10 fun x12 => mLoad (cInt .i64) ad11 fun x13 =>
          mIdx s (iAdd .i64 (first : Int) (r : Int)) 1 fun ad14 => mStore ad14 [Value.int .i64 x12] <| mIdx s (iAdd .i64 (first : Int) (ch : Int)) 1 fun ad15 => mStore ad15 [Value.int .i64 x13] <| rec (ch : Int))) h1 := fun ch h1c h2c q => by
    have e1 := ia first r (by omega)
    have e2 := ia first ch (by omega)
    rw [e1, e2]
    refine rdB x1 (i := first + r) (i' := first + ch) (by omega) (by omega) rfl rfl (w_less ?_)
    refine w_if (fun c2 => ?_) fun c2 => ?_
    · rw [if_pos c2] at q
      exact y h1 (by rw [← q]; exact x1) w1
    · rw [if_neg (by rw [c2]; simp)] at q
      refine w_swp x1 (i := first + r) (j := first + ch) (by omega) (by omega) rfl rfl fun h3 x3 w3 => ?_
      exact more _ _ ⟨ch, _, rfl, by omega, by rw [swp_size]; exact he, x3, q, w1.trans w3⟩ (by simp only [Int.toNat_natCast]; omega)
  refine w_joinP (fun z h' => h1 = h' ∧ ∃ ch : Nat, z = (ch : Int) ∧ 2 * r + 1 ≤ ch ∧ ch < hi ∧ (if (!ltInt e[first + r]! e[first + ch]!) = true then e else siftDown ltInt hi first ch (swp e (first + r) (first + ch))) = siftDown ltInt hi first lo d) (fun j hj => ?_) ?_
  · refine w_joinV (decide (2 * r + 1 + 1 < hi) && ltInt e[first + (2 * r + 1)]! e[first + (2 * r + 1) + 1]!) (fun k hk => w_if' (fun c2 => ?_) fun c2 => ?_) ?_
    · have c2 : 2 * r + 1 + 1 < hi := by omega
      refine rdB x1 (i := first + (2 * r + 1)) (i' := first + (2 * r + 1) + 1) (by omega) (by omega) rfl rfl (w_less ?_)
      rw [decide_eq_true c2, Bool.true_and] at hk
      exact hk
    · have c2 : ¬ 2 * r + 1 + 1 < hi := by omega
      rw [decide_eq_false c2, Bool.false_and] at hk
      exact hk
    · refine w_if (fun c2 => ?_) fun c2 => ?_
      · rw [if_pos c2] at eq1
        rw [Bool.and_eq_true, decide_eq_true_eq] at c2
        rw [dif_pos (show 2 * r + 2 < hi from c2.1)] at eq1
        exact hj _ _ ⟨rfl, 2 * r + 2, rfl, by omega, c2.1, eq1⟩
      · rw [if_neg (by rw [c2]; simp)] at eq1
        exact hj _ _ ⟨rfl, 2 * r + 1, rfl, by omega, by omega, eq1⟩
  · rintro _ _ ⟨rfl, ch, rfl, h1c, h2c, q⟩
    exact rest ch h1c h2c q
end
section
variable {h : H} {s : Sl} {d : Array Int}
theorem sift_size (hi first : Nat) : ∀ (m r : Nat) (e : Array Int), hi - r ≤ m → (siftDown ltInt hi first r e).size = e.size := by
  intro m
  induction m with
  | zero => intro r e hm; rw [siftDown, dif_pos (by omega)]
  | succ m ih =>
    intro r e hm
    rw [siftDown]
    by_cases c : 2 * r + 1 ≥ hi
    · rw [dif_pos c]
    rw [dif_neg c]
    split
    · split
      · rfl
      · split
        · rw [ih _ _ (by omega), swp_size]
        · rfl
    · split
      · rfl
      · rw [ih _ _ (by omega), swp_size]
theorem t_heapSort {a b : Nat} (x : BufI h s d) (hab : a ≤ b) (hb : b ≤ d.size) (hn : d.size ≤ 2 ^ 40) {K : Unit → H → Prop} (y : ∀ h', BufI h' s (heapSort ltInt d a b) → Wrote s h h' → K () h') : m_slices_heapSortOrdered_int s (a : Int) (b : Int) K h := by
  unfold m_slices_heapSortOrdered_int
  rw [is_ b a (by omega) hab]
  have e0 : iQuo .i64 (iSub .i64 ((b - a : Nat) : Int) 1) 2 = (((b - a - 1) / 2 + 1 : Nat) : Int) - 1 := by
    rw [iSub_eq (by omega) (by omega)]
    rcases Nat.eq_zero_or_pos (b - a) with q | q
    · rw [q]; rfl
    · rw [show ((b - a : Nat) : Int) - 1 = ((b - a - 1 : Nat) : Int) from by omega]
      refine (iq (b - a - 1) 2 (by omega)).trans ?_
      omega
  rw [e0]
  refine w_loop (fun z => (z + 1).toNat) (fun z h' => ∃ (k : Nat) (e : Array Int), z = (k : Int) - 1 ∧ k ≤ b - a + 1 ∧ e.size = d.size ∧ BufI h' s e ∧ heapBuild ltInt (b - a) a k e = heapBuild ltInt (b - a) a ((b - a - 1) / 2 + 1) d ∧ Wrote s h h') ?_ ⟨_, d, rfl, by omega, rfl, x, rfl, .refl _ _⟩
  rintro rec _ h1 ⟨k, e, rfl, hk, he, x1, eq1, w1⟩ more
  refine w_if' (fun c => ?_) fun c => ?_
  · obtain ⟨k, rfl⟩ : ∃ q, k = q + 1 := ⟨k - 1, by omega⟩
    rw [show ((k + 1 : Nat) : Int) - 1 = (k : Int) from by omega]
    refine t_sift x1 (by omega) (by omega) (by omega) fun h2 x2 w2 => ?_
    refine more _ _ ⟨k, _, by rw [iSub_eq (by omega) (by omega)], by omega, ?_, x2, ?_, w1.trans w2⟩ ?_
    · rw [sift_size _ _ _ _ _ (Nat.le_refl _)]; exact he
    · rw [← eq1]; rfl
    · rw [iSub_eq (by omega) (by omega)]; omega
  have hk0 : k = 0 := by omega
  subst hk0
  rw [show heapBuild ltInt (b - a) a 0 e = e from rfl] at eq1
  clear more rec c hk
  rw [iSub_eq (by omega) (by omega)]
  refine w_loop (fun z => (z + 1).toNat) (fun z h' => ∃ (k : Nat) (e' : Array Int), z = (k : Int) - 1 ∧ k ≤ b - a ∧ e'.size = d.size ∧ BufI h' s e' ∧ heapPop ltInt a k e' = heapPop ltInt a (b - a) e ∧ Wrote s h h') ?_ ⟨_, e, rfl, Nat.le_refl _, he, x1, rfl, w1⟩
  rintro rec _ h2 ⟨k, e', rfl, hk, he', x2, eq2, w2⟩ more
  refine w_if' (fun c => ?_) fun c => ?_
  · obtain ⟨k, rfl⟩ : ∃ q, k = q + 1 := ⟨k - 1, by omega⟩
    rw [show ((k + 1 : Nat) : Int) - 1 = (k : Int) from by omega]
    have ek := ia a k (by omega)
    rw [ek]
    refine w_swp x2 (i := a) (j := a + k) (by omega) (by omega) rfl rfl fun h3 x3 w3 => ?_
    refine t_sift (lo := 0) x3 (by rw [swp_size]; omega) (Nat.zero_le _) (by rw [swp_size]; omega) fun h4 x4 w4 => ?_
    refine more _ _ ⟨k, _, by rw [iSub_eq (by omega) (by omega)], by omega, ?_, x4, ?_, (w2.trans w3).trans w4⟩ ?_
    · rw [sift_size _ _ _ _ _ (Nat.le_refl _), swp_size]; exact he'
    · rw [← eq2]; rfl
    · rw [iSub_eq (by omega) (by omega)]; omega
  · have hk0 : k = 0 := by omega
    subst hk0
    refine y h2 ?_ w2
    unfold heapSort
    rw [← eq1, ← eq2]; exact x2
theorem t_reverse {a b : Nat} (x : BufI h s d) (hab : a < b) (hb : b ≤ d.size) (hn : d.size ≤ 2 ^ 40) {K : Unit → H → Prop} (y : ∀ h', BufI h' s (reverseRange d a b) → Wrote s h h' → K () h') : m_slices_reverseRangeOrdered_int s (a : Int) (b : Int) K h := by
  unfold m_slices_reverseRangeOrdered_int
  rw [is1 b (by omega) (by omega)]
  refine w_loop (fun z => (z.2 - z.1).toNat) (fun z h' => ∃ (i j : Nat) (e : Array Int), z = ((i : Int), (j : Int)) ∧ i < d.size ∧ j < d.size ∧ e.size = d.size ∧ BufI h' s e ∧ reverseLoop i j e = reverseLoop a (b - 1) d ∧ Wrote s h h') ?_ ⟨a, b - 1, d, rfl, by omega, by omega, rfl, x, rfl, .refl _ _⟩
  rintro rec _ h1 ⟨i, j, e, rfl, hi, hj, he, x1, eq1, w1⟩ more
  rw [reverseLoop] at eq1
  refine w_if' (fun c => ?_) fun c => ?_
  · have c : i < j := by have c : (i : Int) < (j : Int) := c; omega
    rw [if_pos c] at eq1
    refine w_swp x1 (i := i) (j := j) (by omega) (by omega) rfl rfl fun h2 x2 w2 => ?_
    show rec (iAdd .i64 (i : Int) 1, iSub .i64 (j : Int) 1) h2
    rw [ia1 i (by omega), is1 j (by omega) (by omega)]
    exact more _ _ ⟨i + 1, j - 1, _, rfl, by omega, by omega, by rw [swp_size]; exact he, x2, eq1, w1.trans w2⟩ (by show ((j - 1 : Nat) - (i + 1 : Nat) : Int).toNat < ((j : Int) - (i : Int)).toNat; omega)
  · have c : ¬ i < j := by have c : ¬ (i : Int) < (j : Int) := c; omega
    rw [if_neg c] at eq1
    refine y h1 ?_ w1
    unfold reverseRange
    rw [← eq1]; exact x1
def Cell1 (c0 : Nat) (h : H) : Prop := ∃ v : Int, h c0 = some (.cells #[Value.int .i64 v] N_int (0, 0))
theorem t_order2 {i j c0 : Nat} (x : BufI h s d) (hi : i < d.size) (hj : j < d.size) (hc : Cell1 c0 h) (nf : ¬ s.foot c0) {K : Int × Int → H → Prop}
    (y : ∀ p q h', (p = i ∧ q = j ∨ p = j ∧ q = i) → BufI h' s d → Cell1 c0 h' → But (· = c0) h h' → (∀ c, h' c = none → h c = none) → K ((p : Nat), (q : Nat)) h') : m_slices_order2Ordered_int s (i : Int) (j : Int) (some ⟨c0, 0, none⟩) K h := by
  unfold m_slices_order2Ordered_int
  obtain ⟨v, hv⟩ := hc
  refine rdB x hj hi rfl rfl (w_less (w_if (fun _ => ?_) fun _ => y i j h (.inl ⟨rfl, rfl⟩) x ⟨v, hv⟩ (.refl _ _) fun _ e => e))
  refine w_deref (w_load (At.own (l1 := []) (l2 := cInt .i64 v) (l3 := []) hv rfl) (w_deref (w_store (l1 := []) (l2 := cInt .i64 v) (l3 := []) rfl hv rfl rfl ?_)))
  exact y j i _ (.inr ⟨rfl, rfl⟩) (x.but (But.upd (F := (· = c0)) rfl) fun a ha e => nf ⟨a, ha, e⟩) ⟨_, upd_same _ _ _⟩ (But.upd rfl) fun c e => (upd_none.1 e).2
theorem t_median {i j k c0 : Nat} (x : BufI h s d) (hi : i < d.size) (hj : j < d.size) (hk : k < d.size) (hc : Cell1 c0 h) (nf : ¬ s.foot c0) {K : Int → H → Prop}
    (y : ∀ p h', (p = i ∨ p = j ∨ p = k) → BufI h' s d → Cell1 c0 h' → But (· = c0) h h' → (∀ c, h' c = none → h c = none) → K (p : Nat) h') : m_slices_medianOrdered_int s (i : Int) (j : Int) (k : Int) (some ⟨c0, 0, none⟩) K h := by
  unfold m_slices_medianOrdered_int
  refine t_order2 x hi hj hc nf fun p1 q1 h1 e1 x1 c1 b1 d1 => ?_
  refine t_order2 (i := q1) (j := k) x1 (by rcases e1 with ⟨rfl, rfl⟩ | ⟨rfl, rfl⟩ <;> assumption) hk c1 nf fun p2 q2 h2 e2 x2 c2 b2 d2 => ?_
  have hp2 : p2 < d.size := by rcases e1 with ⟨rfl, rfl⟩ | ⟨rfl, rfl⟩ <;> rcases e2 with ⟨rfl, rfl⟩ | ⟨rfl, rfl⟩ <;> assumption
  refine t_order2 (i := p1) (j := p2) x2 (by rcases e1 with ⟨rfl, rfl⟩ | ⟨rfl, rfl⟩ <;> assumption) hp2 c2 nf fun p3 q3 h3 e3 x3 c3 b3 d3 => ?_
  refine y q3 h3 ?_ x3 c3 ((b1.trans b2 fun _ f => .inl f).trans b3 fun _ f => .inl f) fun c e => d1 c (d2 c (d3 c e))
  rcases e1 with ⟨rfl, rfl⟩ | ⟨rfl, rfl⟩ <;> rcases e2 with ⟨rfl, rfl⟩ | ⟨rfl, rfl⟩ <;> rcases e3 with ⟨rfl, rfl⟩ | ⟨rfl, rfl⟩ <;> simp
theorem t_medianA {i c0 : Nat} (x : BufI h s d) (h1 : 1 ≤ i) (hi : i + 1 < d.size) (hn : d.size ≤ 2 ^ 40) (hc : Cell1 c0 h) (nf : ¬ s.foot c0) {K : Int → H → Prop}
    (y : ∀ p h', (i ≤ p + 1 ∧ p ≤ i + 1) → BufI h' s d → Cell1 c0 h' → But (· = c0) h h' → (∀ c, h' c = none → h c = none) → K (p : Nat) h') : m_slices_medianAdjacentOrdered_int s (i : Int) (some ⟨c0, 0, none⟩) K h := by
  unfold m_slices_medianAdjacentOrdered_int
  rw [is1 i (by omega) h1, ia1 i (by omega)]
  exact t_median x (by omega) (by omega) hi hc nf fun p h' e => y p h' (by omega)
theorem w_newQ {t : TypeId} {c : Array Value} {k : Addr → H → Prop} (Q : Nat → H → Prop) (hq : ∀ b, h b = none → Q b (upd h b (.cells c t (0, 0)))) (x : ∀ b h0, h b = none → Q b h0 → k ⟨b, 0, none⟩ h0) : mNew t c k h := fun b hb => x b _ hb (hq b hb)
theorem t_choosePivot {a b : Nat} (x : BufI h s d) (hab : a < b) (hb : b ≤ d.size) (hn : d.size ≤ 2 ^ 40) {K : Int × Int → H → Prop}
    (y : ∀ (p : Nat) (t : Int) h', a ≤ p → p < b → BufI h' s d → Keeps h h' → K ((p : Int), t) h') : m_slices_choosePivotOrdered_int s (a : Int) (b : Int) K h := by
  unfold m_slices_choosePivotOrdered_int
  refine w_newQ (fun c0 h0 => Cell1 c0 h0 ∧ Keeps h h0) (fun c0 hc0 => ⟨⟨0, upd_same _ _ _⟩, .new hc0⟩) fun c0 h0 hc0 ⟨cl0, k0⟩ => ?_
  have nf : ¬ s.foot c0 := fun f => by
    obtain ⟨A, hA, e⟩ := f
    rcases x.at_ with ⟨q, _⟩ | ⟨B, z, fz, q, hB, _⟩
    · rw [q] at hA; cases hA
    · rw [q] at hA; cases hA; subst e; rw [hc0] at hB; cases hB
  have x0 : BufI h0 s d := x.keep k0
  have kk : ∀ h', But (· = c0) h0 h' → Keeps h h' := fun h' q => k0.but q fun n e => by subst e; exact hc0
  have e8 : iSub .i64 (b : Int) (a : Int) = ((b - a : Nat) : Int) := is_ b a (by omega) (by omega)
  have q4 : (b - a) / 4 ≤ b - a := Nat.div_le_self _ _
  have e4 : iQuo .i64 ((b - a : Nat) : Int) 4 = (((b - a) / 4 : Nat) : Int) := iq (b - a) 4 (by omega)
  generalize hq : (b - a) / 4 = q at q4 e4
  have m1 : iMul .i64 (q : Int) 1 = ((q : Nat) : Int) := (i64_eq (x := (q : Int) * 1) (by omega) (by omega)).trans (by omega)
  have m2 : iMul .i64 (q : Int) 2 = ((q * 2 : Nat) : Int) := (i64_eq (x := (q : Int) * 2) (by omega) (by omega)).trans (by omega)
  have m3 : iMul .i64 (q : Int) 3 = ((q * 3 : Nat) : Int) := (i64_eq (x := (q : Int) * 3) (by omega) (by omega)).trans (by omega)
  rw [e8, e4, m1, m2, m3, ia a q (by omega), ia a (q * 2) (by omega), ia a (q * 3) (by omega)]
  refine w_joinP (fun z h' => ∃ p : Nat, z = (p : Int) ∧ a ≤ p ∧ p < b ∧ BufI h' s d ∧ Cell1 c0 h' ∧ But (· = c0) h0 h') (fun j hj => ?_) ?_
  · refine w_if' (fun c => ?_) fun c => ?_
    · have c : 8 ≤ b - a := by omega
      refine w_joinP (fun z h' => ∃ p1 p2 p3 : Nat, z = ((p1 : Int), (p2 : Int), (p3 : Int)) ∧ (a ≤ p1 ∧ p1 < b) ∧ (a ≤ p2 ∧ p2 < b) ∧ (a ≤ p3 ∧ p3 < b) ∧ BufI h' s d ∧ Cell1 c0 h' ∧ But (· = c0) h0 h') (fun j2 hj2 => ?_) ?_
      · refine w_if' (fun c2 => ?_) fun c2 => ?_
        · have c2 : 50 ≤ b - a := by omega
          refine t_medianA x0 (i := a + q) (by omega) (by omega) hn cl0 nf fun p1 h1 r1 x1 cl1 b1 _ => ?_
          refine t_medianA x1 (i := a + q * 2) (by omega) (by omega) hn cl1 nf fun p2 h2 r2 x2 cl2 b2 _ => ?_
          refine t_medianA x2 (i := a + q * 3) (by omega) (by omega) hn cl2 nf fun p3 h3 r3 x3 cl3 b3 _ => ?_
          exact hj2 _ _ ⟨p1, p2, p3, rfl, by omega, by omega, by omega, x3, cl3, (b1.trans b2 fun _ f => .inl f).trans b3 fun _ f => .inl f⟩
        · exact hj2 _ _ ⟨a + q, a + q * 2, a + q * 3, rfl, by omega, by omega, by omega, x0, cl0, .refl _ _⟩
      · rintro _ h1 ⟨p1, p2, p3, rfl, r1, r2, r3, x1, cl1, b1⟩
        refine t_median x1 (i := p1) (j := p2) (k := p3) (by omega) (by omega) (by omega) cl1 nf fun p h2 e2 x2 cl2 b2 _ => ?_
        exact hj _ _ ⟨p, rfl, by omega, by omega, x2, cl2, b1.trans b2 fun _ f => .inl f⟩
    · have c : ¬ 8 ≤ b - a := by omega
      exact hj _ _ ⟨a + q * 2, rfl, by omega, by omega, x0, cl0, .refl _ _⟩
  · rintro _ h1 ⟨p, rfl, r1, r2, x1, ⟨v, hv⟩, b1⟩
    refine w_load (At.own (l1 := []) (l2 := cInt .i64 v) (l3 := []) hv rfl) ?_
    have fin : ∀ t : Int, K ((p : Int), t) h1 := fun t => y p t h1 r1 r2 x1 (kk h1 b1)
    exact w_if (fun _ => fin 1) fun _ => w_if (fun _ => fin 2) fun _ => fin 0
end
section
variable {h : H} {s : Sl} {d : Array Int}
theorem shiftDown_go {j : Nat} {d : Array Int} (h1 : 1 ≤ j) (h2 : ltInt d[j]! d[j - 1]! = true) : shiftDown ltInt j d = shiftDown ltInt (j - 1) (swp d j (j - 1)) := by
  cases j with
  | zero => omega
  | succ j =>
    rw [shiftDown, if_neg]
    · rfl
    · have h2 : ltInt d[j + 1]! d[j]! = true := h2
      rw [h2]; simp
theorem shiftDown_stop {j : Nat} {d : Array Int} (h2 : j = 0 ∨ ltInt d[j]! d[j - 1]! = false) : shiftDown ltInt j d = d := by
  cases j with
  | zero => rfl
  | succ j =>
    rw [shiftDown, if_pos]
    rcases h2 with q | q
    · omega
    · have q : ltInt d[j + 1]! d[j]! = false := q
      rw [q]; rfl
theorem t_partialIns {a b : Nat} (x : BufI h s d) (hab : a < b) (hb : b ≤ d.size) (hn : d.size ≤ 2 ^ 40) {K : Bool → H → Prop} (y : ∀ h', BufI h' s (partialInsertionSort ltInt d a b).1 → Wrote s h h' → K (partialInsertionSort ltInt d a b).2 h') : m_slices_partialInsertionSortOrdered_int s (a : Int) (b : Int) K h := by
  unfold m_slices_partialInsertionSortOrdered_int
  rw [ia1 a (by omega), is_ b a (by omega) (by omega)]
  unfold partialInsertionSort at y
  refine w_loop (fun z => 5 - z.2.toNat) (fun z h' => ∃ (i t : Nat) (e : Array Int), z = ((i : Int), ((5 - t : Nat) : Int)) ∧ t ≤ 5 ∧ a < i ∧ i ≤ b ∧ e.size = d.size ∧ BufI h' s e ∧ partialIns ltInt a b t i e = partialIns ltInt a b 5 (a + 1) d ∧ Wrote s h h') ?_ ⟨a + 1, 5, d, rfl, Nat.le_refl _, by omega, hab, rfl, x, rfl, .refl _ _⟩
  rintro rec _ h1 ⟨i, t, e, rfl, ht, hai, hib, he, x1, eq1, w1⟩ more
  refine w_if' (fun c => ?_) fun c => ?_
  · have c : ((5 - t : Nat) : Int) < 5 := c
    obtain ⟨t, rfl⟩ : ∃ q, t = q + 1 := ⟨t - 1, by omega⟩
    rw [partialIns_succ] at eq1
    refine w_loop (fun z => b - z.toNat) (fun z h' => h1 = h' ∧ ∃ i' : Nat, z = (i' : Int) ∧ a < i' ∧ i' ≤ b ∧ scanSorted ltInt e b i' = scanSorted ltInt e b i) ?_ ⟨rfl, i, rfl, hai, hib, rfl⟩
    rintro rec2 _ _ ⟨rfl, k, rfl, hak, hkb, eqs⟩ more2
    refine w_joinV (decide (k < b) && !ltInt e[k]! e[k - 1]!) (fun j hj => w_if' (fun c2 => ?_) fun c2 => ?_) ?_
    · have c2 : k < b := by omega
      refine rdB x1 (i := k) (i' := k - 1) (by omega) (by omega) rfl (is1 k (by omega) (by omega)) (w_less ?_)
      rw [decide_eq_true c2, Bool.true_and] at hj
      exact hj
    · have c2 : ¬ k < b := by omega
      rw [decide_eq_false c2, Bool.false_and] at hj
      exact hj
    · rw [scanSorted] at eqs
      refine w_if (fun c2 => ?_) fun c2 => ?_
      · rw [if_pos c2] at eqs
        rw [Bool.and_eq_true, decide_eq_true_eq] at c2
        rw [ia1 k (by omega)]
        exact more2 _ _ ⟨rfl, k + 1, rfl, by omega, by omega, eqs⟩ (by simp only [Int.toNat_natCast]; omega)
      · rw [if_neg (by rw [c2]; simp)] at eqs
        rw [← eqs] at eq1
        clear more2 rec2 c2 eqs
        refine w_if' (fun c3 => ?_) fun c3 => ?_
        · have c3 : k = b := by omega
          rw [if_pos c3] at eq1
          rw [← eq1] at y
          exact y h1 x1 w1
        have c3 : ¬ k = b := by omega
        rw [if_neg c3] at eq1
        refine w_if' (fun c4 => ?_) fun c4 => ?_
        · have c4 : b - a < 50 := by omega
          rw [if_pos c4] at eq1
          rw [← eq1] at y
          exact y h1 x1 w1
        have c4 : ¬ b - a < 50 := by omega
        rw [if_neg c4] at eq1
        rw [is1 k (by omega) (by omega)]
        refine w_swp x1 (i := k) (j := k - 1) (by omega) (by omega) rfl rfl fun h2 x2 w2 => ?_
        have he2 : (swp e k (k - 1)).size = d.size := by rw [swp_size]; exact he
        have w12 := w1.trans w2
        generalize swp e k (k - 1) = e2 at eq1 x2 he2
        clear x1 w1 w2
        rw [is_ b k (by omega) hkb, is_ k a (by omega) (by omega), ia1 k (by omega)]
        have fin : ∀ (e3 : Array Int) (h3 : H), e3.size = d.size → BufI h3 s e3 → Wrote s h h3 → partialIns ltInt a b t k e3 = partialIns ltInt a b 5 (a + 1) d → rec ((k : Int), iAdd .i64 ((5 - (t + 1) : Nat) : Int) 1) h3 := fun e3 h3 z1 z2 z3 z4 => by
          have e5 : iAdd .i64 ((5 - (t + 1) : Nat) : Int) 1 = ((5 - t : Nat) : Int) := by rw [iAdd_eq (by omega) (by omega)]; omega
          rw [e5]
          exact more _ _ ⟨k, t, e3, rfl, by omega, hak, hkb, z1, z2, z4, z3⟩ (by show 5 - ((5 - t : Nat) : Int).toNat < 5 - ((5 - (t + 1) : Nat) : Int).toNat; omega)
        refine w_joinP (fun _ h' => ∃ e3 : Array Int, e3.size = d.size ∧ BufI h' s e3 ∧ fixDown ltInt a k e2 = e3 ∧ Wrote s h h') (fun j hj => ?_) ?_
        · unfold fixDown at hj
          refine w_if' (fun c5 => ?_) fun c5 => ?_
          · have c5 : k - a ≥ 2 := by omega
            simp only [if_pos c5] at hj
            refine w_loop (fun z => z.toNat) (fun z h' => ∃ (q : Nat) (e3 : Array Int), z = (q : Int) ∧ q < d.size ∧ e3.size = d.size ∧ BufI h' s e3 ∧ shiftDown ltInt q e3 = shiftDown ltInt (k - 1) e2 ∧ Wrote s h h') ?_ ⟨k - 1, e2, rfl, by omega, he2, x2, rfl, w12⟩
            rintro rec3 _ h3 ⟨q, e3, rfl, hq, he3, x3, eq3, w3⟩ more3
            refine w_if' (fun c6 => ?_) fun c6 => ?_
            · have c6 : 1 ≤ q := by omega
              rw [is1 q (by omega) (by omega)]
              refine rdB x3 (i := q) (i' := q - 1) (by omega) (by omega) rfl rfl (w_less (w_if (fun c7 => ?_) fun c7 => ?_))
              · rw [Bool.not_eq_true'] at c7
                rw [shiftDown_stop (.inr c7)] at eq3
                exact hj () h3 ⟨e3, he3, x3, eq3.symm, w3⟩
              · rw [Bool.not_eq_false'] at c7
                rw [shiftDown_go c6 c7] at eq3
                refine w_swp x3 (i := q) (j := q - 1) (by omega) (by omega) rfl rfl fun h4 x4 w4 => ?_
                exact more3 _ _ ⟨q - 1, _, rfl, by omega, by rw [swp_size]; exact he3, x4, eq3, w3.trans w4⟩ (by omega)
            · have c6 : q = 0 := by omega
              rw [shiftDown_stop (.inl c6)] at eq3
              exact hj () h3 ⟨e3, he3, x3, eq3.symm, w3⟩
          · have c5 : ¬ k - a ≥ 2 := by omega
            simp only [if_neg c5] at hj
            exact hj () h2 ⟨e2, he2, x2, rfl, w12⟩
        · rintro _ h3 ⟨e3, he3, x3, eq3, w3⟩
          rw [eq3] at eq1
          unfold fixUp at eq1
          refine w_if' (fun c5 => ?_) fun c5 => ?_
          · have c5 : b - k ≥ 2 := by omega
            rw [if_pos c5] at eq1
            refine w_loop (fun z => b - z.toNat) (fun z h' => ∃ (q : Nat) (e4 : Array Int), z = (q : Int) ∧ k < q ∧ q ≤ b ∧ e4.size = d.size ∧ BufI h' s e4 ∧ shiftUp ltInt b q e4 = shiftUp ltInt b (k + 1) e3 ∧ Wrote s h h') ?_ ⟨k + 1, e3, rfl, by omega, by omega, he3, x3, rfl, w3⟩
            rintro rec3 _ h4 ⟨q, e4, rfl, hkq, hq, he4, x4, eq4, w4⟩ more3
            rw [shiftUp] at eq4
            refine w_if' (fun c6 => ?_) fun c6 => ?_
            · have c6 : q < b := by omega
              rw [if_pos c6] at eq4
              rw [is1 q (by omega) (by omega)]
              refine rdB x4 (i := q) (i' := q - 1) (by omega) (by omega) rfl rfl (w_less (w_if (fun c7 => ?_) fun c7 => ?_))
              · rw [if_pos c7] at eq4
                exact fin e4 h4 he4 x4 w4 (by rw [eq4]; exact eq1)
              · rw [if_neg (by rw [c7]; simp)] at eq4
                refine w_swp x4 (i := q) (j := q - 1) (by omega) (by omega) rfl rfl fun h5 x5 w5 => ?_
                rw [ia1 q (by omega)]
                exact more3 _ _ ⟨q + 1, _, rfl, by omega, by omega, by rw [swp_size]; exact he4, x5, eq4, w4.trans w5⟩ (by simp only [Int.toNat_natCast]; omega)
            · have c6 : ¬ q < b := by omega
              rw [if_neg c6] at eq4
              exact fin e4 h4 he4 x4 w4 (by rw [eq4]; exact eq1)
          · have c5 : ¬ b - k ≥ 2 := by omega
            rw [if_neg c5] at eq1
            exact fin e3 h3 he3 x3 w3 eq1
  · have c : ¬ ((5 - t : Nat) : Int) < 5 := c
    have ht0 : t = 0 := by omega
    subst ht0
    rw [show partialIns ltInt a b 0 i e = (e, false) from rfl] at eq1
    rw [← eq1] at y
    exact y h1 x1 w1
theorem scanDown_go {p : Int → Bool} {d : Array Int} {i j : Nat} (h0 : 1 ≤ i) (h : i ≤ j) (hp : p d[j]! = true) : scanDown p d i j = scanDown p d i (j - 1) := by
  cases j with
  | zero => omega
  | succ j =>
    rw [scanDown, if_pos]
    · rfl
    · rw [Bool.and_eq_true, decide_eq_true_eq]; exact ⟨h, hp⟩
theorem scanDown_stop {p : Int → Bool} {d : Array Int} {i j : Nat} (h : ¬ (i ≤ j ∧ p d[j]! = true)) : scanDown p d i j = j := by
  cases j with
  | zero => rfl
  | succ j =>
    rw [scanDown, if_neg]
    intro q
    rw [Bool.and_eq_true, decide_eq_true_eq] at q
    exact h q
theorem t_partEq {a b p : Nat} (x : BufI h s d) (hap : a ≤ p) (hpb : p < b) (hb : b ≤ d.size) (hn : d.size ≤ 2 ^ 40) {K : Int → H → Prop} (y : ∀ h', BufI h' s (partitionEqual ltInt d a b p).2 → Wrote s h h' → K (((partitionEqual ltInt d a b p).1 : Nat) : Int) h') : m_slices_partitionEqualOrdered_int s (a : Int) (b : Int) (p : Int) K h := by
  unfold m_slices_partitionEqualOrdered_int
  unfold partitionEqual at y
  refine w_swp x (i := a) (j := p) (by omega) (by omega) rfl rfl fun h0 x0 w0 => ?_
  have hs0 : (swp d a p).size = d.size := swp_size _ _ _
  generalize swp d a p = d0 at x0 y hs0
  rw [ia1 a (by omega), is1 b (by omega) (by omega)]
  refine w_loop (fun z => (z.2 + 1 - z.1).toNat) (fun z h' => ∃ (i j : Nat) (e : Array Int), z = ((i : Int), (j : Int)) ∧ a < i ∧ i ≤ j + 2 ∧ j < b ∧ e.size = d.size ∧ BufI h' s e ∧ partEqLoop ltInt a i j e = partEqLoop ltInt a (a + 1) (b - 1) d0 ∧ Wrote s h h') ?_ ⟨a + 1, b - 1, d0, rfl, by omega, by omega, by omega, hs0, x0, rfl, w0⟩
  rintro rec _ h1 ⟨i, j, e, rfl, hi, hij, hj, he, x1, eq1, w1⟩ more
  refine w_loop (fun z => j + 1 - z.toNat) (fun z h' => h1 = h' ∧ ∃ i' : Nat, z = (i' : Int) ∧ i ≤ i' ∧ i' ≤ max i (j + 1) ∧ scanUp (fun x => !ltInt e[a]! x) e j i' = scanUp (fun x => !ltInt e[a]! x) e j i) ?_ ⟨rfl, i, rfl, Nat.le_refl _, Nat.le_max_left _ _, rfl⟩
  rintro rec2 _ _ ⟨rfl, k, rfl, hik, hkj, eqs⟩ more2
  refine w_joinV (decide (k ≤ j) && !ltInt e[a]! e[k]!) (fun c hc => w_if' (fun c2 => ?_) fun c2 => ?_) ?_
  · have c2 : (k : Int) ≤ (j : Int) := c2
    have c2 : k ≤ j := by omega
    refine rdB x1 (i := a) (i' := k) (by omega) (by omega) rfl rfl (w_less ?_)
    rw [decide_eq_true c2, Bool.true_and] at hc
    exact hc
  · have c2 : ¬ (k : Int) ≤ (j : Int) := c2
    have c2 : ¬ k ≤ j := by omega
    rw [decide_eq_false c2, Bool.false_and] at hc
    exact hc
  rw [scanUp] at eqs
  refine w_if (fun c2 => ?_) fun c2 => ?_
  · rw [if_pos c2] at eqs
    rw [Bool.and_eq_true, decide_eq_true_eq] at c2
    rw [ia1 k (by omega)]
    exact more2 _ _ ⟨rfl, k + 1, rfl, by omega, by omega, eqs⟩ (by simp only [Int.toNat_natCast]; omega)
  rw [if_neg (by rw [c2]; simp)] at eqs
  clear more2 rec2 c2
  rw [partEqLoop, ← eqs] at eq1
  refine w_loop (fun z => z.toNat) (fun z h' => h1 = h' ∧ ∃ j' : Nat, z = (j' : Int) ∧ j' ≤ j ∧ min j (k - 1) ≤ j' ∧ scanDown (fun x => ltInt e[a]! x) e k j' = scanDown (fun x => ltInt e[a]! x) e k j) ?_ ⟨rfl, j, rfl, Nat.le_refl _, Nat.min_le_left _ _, rfl⟩
  rintro rec3 _ _ ⟨rfl, l, rfl, hlj, hlk, eqd⟩ more3
  refine w_joinV (decide (k ≤ l) && ltInt e[a]! e[l]!) (fun c hc => w_if' (fun c2 => ?_) fun c2 => ?_) ?_
  · have c2 : k ≤ l := by omega
    refine rdB x1 (i := a) (i' := l) (by omega) (by omega) rfl rfl (w_less ?_)
    rw [decide_eq_true c2, Bool.true_and] at hc
    exact hc
  · have c2 : ¬ k ≤ l := by omega
    rw [decide_eq_false c2, Bool.false_and] at hc
    exact hc
  refine w_if (fun c2 => ?_) fun c2 => ?_
  · rw [Bool.and_eq_true, decide_eq_true_eq] at c2
    rw [scanDown_go (by omega) c2.1 c2.2] at eqd
    rw [is1 l (by omega) (by omega)]
    exact more3 _ _ ⟨rfl, l - 1, rfl, by omega, by omega, eqd⟩ (by omega)
  have c2 : ¬ (k ≤ l ∧ ltInt e[a]! e[l]! = true) := fun q => by rw [q.2, decide_eq_true q.1] at c2; cases c2
  rw [scanDown_stop c2] at eqd
  rw [← eqd] at eq1
  clear more3 rec3
  refine w_if' (fun c3 => ?_) fun c3 => ?_
  · have c3 : k > l := by omega
    rw [if_pos c3] at eq1
    rw [← eq1] at y
    exact y h1 x1 w1
  have c3 : ¬ k > l := by omega
  rw [if_neg c3, dif_pos (by omega)] at eq1
  refine w_swp x1 (i := k) (j := l) (by omega) (by omega) rfl rfl fun h2 x2 w2 => ?_
  rw [ia1 k (by omega), is1 l (by omega) (by omega)]
  exact more _ _ ⟨k + 1, l - 1, _, rfl, by omega, by omega, by omega, by rw [swp_size]; exact he, x2, eq1, w1.trans w2⟩ (by show (((l - 1 : Nat) : Int) + 1 - ((k + 1 : Nat) : Int)).toNat < ((j : Int) + 1 - (i : Int)).toNat; omega)
end
section
variable {h : H} {s : Sl} {d : Array Int}
theorem t_partition {a b p : Nat} (x : BufI h s d) (hap : a ≤ p) (hpb : p < b) (hb : b ≤ d.size) (hn : d.size ≤ 2 ^ 40) {K : Int × Bool → H → Prop}
    (y : ∀ h', BufI h' s (partition ltInt d a b p).2.2 → Wrote s h h' → K ((((partition ltInt d a b p).1 : Nat) : Int), (partition ltInt d a b p).2.1) h') : m_slices_partitionOrdered_int s (a : Int) (b : Int) (p : Int) K h := by
  unfold m_slices_partitionOrdered_int
  refine w_swp x (i := a) (j := p) (by omega) (by omega) rfl rfl fun h0 x0 w0 => ?_
  have hs0 : (swp d a p).size = d.size := swp_size _ _ _
  have hP : partition ltInt d a b p = (if scanUp (fun x => ltInt x (swp d a p)[a]!) (swp d a p) (b - 1) (a + 1) > scanDown (fun x => !ltInt x (swp d a p)[a]!) (swp d a p) (scanUp (fun x => ltInt x (swp d a p)[a]!) (swp d a p) (b - 1) (a + 1)) (b - 1) then
      (scanDown (fun x => !ltInt x (swp d a p)[a]!) (swp d a p) (scanUp (fun x => ltInt x (swp d a p)[a]!) (swp d a p) (b - 1) (a + 1)) (b - 1), true, swp (swp d a p) (scanDown (fun x => !ltInt x (swp d a p)[a]!) (swp d a p) (scanUp (fun x => ltInt x (swp d a p)[a]!) (swp d a p) (b - 1) (a + 1)) (b - 1)) a) else
      ((partLoop ltInt a (scanUp (fun x => ltInt x (swp d a p)[a]!) (swp d a p) (b - 1) (a + 1) + 1) (scanDown (fun x => !ltInt x (swp d a p)[a]!) (swp d a p) (scanUp (fun x => ltInt x (swp d a p)[a]!) (swp d a p) (b - 1) (a + 1)) (b - 1) - 1) (swp (swp d a p) (scanUp (fun x => ltInt x (swp d a p)[a]!) (swp d a p) (b - 1) (a + 1)) (scanDown (fun x => !ltInt x (swp d a p)[a]!) (swp d a p) (scanUp (fun x => ltInt x (swp d a p)[a]!) (swp d a p) (b - 1) (a + 1)) (b - 1)))).1, false,
        swp (partLoop ltInt a (scanUp (fun x => ltInt x (swp d a p)[a]!) (swp d a p) (b - 1) (a + 1) + 1) (scanDown (fun x => !ltInt x (swp d a p)[a]!) (swp d a p) (scanUp (fun x => ltInt x (swp d a p)[a]!) (swp d a p) (b - 1) (a + 1)) (b - 1) - 1) (swp (swp d a p) (scanUp (fun x => ltInt x (swp d a p)[a]!) (swp d a p) (b - 1) (a + 1)) (scanDown (fun x => !ltInt x (swp d a p)[a]!) (swp d a p) (scanUp (fun x => ltInt x (swp d a p)[a]!) (swp d a p) (b - 1) (a + 1)) (b - 1)))).2
          (partLoop ltInt a (scanUp (fun x => ltInt x (swp d a p)[a]!) (swp d a p) (b - 1) (a + 1) + 1) (scanDown (fun x => !ltInt x (swp d a p)[a]!) (swp d a p) (scanUp (fun x => ltInt x (swp d a p)[a]!) (swp d a p) (b - 1) (a + 1)) (b - 1) - 1) (swp (swp d a p) (scanUp (fun x => ltInt x (swp d a p)[a]!) (swp d a p) (b - 1) (a + 1)) (scanDown (fun x => !ltInt x (swp d a p)[a]!) (swp d a p) (scanUp (fun x => ltInt x (swp d a p)[a]!) (swp d a p) (b - 1) (a + 1)) (b - 1)))).1 a)) := rfl
  rw [hP] at y
  clear hP
  generalize swp d a p = d0 at x0 y hs0
  rw [ia1 a (by omega), is1 b (by omega) (by omega)]
  refine w_loop (fun z => b - z.toNat) (fun z h' => h0 = h' ∧ ∃ i : Nat, z = (i : Int) ∧ a + 1 ≤ i ∧ i ≤ b ∧ scanUp (fun x => ltInt x d0[a]!) d0 (b - 1) i = scanUp (fun x => ltInt x d0[a]!) d0 (b - 1) (a + 1)) ?_ ⟨rfl, a + 1, rfl, Nat.le_refl _, by omega, rfl⟩
  rintro rec _ _ ⟨rfl, k, rfl, hak, hkb, eqs⟩ more
  refine w_joinV (decide (k ≤ b - 1) && ltInt d0[k]! d0[a]!) (fun c hc => w_if' (fun c2 => ?_) fun c2 => ?_) ?_
  · have c2 : k ≤ b - 1 := by omega
    refine rdB x0 (i := k) (i' := a) (by omega) (by omega) rfl rfl (w_less ?_)
    rw [decide_eq_true c2, Bool.true_and] at hc
    exact hc
  · have c2 : ¬ k ≤ b - 1 := by omega
    rw [decide_eq_false c2, Bool.false_and] at hc
    exact hc
  rw [scanUp] at eqs
  refine w_if (fun c2 => ?_) fun c2 => ?_
  · rw [if_pos c2] at eqs
    rw [Bool.and_eq_true, decide_eq_true_eq] at c2
    rw [ia1 k (by omega)]
    exact more _ _ ⟨rfl, k + 1, rfl, by omega, by omega, eqs⟩ (by simp only [Int.toNat_natCast]; omega)
  rw [if_neg (by rw [c2]; simp)] at eqs
  rw [← eqs] at y
  clear more rec c2 eqs
  refine w_loop (fun z => z.toNat) (fun z h' => h0 = h' ∧ ∃ j : Nat, z = (j : Int) ∧ j ≤ b - 1 ∧ min (b - 1) (k - 1) ≤ j ∧ scanDown (fun x => !ltInt x d0[a]!) d0 k j = scanDown (fun x => !ltInt x d0[a]!) d0 k (b - 1)) ?_ ⟨rfl, b - 1, rfl, Nat.le_refl _, Nat.min_le_left _ _, rfl⟩
  rintro rec _ _ ⟨rfl, l, rfl, hlb, hlk, eqd⟩ more
  refine w_joinV (decide (k ≤ l) && !ltInt d0[l]! d0[a]!) (fun c hc => w_if' (fun c2 => ?_) fun c2 => ?_) ?_
  · have c2 : k ≤ l := by omega
    refine rdB x0 (i := l) (i' := a) (by omega) (by omega) rfl rfl (w_less ?_)
    rw [decide_eq_true c2, Bool.true_and] at hc
    exact hc
  · have c2 : ¬ k ≤ l := by omega
    rw [decide_eq_false c2, Bool.false_and] at hc
    exact hc
  refine w_if (fun c2 => ?_) fun c2 => ?_
  · rw [Bool.and_eq_true, decide_eq_true_eq] at c2
    rw [scanDown_go (by omega) c2.1 c2.2] at eqd
    rw [is1 l (by omega) (by omega)]
    exact more _ _ ⟨rfl, l - 1, rfl, by omega, by omega, eqd⟩ (by omega)
  have c2 : ¬ (k ≤ l ∧ (!ltInt d0[l]! d0[a]!) = true) := fun q => by rw [q.2, decide_eq_true q.1] at c2; cases c2
  rw [scanDown_stop c2] at eqd
  rw [← eqd] at y
  clear more rec eqd c2
  refine w_if' (fun c3 => ?_) fun c3 => ?_
  · have c3 : k > l := by omega
    rw [if_pos c3] at y
    refine w_swp x0 (i := l) (j := a) (by omega) (by omega) rfl rfl fun h2 x2 w2 => ?_
    exact y h2 x2 (w0.trans w2)
  have c3 : ¬ k > l := by omega
  rw [if_neg c3] at y
  refine w_swp x0 (i := k) (j := l) (by omega) (by omega) rfl rfl fun h2 x2 w2 => ?_
  have hs2 : (swp d0 k l).size = d.size := by rw [swp_size]; exact hs0
  have w02 := w0.trans w2
  generalize swp d0 k l = d2 at x2 y hs2
  clear x0 w0 w2 hs0
  rw [ia1 k (by omega), is1 l (by omega) (by omega)]
  refine w_loop (fun z => (z.2 + 1 - z.1).toNat) (fun z h' => ∃ (i j : Nat) (e : Array Int), z = ((i : Int), (j : Int)) ∧ a < i ∧ i ≤ j + 2 ∧ j < b ∧ a ≤ j ∧ e.size = d.size ∧ BufI h' s e ∧ partLoop ltInt a i j e = partLoop ltInt a (k + 1) (l - 1) d2 ∧ Wrote s h h') ?_ ⟨k + 1, l - 1, d2, rfl, by omega, by omega, by omega, by omega, hs2, x2, rfl, w02⟩
  rintro rec _ h1 ⟨i, j, e, rfl, hi, hij, hj, haj, he, x1, eq1, w1⟩ more
  refine w_loop (fun z => j + 1 - z.toNat) (fun z h' => h1 = h' ∧ ∃ i' : Nat, z = (i' : Int) ∧ i ≤ i' ∧ i' ≤ max i (j + 1) ∧ scanUp (fun x => ltInt x e[a]!) e j i' = scanUp (fun x => ltInt x e[a]!) e j i) ?_ ⟨rfl, i, rfl, Nat.le_refl _, Nat.le_max_left _ _, rfl⟩
  rintro rec2 _ _ ⟨rfl, k2, rfl, hik, hkj, eqs⟩ more2
  refine w_joinV (decide (k2 ≤ j) && ltInt e[k2]! e[a]!) (fun c hc => w_if' (fun c2 => ?_) fun c2 => ?_) ?_
  · have c2 : (k2 : Int) ≤ (j : Int) := c2
    have c2 : k2 ≤ j := by omega
    refine rdB x1 (i := k2) (i' := a) (by omega) (by omega) rfl rfl (w_less ?_)
    rw [decide_eq_true c2, Bool.true_and] at hc
    exact hc
  · have c2 : ¬ (k2 : Int) ≤ (j : Int) := c2
    have c2 : ¬ k2 ≤ j := by omega
    rw [decide_eq_false c2, Bool.false_and] at hc
    exact hc
  rw [scanUp] at eqs
  refine w_if (fun c2 => ?_) fun c2 => ?_
  · rw [if_pos c2] at eqs
    rw [Bool.and_eq_true, decide_eq_true_eq] at c2
    rw [ia1 k2 (by omega)]
    exact more2 _ _ ⟨rfl, k2 + 1, rfl, by omega, by omega, eqs⟩ (by simp only [Int.toNat_natCast]; omega)
  rw [if_neg (by rw [c2]; simp)] at eqs
  clear more2 rec2 c2
  rw [partLoop, ← eqs] at eq1
  refine w_loop (fun z => z.toNat) (fun z h' => h1 = h' ∧ ∃ j' : Nat, z = (j' : Int) ∧ j' ≤ j ∧ min j (k2 - 1) ≤ j' ∧ scanDown (fun x => !ltInt x e[a]!) e k2 j' = scanDown (fun x => !ltInt x e[a]!) e k2 j) ?_ ⟨rfl, j, rfl, Nat.le_refl _, Nat.min_le_left _ _, rfl⟩
  rintro rec3 _ _ ⟨rfl, l2, rfl, hlj, hlk2, eqd⟩ more3
  refine w_joinV (decide (k2 ≤ l2) && !ltInt e[l2]! e[a]!) (fun c hc => w_if' (fun c2 => ?_) fun c2 => ?_) ?_
  · have c2 : k2 ≤ l2 := by omega
    refine rdB x1 (i := l2) (i' := a) (by omega) (by omega) rfl rfl (w_less ?_)
    rw [decide_eq_true c2, Bool.true_and] at hc
    exact hc
  · have c2 : ¬ k2 ≤ l2 := by omega
    rw [decide_eq_false c2, Bool.false_and] at hc
    exact hc
  refine w_if (fun c2 => ?_) fun c2 => ?_
  · rw [Bool.and_eq_true, decide_eq_true_eq] at c2
    rw [scanDown_go (by omega) c2.1 c2.2] at eqd
    rw [is1 l2 (by omega) (by omega)]
    exact more3 _ _ ⟨rfl, l2 - 1, rfl, by omega, by omega, eqd⟩ (by omega)
  have c2 : ¬ (k2 ≤ l2 ∧ (!ltInt e[l2]! e[a]!) = true) := fun q => by rw [q.2, decide_eq_true q.1] at c2; cases c2
  rw [scanDown_stop c2] at eqd
  rw [← eqd] at eq1
  clear more3 rec3
  refine w_if' (fun c3 => ?_) fun c3 => ?_
  · have c3 : k2 > l2 := by omega
    rw [if_pos c3] at eq1
    rw [← eq1] at y
    refine w_swp x1 (i := l2) (j := a) (by omega) (by omega) rfl rfl fun h2 x2 w2 => ?_
    exact y h2 x2 (w1.trans w2)
  have c3 : ¬ k2 > l2 := by omega
  rw [if_neg c3, dif_pos (by omega)] at eq1
  refine w_swp x1 (i := k2) (j := l2) (by omega) (by omega) rfl rfl fun h2 x2 w2 => ?_
  rw [ia1 k2 (by omega), is1 l2 (by omega) (by omega)]
  exact more _ _ ⟨k2 + 1, l2 - 1, _, rfl, by omega, by omega, by omega, by omega, by rw [swp_size]; exact he, x2, eq1, w1.trans w2⟩ (by show (((l2 - 1 : Nat) : Int) + 1 - ((k2 + 1 : Nat) : Int)).toNat < ((j : Int) + 1 - (i : Int)).toNat; omega)
end
theorem bitsLen_shift {x k : Nat} (h : 2 ^ k ≤ x) : bitsLen x = bitsLen (x / 2 ^ k) + k := by
  have key : ∀ m, k ≤ m → (x < 2 ^ m ↔ x / 2 ^ k < 2 ^ (m - k)) := fun m hm => by
    rw [Nat.div_lt_iff_lt_mul (Nat.two_pow_pos k), ← Nat.pow_add, Nat.sub_add_cancel hm]
  apply Nat.le_antisymm
  · rw [bitsLen_le_iff, key _ (by omega), Nat.add_sub_cancel]
    exact lt_two_pow_bitsLen _
  · have hk : k ≤ bitsLen x := by
      rcases Nat.lt_or_ge (bitsLen x) k with q | q
      · have h1 := lt_two_pow_bitsLen x
        have h2 : 2 ^ bitsLen x ≤ 2 ^ k := Nat.pow_le_pow_right (by decide) (by omega)
        omega
      · exact q
    have : bitsLen (x / 2 ^ k) ≤ bitsLen x - k := by
      rw [bitsLen_le_iff, ← key _ hk]
      exact lt_two_pow_bitsLen _
    omega
theorem wrap_u8 (x : Int) : IntKind.u8.wrap x = x % 256 := by
  unfold IntKind.wrap
  simp [IntKind.bits, IntKind.signed]
def tabOK (s : ByteArray) : Bool := (List.range 256).all fun x => s.data.toList[x]? == some (UInt8.ofNat (bitsLen x))
theorem bitsLen8 {x : Nat} (h : x < 256) : bitsLen x ≤ 8 := (bitsLen_le_iff x 8).2 h
section
variable {h : H}
theorem w_tab {s : ByteArray} (ht : tabOK s = true) {x : Nat} (hx : x < 256) {k : Int → H → Prop} (y : k ((bitsLen x : Nat) : Int) h) : mByte s (x : Int) k h := by
  unfold tabOK at ht
  rw [List.all_eq_true] at ht
  have := ht x (List.mem_range.2 hx)
  rw [beq_iff_eq] at this
  have hlt := lt_of_get this
  rw [List.getElem?_eq_getElem hlt] at this
  have e := Option.some.inj this
  have hs : x < s.size := by simpa using hlt
  have hb : (UInt8.ofNat (bitsLen x)).toNat = bitsLen x := by
    have := bitsLen8 hx
    rw [UInt8.toNat_ofNat']; exact Nat.mod_eq_of_lt (by omega)
  refine ⟨((UInt8.ofNat (bitsLen x)).toNat : Nat), ⟨UInt8.ofNat (bitsLen x), by omega, ?_, rfl⟩, by rw [hb]; exact y⟩
  rw [Int.toNat_natCast, ← e]
  show s.data[x]? = _
  rw [← Array.getElem?_toList, List.getElem?_eq_getElem hlt]
set_option maxRecDepth 100000 in
theorem t_Len64 {x : Nat} (hx : x < 2 ^ 64) {K : Int → H → Prop} (y : K ((bitsLen x : Nat) : Int) h) : m_math_bits_Len64 (x : Int) K h := by
  unfold m_math_bits_Len64
  refine w_joinP (fun z h' => h = h' ∧ ∃ (u n : Nat), z = ((u : Int), (n : Int)) ∧ u < 2 ^ 32 ∧ n ≤ 32 ∧ bitsLen x = bitsLen u + n) (fun j hj => w_if' (fun c => ?_) fun c => ?_) ?_
  · have e : iShr .u64 (x : Int) 32 = ((x / 2 ^ 32 : Nat) : Int) := u_shr (n := 32) (by omega)
    rw [e]
    exact hj _ _ ⟨rfl, x / 2 ^ 32, 32, rfl, by omega, by omega, bitsLen_shift (by omega)⟩
  · exact hj _ _ ⟨rfl, x, 0, rfl, by omega, by omega, rfl⟩
  rintro _ _ ⟨rfl, u, n, rfl, hu, hn, e1⟩
  refine w_joinP (fun z h' => h = h' ∧ ∃ (v m : Nat), z = ((v : Int), (m : Int)) ∧ v < 2 ^ 16 ∧ m ≤ 48 ∧ bitsLen x = bitsLen v + m) (fun j hj => w_if' (fun c => ?_) fun c => ?_) ?_
  · have c : (65536 : Int) ≤ (u : Int) := c
    have e : iShr .u64 (u : Int) 16 = ((u / 2 ^ 16 : Nat) : Int) := u_shr (n := 16) (by omega)
    have a : iAdd .i64 (n : Int) 16 = ((n + 16 : Nat) : Int) := ia n 16 (by omega)
    show j (iShr .u64 (u : Int) 16, iAdd .i64 (n : Int) 16) h
    rw [e, a]
    exact hj _ _ ⟨rfl, u / 2 ^ 16, n + 16, rfl, by omega, by omega, by rw [e1, bitsLen_shift (x := u) (k := 16) (by omega)]; omega⟩
  · have c : ¬ (65536 : Int) ≤ (u : Int) := c
    exact hj _ _ ⟨rfl, u, n, rfl, by omega, by omega, e1⟩
  rintro _ _ ⟨rfl, v, m, rfl, hv, hm, e2⟩
  refine w_joinP (fun z h' => h = h' ∧ ∃ (w q : Nat), z = ((w : Int), (q : Int)) ∧ w < 2 ^ 8 ∧ q ≤ 56 ∧ bitsLen x = bitsLen w + q) (fun j hj => w_if' (fun c => ?_) fun c => ?_) ?_
  · have c : (256 : Int) ≤ (v : Int) := c
    have e : iShr .u64 (v : Int) 8 = ((v / 2 ^ 8 : Nat) : Int) := u_shr (n := 8) (by omega)
    have a : iAdd .i64 (m : Int) 8 = ((m + 8 : Nat) : Int) := ia m 8 (by omega)
    show j (iShr .u64 (v : Int) 8, iAdd .i64 (m : Int) 8) h
    rw [e, a]
    exact hj _ _ ⟨rfl, v / 2 ^ 8, m + 8, rfl, by omega, by omega, by rw [e2, bitsLen_shift (x := v) (k := 8) (by omega)]; omega⟩
  · have c : ¬ (256 : Int) ≤ (v : Int) := c
    exact hj _ _ ⟨rfl, v, m, rfl, by omega, by omega, e2⟩
  rintro _ _ ⟨rfl, w, q, rfl, hw, hq, e3⟩
  have hl := bitsLen8 (x := w) hw
  have e4 : IntKind.wrap .i64 ((bitsLen w : Nat) : Int) = ((bitsLen w : Nat) : Int) := i64_eq (by omega) (by omega)
  have fin : ∀ tb : ByteArray, tabOK tb = true → mByte tb (w : Int) (fun x7 => K (iAdd .i64 (q : Int) (IntKind.wrap .i64 x7))) h := fun tb ht => w_tab ht hw (by
    rw [e4, ia q (bitsLen w) (by omega)]
    rw [e3, Nat.add_comm] at y
    exact y)
  have e5 : IntKind.wrap .u8 (w : Int) = (w : Int) := by
    rw [wrap_u8]; omega
  show mByte _ (IntKind.wrap .u8 (w : Int)) (fun x7 => K (iAdd .i64 (q : Int) (IntKind.wrap .i64 x7))) h
  rw [e5]
  exact fin _ (by kernel_rfl)
theorem w_Len {x : Nat} (hx : x < 2 ^ 62) {K : Int → H → Prop} (y : K ((bitsLen x : Nat) : Int) h) : mPure (m_math_bits_Len (IntKind.wrap .u64 (x : Int))) K h := by
  refine w_pure ((bitsLen x : Nat) : Int) (fun h' k' q => ?_) y
  unfold m_math_bits_Len
  rw [u_wrap (by omega)]
  exact w_pure ((bitsLen x : Nat) : Int) (fun h'' k'' q' => t_Len64 (by omega) q') q
def CellU (c0 : Nat) (h : H) : Prop := ∃ (v : Int) (t : TypeId), h c0 = some (.cells #[Value.int .u64 v] t (0, 0))
theorem t_xor {c0 : Nat} (hc : CellU c0 h) {K : Int → H → Prop} (y : ∀ (r : Nat) h', r < 2 ^ 64 → CellU c0 h' → But (· = c0) h h' → (∀ c, h' c = none → h c = none) → K (r : Int) h') : m_slices_xorshift_Next (some ⟨c0, 0, none⟩) K h := by
  unfold m_slices_xorshift_Next
  obtain ⟨v, t, hv⟩ := hc
  have rd : ∀ {g : H} {u : Int}, g c0 = some (.cells #[Value.int .u64 u] t (0, 0)) → At g ⟨c0, 0, none⟩ (cInt .u64 u) := fun e => At.own (l1 := []) (l3 := []) e rfl
  refine w_deref (w_deref (w_load (rd hv) (w_load (rd hv) (w_deref (w_store (l1 := []) (l2 := cInt .u64 v) (l3 := []) rfl hv rfl rfl ?_)))))
  refine w_deref (w_deref (w_load (rd (upd_same _ _ _)) (w_load (rd (upd_same _ _ _)) (w_deref (w_store (l1 := []) (l2 := cInt .u64 _) (l3 := []) rfl (upd_same _ _ _) rfl rfl ?_)))))
  refine w_deref (w_deref (w_load (rd (upd_same _ _ _)) (w_load (rd (upd_same _ _ _)) (w_deref (w_store (l1 := []) (l2 := cInt .u64 _) (l3 := []) rfl (upd_same _ _ _) rfl rfl ?_)))))
  refine w_deref (w_load (rd (upd_same _ _ _)) ?_)
  rw [upd_upd, upd_upd]
  have rng : ∀ z w : Int, ∃ r : Nat, iXor .u64 z w = (r : Int) ∧ r < 2 ^ 64 := fun z w => by
    unfold iXor
    rw [wrap_u64]
    exact ⟨(((BitVec.ofInt IntKind.u64.bits z ^^^ BitVec.ofInt IntKind.u64.bits w).toNat : Int) % 18446744073709551616).toNat, by omega, by omega⟩
  suffices z : ∀ A B : Int, K (iXor .u64 A B) (upd h c0 (.cells ([] ++ [Value.int .u64 (iXor .u64 A B)] ++ []).toArray t (0, 0))) from z _ _
  intro A B
  obtain ⟨r, hr, hlt⟩ := rng A B
  rw [hr]
  exact y r _ hlt ⟨r, t, upd_same _ _ _⟩ (But.upd rfl) fun c e => (upd_none.1 e).2
variable {s : Sl} {d : Array Int}
theorem t_breakPatterns {a b : Nat} (x : BufI h s d) (hab : a ≤ b) (hb : b ≤ d.size) (hn : d.size ≤ 2 ^ 40) {K : Unit → H → Prop} (y : ∀ e h', PermIn a b d e → BufI h' s e → Wrote s h h' → K () h') : m_slices_breakPatternsOrdered_int s (a : Int) (b : Int) K h := by
  unfold m_slices_breakPatternsOrdered_int
  rw [is_ b a (by omega) hab]
  refine w_if' (fun c => ?_) fun c => y d h (permIn_refl d a b) x (.refl _ _)
  have c : 8 ≤ b - a := by omega
  refine w_newQ (fun c0 h0 => (∃ t, h0 c0 = some (.cells ([] ++ cInt .u64 0 ++ []).toArray t (0, 0))) ∧ Keeps h h0) (fun c0 hc0 => ⟨⟨_, upd_same _ _ _⟩, .new hc0⟩) fun c0 h0 hc0 ⟨⟨t, hv⟩, k0⟩ => ?_
  have nf : ¬ s.foot c0 := fun f => by
    obtain ⟨A, hA, e⟩ := f
    rcases x.at_ with ⟨q, _⟩ | ⟨B, z, fz, q, hB, _⟩
    · rw [q] at hA; cases hA
    · rw [q] at hA; cases hA; subst e; rw [hc0] at hB; cases hB
  refine w_store (l1 := []) (l2 := cInt .u64 0) (l3 := []) rfl hv rfl rfl ?_
  have x1 : BufI (upd h0 c0 (.cells ([] ++ [Value.int .u64 (IntKind.wrap .u64 ((b - a : Nat) : Int))] ++ []).toArray t (0, 0))) s d := (x.keep k0).but (But.upd (F := (· = c0)) rfl) fun A hA e => nf ⟨A, hA, e⟩
  have w1 : Wrote s h (upd h0 c0 (.cells ([] ++ [Value.int .u64 (IntKind.wrap .u64 ((b - a : Nat) : Int))] ++ []).toArray t (0, 0))) := ⟨.of (k0.but (But.upd (F := (· = c0)) rfl) fun n e => by subst e; exact hc0), fun c e => k0.fresh (upd_none.1 e).2⟩
  have cl1 : CellU c0 (upd h0 c0 (.cells ([] ++ [Value.int .u64 (IntKind.wrap .u64 ((b - a : Nat) : Int))] ++ []).toArray t (0, 0))) := ⟨_, t, upd_same _ _ _⟩
  generalize upd h0 c0 (.cells ([] ++ [Value.int .u64 (IntKind.wrap .u64 ((b - a : Nat) : Int))] ++ []).toArray t (0, 0)) = h1 at x1 w1 cl1 ⊢
  have hl8 : bitsLen (b - a) < 62 := Nat.lt_succ_of_le ((bitsLen_le_iff _ 61).2 (by omega))
  have hp := two_pow_bitsLen_le (n := b - a) (by omega)
  generalize hL : bitsLen (b - a) = L at hl8 hp
  refine w_pure (iShl .u64 1 (L : Int)) (fun h' k' q => ?_) ?_
  · unfold m_slices_nextPowerOfTwo
    refine w_Len (by omega) ?_
    rw [hL]
    exact w_nn (by omega) q
  have q4 : (b - a) / 4 ≤ b - a := Nat.div_le_self _ _
  have q4' : 4 * ((b - a) / 4) ≤ b - a := Nat.mul_div_le _ _
  have q48 : 2 ≤ (b - a) / 4 := by omega
  have e4 : iQuo .i64 ((b - a : Nat) : Int) 4 = (((b - a) / 4 : Nat) : Int) := iq (b - a) 4 (by omega)
  generalize (b - a) / 4 = q at q4 q4' q48 e4
  have m2 : iMul .i64 (q : Int) 2 = ((q * 2 : Nat) : Int) := (i64_eq (x := (q : Int) * 2) (by omega) (by omega)).trans (by omega)
  rw [e4, m2, ia a (q * 2) (by omega), is1 (a + q * 2) (by omega) (by omega), ia1 (a + q * 2) (by omega)]
  refine w_loop (fun z => a + q * 2 + 2 - z.toNat) (fun z h' => ∃ (i : Nat) (e : Array Int), z = (i : Int) ∧ a + q * 2 ≤ i + 1 ∧ i ≤ a + q * 2 + 2 ∧ PermIn a b d e ∧ BufI h' s e ∧ CellU c0 h' ∧ Wrote s h h') ?_ ⟨a + q * 2 - 1, d, rfl, by omega, by omega, permIn_refl d a b, x1, cl1, w1⟩
  rintro rec _ h2 ⟨i, e, rfl, hi1, hi2, pe, x2, cl2, w2⟩ more
  refine w_if' (fun c2 => ?_) fun c2 => y e h2 pe x2 w2
  have c2 : i ≤ a + q * 2 + 1 := by omega
  refine t_xor cl2 fun r h3 hr cl3 b3 d3 => ?_
  have x3 : BufI h3 s e := x2.but b3 fun A hA z => nf ⟨A, hA, z⟩
  have w3 : Wrote s h h3 := ⟨w2.but.trans b3 fun n z => .inr (by subst z; exact hc0), fun c z => w2.dom c (d3 c z)⟩
  rw [u_low hr (by omega)]
  have hm : r % 2 ^ L < 2 ^ L := Nat.mod_lt _ (Nat.two_pow_pos _)
  generalize r % 2 ^ L = m at hm
  have wm : IntKind.wrap .i64 (m : Int) = (m : Int) := i64_eq (by omega) (by omega)
  rw [wm]
  refine w_joinP (fun z h' => h3 = h' ∧ ∃ m' : Nat, z = (m' : Int) ∧ m' < b - a) (fun j hj => w_if' (fun c3 => ?_) fun c3 => ?_) ?_
  · rw [is_ m (b - a) (by omega) (by omega)]
    exact hj _ _ ⟨rfl, m - (b - a), rfl, by omega⟩
  · exact hj _ _ ⟨rfl, m, rfl, by omega⟩
  rintro _ _ ⟨rfl, m', rfl, hm'⟩
  have es : e.size = d.size := pe.1
  have em := ia a m' (by omega)
  rw [em]
  refine w_swp x3 (i := i) (j := a + m') (by omega) (by omega) rfl rfl fun h4 x4 w4 => ?_
  rw [ia1 i (by omega)]
  have cl4 : CellU c0 h4 := by
    obtain ⟨v, t, e⟩ := cl3
    exact ⟨v, t, w4.but _ _ e nf⟩
  exact more _ _ ⟨i + 1, _, rfl, by omega, by omega, permIn_trans _ _ _ a b pe (swp_permIn e a b i (a + m') (by omega) (by omega) (by omega) (by omega) (by omega)), x4, cl4, w3.trans w4⟩ (by simp only [Int.toNat_natCast]; omega)
theorem t_pdq_n : ∀ (n : Nat) {h : H} {d : Array Int} {a b : Nat}, b - a < n → BufI h s d → a ≤ b → b ≤ d.size → d.size ≤ 2 ^ 40 → Go.Sort.Below ltInt a b d → ∀ {limit : Int} {K : Unit → H → Prop},
    (∀ e h', PermIn a b d e → SortedIn ltInt a b e → BufI h' s e → Wrote s h h' → K () h') → m_slices_pdqsortOrdered_int_n n s (a : Int) (b : Int) limit K h := by
  intro n
  induction n with
  | zero => intro h d a b hn; omega
  | succ n ih =>
    intro h d a0 b0 hn x hab0 hb0 hsz hB0 limit K y
    show m_slices_pdqsortOrdered_int_s (m_slices_pdqsortOrdered_int_n n) s (a0 : Int) (b0 : Int) limit K h
    unfold m_slices_pdqsortOrdered_int_s
    refine w_loop (fun z => (z.2.1 - z.1).toNat) (fun z h' => ∃ (a b : Nat) (lim : Int) (wb wp : Bool) (e : Array Int), z = ((a : Int), (b : Int), lim, wb, wp) ∧ a ≤ b ∧ b - a ≤ b0 - a0 ∧ b ≤ e.size ∧ e.size = d.size ∧ Go.Sort.Below ltInt a b e ∧ BufI h' s e ∧ Wrote s h h' ∧ ∀ R, PermIn a b e R → SortedIn ltInt a b R → PermIn a0 b0 d R ∧ SortedIn ltInt a0 b0 R) ?_
      ⟨a0, b0, limit, true, true, d, rfl, hab0, Nat.le_refl _, hb0, rfl, hB0, x, .refl _ _, fun R h1 h2 => ⟨h1, h2⟩⟩
    clear x hab0 hb0 hB0
    rintro rec _ h1 ⟨a, b, lim, wb, wp, e, rfl, hab, hlen, hb, he, hB, x1, w1, fin⟩ more
    have fin' : ∀ (R : Array Int) (h' : H), PermIn a b e R → SortedIn ltInt a b R → BufI h' s R → Wrote s h h' → K () h' := fun R h' p q r w => y R h' (fin R p q).1 (fin R p q).2 r w
    show mIf (decide ((iSub .i64 (b : Int) (a : Int)) ≤ 12)) _ _ h1
    rw [is_ b a (by omega) hab]
    refine w_if' (fun c => ?_) fun c => ?_
    · refine t_insertion x1 hb (by omega) (fun h2 x2 w2 => ?_) hab
      have := insertionSort_holds swo_ltInt e a b hab hb
      exact fin' _ h2 this.1 this.2 x2 (w1.trans w2)
    have c : 12 < b - a := by omega
    refine w_if' (fun c2 => ?_) fun c2 => ?_
    · refine t_heapSort x1 hab hb (by omega) fun h2 x2 w2 => ?_
      have := heapSort_holds swo_ltInt e a b hab hb
      exact fin' _ h2 this.1 this.2 x2 (w1.trans w2)
    refine w_joinP (fun _ h' => ∃ e1, PermIn a b e e1 ∧ BufI h' s e1 ∧ Wrote s h h') (fun j hj => w_if (fun c3 => ?_) fun c3 => ?_) ?_
    · refine t_breakPatterns x1 hab hb (by omega) fun e1 h2 p1 x2 w2 => ?_
      exact hj _ _ ⟨e1, p1, x2, w1.trans w2⟩
    · exact hj _ _ ⟨e, permIn_refl e a b, x1, w1⟩
    rintro lim2 h2 ⟨e1, p1, x2, w2⟩
    refine t_choosePivot x2 (by omega) (by rw [p1.1]; exact hb) (by rw [p1.1]; omega) fun p hint h3 hp1 hp2 x3 k3 => ?_
    have w3 : Wrote s h h3 := ⟨w2.but.trans (.of k3) fun _ f => .inl f, fun c z => w2.dom c (k3.fresh z)⟩
    refine w_joinP (fun z h' => ∃ (p' : Nat) (t : Int) (e2 : Array Int), z = ((p' : Int), t) ∧ a ≤ p' ∧ p' < b ∧ PermIn a b e e2 ∧ BufI h' s e2 ∧ Wrote s h h') (fun j hj => w_if' (fun c3 => ?_) fun c3 => ?_) ?_
    · refine t_reverse x3 (by omega) (by rw [p1.1]; exact hb) (by rw [p1.1]; omega) fun h4 x4 w4 => ?_
      have hp1' : (a : Int) ≤ (p : Int) := by omega
      show j (iSub .i64 (iSub .i64 (b : Int) 1) (iSub .i64 (p : Int) (a : Int)), 1) h4
      rw [is1 b (by omega) (by omega), is_ p a (by omega) hp1, is_ (b - 1) (p - a) (by omega) (by omega)]
      exact hj _ _ ⟨b - 1 - (p - a), 1, _, rfl, by omega, by omega, permIn_trans _ _ _ a b p1 (reverseRange_holds e1 a b hab (by rw [p1.1]; exact hb)), x4, w3.trans w4⟩
    · exact hj _ _ ⟨p, hint, e1, rfl, hp1, hp2, p1, x3, w3⟩
    clear x3 x2 w2 w3 p1 k3 hp1 hp2 x1 w1
    rintro _ h4 ⟨p', t, e2, rfl, hp1, hp2, p2, x4, w4⟩
    refine w_joinP (fun _ h' => ∃ e3, PermIn a b e e3 ∧ BufI h' s e3 ∧ Wrote s h h') (fun j hj => w_if (fun c3 => ?_) fun c3 => ?_) ?_
    · refine t_partialIns x4 (by omega) (by rw [p2.1]; exact hb) (by rw [p2.1]; omega) fun h5 x5 w5 => ?_
      have q := partialInsertionSort_holds swo_ltInt e2 a b (by omega) (by rw [p2.1]; exact hb) (hB.perm hb p2)
      refine w_if (fun c4 => ?_) fun c4 => ?_
      · exact fin' _ h5 (permIn_trans _ _ _ a b p2 q.1) (q.2 c4) x5 (w4.trans w5)
      · exact hj () h5 ⟨_, permIn_trans _ _ _ a b p2 q.1, x5, w4.trans w5⟩
    · exact hj () h4 ⟨e2, p2, x4, w4⟩
    clear x4 w4 p2
    rintro _ h5 ⟨e3, p3, x5, w5⟩
    have hb3 : b ≤ e3.size := by rw [p3.1]; exact hb
    have hB3 := hB.perm hb p3
    have hs3 : e3.size = d.size := by rw [p3.1]; exact he
    refine w_joinP (fun z h' => h5 = h' ∧ (z = true → 0 < a ∧ ltInt e3[a - 1]! e3[p']! = false)) (fun j hj => w_if' (fun c3 => ?_) fun c3 => ?_) ?_
    · have c3 : 0 < a := by have c3 : (0 : Int) < (a : Int) := c3; omega
      show mIdx s (iSub .i64 (a : Int) 1) 1 _ h5
      rw [is1 a (by omega) c3]
      refine rdB x5 (i := a - 1) (i' := p') (by omega) (by omega) rfl rfl (w_less ?_)
      exact hj _ _ ⟨rfl, fun q => ⟨c3, by rwa [Bool.not_eq_true'] at q⟩⟩
    · exact hj _ _ ⟨rfl, fun q => by cases q⟩
    rintro z _ ⟨rfl, hz⟩
    refine w_if (fun c3 => ?_) fun c3 => ?_
    · obtain ⟨ha0, hnl⟩ := hz c3
      refine t_partEq x5 hp1 hp2 hb3 (by omega) fun h6 x6 w6 => ?_
      obtain ⟨r1, r2, r3, r4, r5⟩ := round_eq swo_ltInt (partitionEqual_holds ltInt) (mid := (partitionEqual ltInt e3 a b p').1) (d4 := (partitionEqual ltInt e3 a b p').2) ha0 hp1 hp2 hb3 hB3 hnl rfl
      refine more _ _ ⟨(partitionEqual ltInt e3 a b p').1, b, lim2, wb, wp, _, rfl, r2, by omega, by rw [r3]; exact hb3, by rw [r3]; exact hs3, r4, x6, w5.trans w6, fun R q1 q2 => ?_⟩ (by show ((b : Int) - (((partitionEqual ltInt e3 a b p').1 : Nat) : Int)).toNat < ((b : Int) - (a : Int)).toNat; omega)
      exact fin R (permIn_trans _ _ _ a b p3 (r5 R q1 q2).1) (r5 R q1 q2).2
    refine t_partition x5 hp1 hp2 hb3 (by omega) fun h6 x6 w6 => ?_
    obtain ⟨r1, r2, r3, r4, r5, r6, r7⟩ := round_part swo_ltInt (partition_holds ltInt) (mid := (partition ltInt e3 a b p').1) (ap := (partition ltInt e3 a b p').2.1) (d4 := (partition ltInt e3 a b p').2.2) hp1 hp2 hb3 hB3 rfl
    have w56 := w5.trans w6
    generalize (partition ltInt e3 a b p').1 = mid at r1 r2 r4 r5 r6 r7
    generalize (partition ltInt e3 a b p').2.1 = ap
    generalize (partition ltInt e3 a b p').2.2 = e4 at x6 r3 r4 r5 r6 r7
    show mIf (decide ((iSub .i64 (mid : Int) (a : Int)) < (iSub .i64 (b : Int) (mid : Int)))) _ _ h6
    rw [is_ mid a (by omega) r1, is_ b mid (by omega) (by omega)]
    refine w_if' (fun c4 => ?_) fun c4 => ?_
    · refine ih (d := e4) (a := a) (b := mid) (by omega) x6 r1 (by omega) (by omega) r4 fun e5 h7 q1 q2 x7 w7 => ?_
      obtain ⟨s1, s2⟩ := r6 e5 q1 q2
      show rec (iAdd .i64 (mid : Int) 1, (b : Int), lim2, _, ap) h7
      rw [ia1 mid (by omega)]
      refine more _ _ ⟨mid + 1, b, lim2, _, ap, e5, rfl, r2, by omega, by rw [q1.1, r3]; exact hb3, by rw [q1.1, r3]; exact hs3, s1, x7, w56.trans w7, fun R t1 t2 => ?_⟩ (by show ((b : Int) - ((mid + 1 : Nat) : Int)).toNat < ((b : Int) - (a : Int)).toNat; omega)
      exact fin R (permIn_trans _ _ _ a b p3 (s2 R t1 t2).1) (s2 R t1 t2).2
    · show m_slices_pdqsortOrdered_int_n n s (iAdd .i64 (mid : Int) 1) (b : Int) lim2 _ h6
      rw [ia1 mid (by omega)]
      refine ih (d := e4) (a := mid + 1) (b := b) (by omega) x6 r2 (by omega) (by omega) r5 fun e5 h7 q1 q2 x7 w7 => ?_
      obtain ⟨s1, s2⟩ := r7 e5 q1 q2
      refine more _ _ ⟨a, mid, lim2, _, ap, e5, rfl, r1, by omega, by rw [q1.1]; omega, by rw [q1.1, r3]; exact hs3, s1, x7, w56.trans w7, fun R t1 t2 => ?_⟩ (by show ((mid : Int) - (a : Int)).toNat < ((b : Int) - (a : Int)).toNat; omega)
      exact fin R (permIn_trans _ _ _ a b p3 (s2 R t1 t2).1) (s2 R t1 t2).2
theorem t_Sort {zs : List Int} (x : Buf (cInt .i64) 1 N_int h s zs) (hn : zs.length ≤ 2 ^ 40) {K : Unit → H → Prop} (y : ∀ h', Buf (cInt .i64) 1 N_int h' s (zs.mergeSort fun x y => decide (x ≤ y)) → Wrote s h h' → K () h') : m_slices_Sort_int_int s K h := by
  unfold m_slices_Sort_int_int
  have hl := x.len
  rw [hl]
  refine w_Len (by omega) ?_
  have x0 : BufI h s zs.toArray := x
  unfold m_slices_pdqsortOrdered_int
  refine ⟨zs.length + 1, t_pdq_n (zs.length + 1) (d := zs.toArray) (a := 0) (b := zs.length) (by omega) x0 (Nat.zero_le _) (by simp) (by simpa using hn) (.inl rfl) fun e h' p1 p2 x1 w1 => ?_⟩
  refine y h' ?_ w1
  have hsz : zs.length = zs.toArray.size := by simp
  rw [hsz] at p1 p2
  have h1 := sorted_unique_holds (lt := ltInt) swo_ltInt (fun x y h1 h2 => by
    unfold ltInt at h1 h2
    rw [decide_eq_false_iff_not] at h1 h2
    omega) zs.toArray e p1 p2
  have h2 : (fun x y : Int => !ltInt y x) = fun x y => decide (x ≤ y) := by
    funext x y
    unfold ltInt
    rw [Bool.eq_iff_iff]
    simp
  rw [h2] at h1
  have h1 : e.toList = zs.mergeSort fun x y => decide (x ≤ y) := h1
  rw [← h1]; exact x1
end
end Go.Proofs.YtbjkfllncegpcaaGreat.K
namespace Go.Proofs.YtbjkfllncegpcaaGreat.K
open Go
section
variable {h : H}
theorem t_keysO {b : Nat} {l : List (Int × Sl)} (x : MapOf (Value.int .i64) Sl.val h b l) (hn : l.length ≤ 2 ^ 20) {K : Sl → H → Prop} (y : ∀ s h', Buf (cInt .i64) 1 N_int h' s (isort (l.map (·.1))) → Keeps h h' → (∀ c, s.foot c → h c = none) → K s h') : m_maps_Keys_map_int_byte_int_byte (some b) (fun r => m_slices_Sorted_int r K) h := by
  unfold m_maps_Keys_map_int_byte_int_byte m_slices_Sorted_int m_slices_Collect_int m_slices_AppendSeq_int_int
  have hb0 : h b ≠ none := by obtain ⟨_, _, e, _⟩ := x; rw [e]; simp
  refine w_box fun b1 h1 f1 q1 k1 => w_box fun b2 h2 f2 q2 k2 => ?_
  have k12 := k1.trans k2
  refine ⟨77, Tryz.f77, #[], #[.pointer (some ⟨b1, 0, none⟩)], rfl, callee77, fun w ob bz hw law => ?_⟩
  have kw : Keeps h2 (upd h2 w (ob 0)) := .new hw
  suffices hm : m_maps_Keys_map_int_byte_int_byte_1 (⟨.func (.yield w) #[] #[], rfl, rfl⟩ : PV) ⟨b1, 0, none⟩ (fun _ h'' => ∃ j, h'' w = some (ob j) ∧ ∀ o, (fun (j5 : Nat) => mIf (Nat.beq j5 0) (mLoad cSl ⟨b2, 0, none⟩ fun x9 => m_slices_Sort_int_int x9 fun _ => K x9) nope) j (upd h'' w o)) (upd h2 w (ob 0)) from
    (s_maps_Keys_map_int_byte_int_byte_1.ok ((⟨.func (.yield w) #[] #[], rfl, rfl⟩ : PV), (⟨b1, 0, none⟩ : Addr)) (fun _ h'' => ∃ j, h'' w = some (ob j) ∧ ∀ o, (fun (j5 : Nat) => mIf (Nat.beq j5 0) (mLoad cSl ⟨b2, 0, none⟩ fun x9 => m_slices_Sort_int_int x9 fun _ => K x9) nope) j (upd h'' w o)) _ hm).mono (fun v h'' ⟨_, _, q⟩ => q) fun _ _ q => q
  have ww : upd h2 w (ob 0) w = some (ob 0) := upd_same _ _ _
  generalize upd h2 w (ob 0) = h3 at kw ww
  have k3 := k12.trans kw
  have hwh : h w = none := k12.fresh hw
  have q23 := kw _ _ q2
  have b2h : h b2 = none := k1.fresh f2
  have nwb2 : b2 ≠ w := fun e => by rw [e, hw] at q2; cases q2
  have nbw : b ≠ w := fun e => hb0 (e ▸ hwh)
  have nbb2 : b ≠ b2 := fun e => hb0 (e ▸ b2h)
  unfold m_maps_Keys_map_int_byte_int_byte_1
  refine w_load (v := some b) (cells := cMap) (at_box (cs := [Value.map (some b)]) (kw _ _ (k2 _ _ q1))) (w_range (x.keep k3) fun it h4 f4 it4 k4 => ?_)
  have nit : it.block ≠ b := fun e => by rw [e] at f4; exact hb0 (k3.fresh f4)
  have nitw : it.block ≠ w := fun e => by rw [e, ww] at f4; cases f4
  have nitb2 : it.block ≠ b2 := fun e => by rw [e, q23] at f4; cases f4
  have hith : h it.block = none := k3.fresh f4
  refine w_for l.length (fun j (_ : Unit) h' => ∃ rest at_ ks sn, IterOf (Value.int .i64) Sl.val h' it b l rest at_ ∧ rest.length + j = l.length ∧ ks.length = j ∧ (ks ++ rest.map (·.1)).Perm (l.map (·.1)) ∧ h' w = some (ob 0) ∧ h' b2 = some (.cells (cSl sn).toArray N_Sl_i64 (0, 0)) ∧ Buf (cInt .i64) 1 N_int h' sn ks ∧ (∀ c, sn.foot c → h c = none ∧ c ≠ w ∧ c ≠ it.block) ∧ Keeps h h') ?_
    ⟨l, none, [], Sl.nil, it4, rfl, rfl, .refl _, k4 _ _ ww, k4 _ _ q23, Buf.nil, fun c ⟨_, e, _⟩ => (by cases e), k3.trans k4⟩
  rintro rec j _ h5 hj ⟨rest, at_, ks, sn, it5, hl, hk, pk, w5, q5, bu5, fs5, k5⟩ more
  refine w_next it5 nit (fun e => w_ifF rfl ?_) fun q rest' h6 pm it6 b6 d6 => w_ifT rfl (w_entry it6 ?_)
  · subst e
    rw [List.map_nil, List.append_nil] at pk
    refine ⟨0, w5, fun o => w_ifT rfl ?_⟩
    have bo : But (· = w) h5 (upd h5 w o) := .upd rfl
    have q7 := bo _ _ q5 nwb2
    have bu7 := bu5.but bo fun ad ha e => (fs5 _ ⟨ad, ha, rfl⟩).2.1 e
    refine w_load (at_box q7) (t_Sort bu7 (by omega) fun h8 bu8 w8 => ?_)
    refine y sn h8 ?_ ((k5.but bo fun n e => by rw [e]; exact hwh).but w8.but fun n f => (fs5 n f).1) fun c g => (fs5 c g).1
    rw [show (ks.mergeSort fun x y => decide (x ≤ y)) = isort (l.map (·.1)) from isort_eq pk] at bu8
    exact bu8
  · have e2 := pm.length_eq
    simp only [List.length_cons] at e2
    have w6 := b6 _ _ w5 nitw.symm
    have q6 := b6 _ _ q5 nitb2.symm
    have bu6 := bu5.but b6 fun ad ha e => (fs5 _ ⟨ad, ha, rfl⟩).2.2 e
    have k6 : Keeps h h6 := k5.but b6 fun n e => by rw [e]; exact hith
    refine .inr ⟨w, rfl, law q.1 _ h6 w6 ⟨w6, ?_⟩⟩
    have bA : But (· = w) h6 (upd h6 w bz) := .upd rfl
    have wA : upd h6 w bz w = some bz := upd_same _ _ _
    have dA : ∀ c, upd h6 w bz c = none → h6 c = none := fun c e => (upd_none.1 e).2
    generalize upd h6 w bz = hA at bA wA dA
    have qA := bA _ _ q6 nwb2
    have buA := bu6.but bA fun ad ha e => (fs5 _ ⟨ad, ha, rfl⟩).2.1 e
    refine w_load (at_box qA) (w_box fun b7 h7 f7 q7 k7 => ?_)
    have one : Buf (cInt .i64) 1 N_int h7 ⟨some ⟨b7, 0, none⟩, 1, 1⟩ [q.1] := Buf.one ci_len q7
    refine w_append (by_ := 8) ci_len (fun _ => rfl) rfl (buA.keep k7) one.arr (.inl (by simp only [List.length_singleton]; omega)) fun s8 h8 bu8 b8 f8 d8 => ?_
    have q78 := b8 _ _ (k7 _ _ qA) fun g => (buA.typed g).ne (.of qA) (by decide) rfl
    have wB := b8 _ _ (k7 _ _ wA) fun g => (fs5 w g).2.1 rfl
    refine w_setBox q78 rfl fun h9 q9 b9 d9 => ?_
    have wC := b9 _ _ wB nwb2.symm
    refine ⟨wC, w_ifF rfl ?_⟩
    have bZ : But (· = w) h9 (upd h9 w (ob 0)) := .upd rfl
    have bE : But (fun c => c = w ∨ c = b2 ∨ sn.foot c) h6 (upd h9 w (ob 0)) := (((bA.mono fun c e => Or.inl e).trans (((But.of (F := fun c => c = w ∨ c = b2 ∨ sn.foot c) k7).trans b8 fun c g => .inl (.inr (.inr g))).trans b9 fun c e => .inl (.inr (.inl e))) fun c g => .inl g).trans bZ fun c e => .inl (.inl e))
    have f8' : ∀ c, s8.foot c → sn.foot c ∨ hA c = none := fun c g => (f8 c g).imp id fun z => k7.fresh z
    have nit6 : h6 it.block ≠ none := by obtain ⟨_, _, _, _, e, _⟩ := it6.ex; rw [e]; simp
    have fZ : ∀ c, s8.foot c → h c = none ∧ c ≠ w ∧ c ≠ it.block := fun c g => by
      rcases f8' c g with z | z
      · exact fs5 c z
      · exact ⟨k6.fresh (dA c z), fun e => (by rw [e, wA] at z; cases z), fun e => nit6 (dA _ (e ▸ z))⟩
    have bu9 := bu8.but b9 fun ad ha e => (bu8.typed ⟨ad, ha, rfl⟩).ne (.of q78) (by decide) e
    refine more _ _ (by omega) ⟨rest', some q, ks ++ [q.1], s8, it6.but bE (fun g => ?_) (fun g => ?_), by omega, by rw [List.length_append, hk]; rfl, ?_, upd_same _ _ _, bZ _ _ q9 nwb2, bu9.but bZ fun ad ha e => (fZ _ ⟨ad, ha, rfl⟩).2.1 e, fZ, k6.but bE fun c g => ?_⟩
    · rcases g with g | g | g
      · exact nitw g
      · exact nitb2 g
      · exact (fs5 _ g).2.2 rfl
    · rcases g with g | g | g
      · exact nbw g
      · exact nbb2 g
      · exact hb0 (fs5 _ g).1
    · refine List.Perm.trans ?_ pk
      rw [List.append_assoc]
      exact List.Perm.append_left ks (show ([q.1] ++ rest'.map (·.1)).Perm (rest.map (·.1)) from (pm.map Prod.fst).symm)
    · rcases g with rfl | rfl | g
      · exact hwh
      · exact b2h
      · exact (fs5 _ g).1
theorem t_keysL {b : Nat} {l : List (Int × Sl)} (x : MapOf (Value.int .i64) Sl.val h b l) (hn : l.length ≤ 2 ^ 20) {K : Sl → H → Prop} (y : ∀ s h', Buf (cInt .i64) 1 N_int h' s (isort (l.map (·.1))) → Keeps h h' → (∀ c, s.foot c → h c = none) → K s h') : m_maps_Keys_map_int_api_Cap_int_api_Cap (some b) (fun r => m_slices_Sorted_int r K) h := by
  unfold m_maps_Keys_map_int_api_Cap_int_api_Cap m_slices_Sorted_int m_slices_Collect_int m_slices_AppendSeq_int_int
  have hb0 : h b ≠ none := by obtain ⟨_, _, e, _⟩ := x; rw [e]; simp
  refine w_box fun b1 h1 f1 q1 k1 => w_box fun b2 h2 f2 q2 k2 => ?_
  have k12 := k1.trans k2
  refine ⟨78, Tryz.f78, #[], #[.pointer (some ⟨b1, 0, none⟩)], rfl, callee78, fun w ob bz hw law => ?_⟩
  have kw : Keeps h2 (upd h2 w (ob 0)) := .new hw
  suffices hm : m_maps_Keys_map_int_api_Cap_int_api_Cap_1 (⟨.func (.yield w) #[] #[], rfl, rfl⟩ : PV) ⟨b1, 0, none⟩ (fun _ h'' => ∃ j, h'' w = some (ob j) ∧ ∀ o, (fun (j5 : Nat) => mIf (Nat.beq j5 0) (mLoad cSl ⟨b2, 0, none⟩ fun x9 => m_slices_Sort_int_int x9 fun _ => K x9) nope) j (upd h'' w o)) (upd h2 w (ob 0)) from
    (s_maps_Keys_map_int_api_Cap_int_api_Cap_1.ok ((⟨.func (.yield w) #[] #[], rfl, rfl⟩ : PV), (⟨b1, 0, none⟩ : Addr)) (fun _ h'' => ∃ j, h'' w = some (ob j) ∧ ∀ o, (fun (j5 : Nat) => mIf (Nat.beq j5 0) (mLoad cSl ⟨b2, 0, none⟩ fun x9 => m_slices_Sort_int_int x9 fun _ => K x9) nope) j (upd h'' w o)) _ hm).mono (fun v h'' ⟨_, _, q⟩ => q) fun _ _ q => q
  have ww : upd h2 w (ob 0) w = some (ob 0) := upd_same _ _ _
  generalize upd h2 w (ob 0) = h3 at kw ww
  have k3 := k12.trans kw
  have hwh : h w = none := k12.fresh hw
  have q23 := kw _ _ q2
  have b2h : h b2 = none := k1.fresh f2
  have nwb2 : b2 ≠ w := fun e => by rw [e, hw] at q2; cases q2
  have nbw : b ≠ w := fun e => hb0 (e ▸ hwh)
  have nbb2 : b ≠ b2 := fun e => hb0 (e ▸ b2h)
  unfold m_maps_Keys_map_int_api_Cap_int_api_Cap_1
  refine w_load (v := some b) (cells := cMap) (at_box (cs := [Value.map (some b)]) (kw _ _ (k2 _ _ q1))) (w_range (x.keep k3) fun it h4 f4 it4 k4 => ?_)
  have nit : it.block ≠ b := fun e => by rw [e] at f4; exact hb0 (k3.fresh f4)
  have nitw : it.block ≠ w := fun e => by rw [e, ww] at f4; cases f4
  have nitb2 : it.block ≠ b2 := fun e => by rw [e, q23] at f4; cases f4
  have hith : h it.block = none := k3.fresh f4
  refine w_for l.length (fun j (_ : Unit) h' => ∃ rest at_ ks sn, IterOf (Value.int .i64) Sl.val h' it b l rest at_ ∧ rest.length + j = l.length ∧ ks.length = j ∧ (ks ++ rest.map (·.1)).Perm (l.map (·.1)) ∧ h' w = some (ob 0) ∧ h' b2 = some (.cells (cSl sn).toArray N_Sl_i64 (0, 0)) ∧ Buf (cInt .i64) 1 N_int h' sn ks ∧ (∀ c, sn.foot c → h c = none ∧ c ≠ w ∧ c ≠ it.block) ∧ Keeps h h') ?_
    ⟨l, none, [], Sl.nil, it4, rfl, rfl, .refl _, k4 _ _ ww, k4 _ _ q23, Buf.nil, fun c ⟨_, e, _⟩ => (by cases e), k3.trans k4⟩
  rintro rec j _ h5 hj ⟨rest, at_, ks, sn, it5, hl, hk, pk, w5, q5, bu5, fs5, k5⟩ more
  refine w_next it5 nit (fun e => w_ifF rfl ?_) fun q rest' h6 pm it6 b6 d6 => w_ifT rfl (w_entry it6 ?_)
  · subst e
    rw [List.map_nil, List.append_nil] at pk
    refine ⟨0, w5, fun o => w_ifT rfl ?_⟩
    have bo : But (· = w) h5 (upd h5 w o) := .upd rfl
    have q7 := bo _ _ q5 nwb2
    have bu7 := bu5.but bo fun ad ha e => (fs5 _ ⟨ad, ha, rfl⟩).2.1 e
    refine w_load (at_box q7) (t_Sort bu7 (by omega) fun h8 bu8 w8 => ?_)
    refine y sn h8 ?_ ((k5.but bo fun n e => by rw [e]; exact hwh).but w8.but fun n f => (fs5 n f).1) fun c g => (fs5 c g).1
    rw [show (ks.mergeSort fun x y => decide (x ≤ y)) = isort (l.map (·.1)) from isort_eq pk] at bu8
    exact bu8
  · have e2 := pm.length_eq
    simp only [List.length_cons] at e2
    have w6 := b6 _ _ w5 nitw.symm
    have q6 := b6 _ _ q5 nitb2.symm
    have bu6 := bu5.but b6 fun ad ha e => (fs5 _ ⟨ad, ha, rfl⟩).2.2 e
    have k6 : Keeps h h6 := k5.but b6 fun n e => by rw [e]; exact hith
    refine .inr ⟨w, rfl, law q.1 _ h6 w6 ⟨w6, ?_⟩⟩
    have bA : But (· = w) h6 (upd h6 w bz) := .upd rfl
    have wA : upd h6 w bz w = some bz := upd_same _ _ _
    have dA : ∀ c, upd h6 w bz c = none → h6 c = none := fun c e => (upd_none.1 e).2
    generalize upd h6 w bz = hA at bA wA dA
    have qA := bA _ _ q6 nwb2
    have buA := bu6.but bA fun ad ha e => (fs5 _ ⟨ad, ha, rfl⟩).2.1 e
    refine w_load (at_box qA) (w_box fun b7 h7 f7 q7 k7 => ?_)
    have one : Buf (cInt .i64) 1 N_int h7 ⟨some ⟨b7, 0, none⟩, 1, 1⟩ [q.1] := Buf.one ci_len q7
    refine w_append (by_ := 8) ci_len (fun _ => rfl) rfl (buA.keep k7) one.arr (.inl (by simp only [List.length_singleton]; omega)) fun s8 h8 bu8 b8 f8 d8 => ?_
    have q78 := b8 _ _ (k7 _ _ qA) fun g => (buA.typed g).ne (.of qA) (by decide) rfl
    have wB := b8 _ _ (k7 _ _ wA) fun g => (fs5 w g).2.1 rfl
    refine w_setBox q78 rfl fun h9 q9 b9 d9 => ?_
    have wC := b9 _ _ wB nwb2.symm
    refine ⟨wC, w_ifF rfl ?_⟩
    have bZ : But (· = w) h9 (upd h9 w (ob 0)) := .upd rfl
    have bE : But (fun c => c = w ∨ c = b2 ∨ sn.foot c) h6 (upd h9 w (ob 0)) := (((bA.mono fun c e => Or.inl e).trans (((But.of (F := fun c => c = w ∨ c = b2 ∨ sn.foot c) k7).trans b8 fun c g => .inl (.inr (.inr g))).trans b9 fun c e => .inl (.inr (.inl e))) fun c g => .inl g).trans bZ fun c e => .inl (.inl e))
    have f8' : ∀ c, s8.foot c → sn.foot c ∨ hA c = none := fun c g => (f8 c g).imp id fun z => k7.fresh z
    have nit6 : h6 it.block ≠ none := by obtain ⟨_, _, _, _, e, _⟩ := it6.ex; rw [e]; simp
    have fZ : ∀ c, s8.foot c → h c = none ∧ c ≠ w ∧ c ≠ it.block := fun c g => by
      rcases f8' c g with z | z
      · exact fs5 c z
      · exact ⟨k6.fresh (dA c z), fun e => (by rw [e, wA] at z; cases z), fun e => nit6 (dA _ (e ▸ z))⟩
    have bu9 := bu8.but b9 fun ad ha e => (bu8.typed ⟨ad, ha, rfl⟩).ne (.of q78) (by decide) e
    refine more _ _ (by omega) ⟨rest', some q, ks ++ [q.1], s8, it6.but bE (fun g => ?_) (fun g => ?_), by omega, by rw [List.length_append, hk]; rfl, ?_, upd_same _ _ _, bZ _ _ q9 nwb2, bu9.but bZ fun ad ha e => (fZ _ ⟨ad, ha, rfl⟩).2.1 e, fZ, k6.but bE fun c g => ?_⟩
    · rcases g with g | g | g
      · exact nitw g
      · exact nitb2 g
      · exact (fs5 _ g).2.2 rfl
    · rcases g with g | g | g
      · exact nbw g
      · exact nbb2 g
      · exact hb0 (fs5 _ g).1
    · refine List.Perm.trans ?_ pk
      rw [List.append_assoc]
      exact List.Perm.append_left ks (show ([q.1] ++ rest'.map (·.1)).Perm (rest.map (·.1)) from (pm.map Prod.fst).symm)
    · rcases g with rfl | rfl | g
      · exact hwh
      · exact b2h
      · exact (fs5 _ g).1
end
section
variable {ts : List Tk}
inductive Anc (ts : List Tk) : Int → Tk → Prop
  | here {n : Int} {t : Tk} : t.xparent = n → Anc ts n t
  | up {n : Int} {t u : Tk} : u ∈ ts → u.xname = t.xparent → Anc ts n u → Anc ts n t
structure TsOk (ts : List Tk) : Prop where
  lt : ∀ t ∈ ts, t.xparent < t.xname
  inj : ts.Pairwise fun t u => t.xname < u.xname
theorem TsOk.one (k : TsOk ts) {t u : Tk} (ht : t ∈ ts) (hu : u ∈ ts) (e : t.xname = u.xname) : t = u := by
  have := k.inj
  clear k
  induction ts with
  | nil => cases ht
  | cons a r ih =>
    obtain ⟨h1, h2⟩ := List.pairwise_cons.1 this
    rcases List.mem_cons.1 ht with e1 | ht'
    · rcases List.mem_cons.1 hu with e2 | hu'
      · rw [e1, e2]
      · have := h1 u hu'; rw [e1] at e; omega
    · rcases List.mem_cons.1 hu with e2 | hu'
      · have := h1 t ht'; rw [e2] at e; omega
      · exact ih ht' hu' h2
theorem anc_le (k : TsOk ts) {n : Int} {t : Tk} (a : Anc ts n t) : n ≤ t.xparent := by
  induction a with
  | here e => omega
  | up hu e _ ih => have := k.lt _ hu; omega
theorem anc_apart (k : TsOk ts) {c c' : Tk} (hc : c ∈ ts) (hc' : c' ∈ ts) {n : Int} (pc : c.xparent = n) (pc' : c'.xparent = n) (ne : c.xname ≠ c'.xname) {t : Tk} (a : Anc ts c.xname t) (b : Anc ts c'.xname t) : False := by
  have l1 := k.lt c hc
  have l2 := k.lt c' hc'
  generalize ea : c.xname = x at a
  induction a with
  | here e =>
    subst ea
    cases b with
    | here e' => omega
    | up hu e' b' =>
      have := k.one hu hc (e'.trans e)
      subst this
      have := anc_le k b'
      omega
  | up hu e a' ih =>
    subst ea
    cases b with
    | here e' =>
      have := k.one hu hc' (e.trans e')
      subst this
      have := anc_le k a'
      omega
    | up hu' e' b' =>
      have := k.one hu hu' (e.trans e'.symm)
      subst this
      exact ih b'
noncomputable def cP (A : Tk → Prop) (l : List Tk) : Nat := l.countP fun t => @decide (A t) (Classical.propDecidable _)
theorem cP_pos {A : Tk → Prop} {a : Tk} {r : List Tk} (h : A a) : cP A (a :: r) = cP A r + 1 := by
  unfold cP
  rw [List.countP_cons, if_pos (@decide_eq_true _ (Classical.propDecidable _) h)]
theorem cP_neg {A : Tk → Prop} {a : Tk} {r : List Tk} (h : ¬ A a) : cP A (a :: r) = cP A r := by
  unfold cP
  rw [List.countP_cons, if_neg fun z => h (@of_decide_eq_true _ (Classical.propDecidable _) z)]; rfl
theorem cP_mono {A B : Tk → Prop} {l : List Tk} (h : ∀ t ∈ l, A t → B t) : cP A l ≤ cP B l := List.countP_mono_left fun t ht e => @decide_eq_true _ (Classical.propDecidable _) (h t ht (@of_decide_eq_true _ (Classical.propDecidable _) e))
theorem cP_one {A : Tk → Prop} {l : List Tk} {c : Tk} (hc : c ∈ l) (h : A c) : 1 ≤ cP A l := List.countP_pos_iff.2 ⟨c, hc, @decide_eq_true _ (Classical.propDecidable _) h⟩
theorem count_or {A B : Tk → Prop} : ∀ {l : List Tk}, (∀ t ∈ l, ¬ (A t ∧ B t)) → cP A l + cP B l ≤ cP (fun t => A t ∨ B t) l
  | [], _ => Nat.le_refl _
  | a :: r, h => by
    have ih := count_or (l := r) fun t ht => h t (List.mem_cons_of_mem _ ht)
    have ha := h a (List.mem_cons_self ..)
    by_cases x : A a
    · by_cases y : B a
      · exact absurd ⟨x, y⟩ ha
      · rw [cP_pos x, cP_neg y, cP_pos (A := fun t => A t ∨ B t) (.inl x)]; omega
    · by_cases y : B a
      · rw [cP_neg x, cP_pos y, cP_pos (A := fun t => A t ∨ B t) (.inr y)]; omega
      · rw [cP_neg x, cP_neg y, cP_neg (A := fun t => A t ∨ B t) (fun z => z.elim x y)]; omega
def cntB (ts : List Tk) (o : Int) : Nat → Int → Nat
  | 0, _ => 0
  | f + 1, n => (ts.map fun t => if t.xcap.Obj = o ∧ t.xparent = n then 1 + cntB ts o f t.xname else 0).sum
theorem cnt_anc (k : TsOk ts) {o : Int} : ∀ (f : Nat) (n : Int), cntB ts o f n ≤ cP (Anc ts n) ts
  | 0, _ => Nat.zero_le _
  | f + 1, n => by
    have key : ∀ l : List Tk, (∀ t ∈ l, t ∈ ts) → l.Pairwise (fun t u => t.xname < u.xname) → (l.map fun t => if t.xcap.Obj = o ∧ t.xparent = n then 1 + cntB ts o f t.xname else 0).sum ≤ cP (fun t => ∃ c ∈ l, c.xparent = n ∧ (t = c ∨ Anc ts c.xname t)) ts := by
      intro l
      induction l with
      | nil => intro _ _; exact Nat.zero_le _
      | cons c r ih =>
        intro hm hp
        obtain ⟨h1, h2⟩ := List.pairwise_cons.1 hp
        have hc := hm c (List.mem_cons_self ..)
        have i := ih (fun t ht => hm t (List.mem_cons_of_mem _ ht)) h2
        rw [List.map_cons, List.sum_cons]
        by_cases q : c.xcap.Obj = o ∧ c.xparent = n
        · rw [if_pos q]
          have c1 := cnt_anc k f c.xname (o := o)
          have c2 : 1 ≤ cP (fun t => t = c) ts := cP_one hc rfl
          have c3 := count_or (A := fun t => t = c) (B := fun t => Anc ts c.xname t) (l := ts) fun t _ ⟨e, a⟩ => by
            subst e
            have := anc_le k a
            have := k.lt t hc
            omega
          have c4 := count_or (A := fun t => t = c ∨ Anc ts c.xname t) (B := fun t => ∃ c ∈ r, c.xparent = n ∧ (t = c ∨ Anc ts c.xname t)) (l := ts) fun t ht ⟨a, c', hc', pc', b⟩ => by
            have ne := h1 c' hc'
            have hc2 := hm c' (List.mem_cons_of_mem _ hc')
            have l1 := k.lt c hc
            have l2 := k.lt c' hc2
            rcases a with rfl | a
            · rcases b with rfl | b
              · omega
              · have := anc_le k b; omega
            · rcases b with rfl | b
              · have := anc_le k a; omega
              · exact anc_apart k hc hc2 q.2 pc' (by omega) a b
          have c5 : cP (fun t => (t = c ∨ Anc ts c.xname t) ∨ ∃ c ∈ r, c.xparent = n ∧ (t = c ∨ Anc ts c.xname t)) ts ≤ cP (fun t => ∃ c' ∈ c :: r, c'.xparent = n ∧ (t = c' ∨ Anc ts c'.xname t)) ts := cP_mono fun t _ ht => by
            rcases ht with ht | ⟨c', h, h'⟩
            · exact ⟨c, List.mem_cons_self .., q.2, ht⟩
            · exact ⟨c', List.mem_cons_of_mem _ h, h'⟩
          have c1 : cntB ts o f c.xname ≤ cP (fun t => Anc ts c.xname t) ts := c1
          omega
        · rw [if_neg q, Nat.zero_add]
          refine Nat.le_trans i (cP_mono fun t _ ht => ?_)
          obtain ⟨c', h, h'⟩ := ht
          exact ⟨c', List.mem_cons_of_mem _ h, h'⟩
    refine Nat.le_trans (key ts (fun _ h => h) k.inj) (cP_mono fun t ht e => ?_)
    obtain ⟨c, hc, pc, rfl | a⟩ := e
    · exact .here pc
    · have : ∀ {t : Tk}, Anc ts c.xname t → Anc ts n t := fun a => by
        generalize ex : c.xname = x at a
        induction a with
        | here e => exact .up hc (ex.trans e.symm) (.here pc)
        | up hu e _ ih => exact .up hu e ih
      exact this a
theorem cntB_le (k : TsOk ts) (o : Int) (f : Nat) (n : Int) : cntB ts o f n ≤ ts.length := Nat.le_trans (cnt_anc k f n) List.countP_le_length
def belF (ts : List Tk) (o : Int) (f : Nat) (n at_ : Int) (out : List S_api_Token) (t : Tk) : List S_api_Token := if t.xcap.Obj = o ∧ t.xparent = n then belowO ts o f t.xname (out.length : Int) (out ++ [⟨t.xcap, t.xrights, at_⟩]) else out
theorem belowO_succ (o : Int) (f : Nat) (n at_ : Int) (out : List S_api_Token) : belowO ts o (f + 1) n at_ out = ts.foldl (belF ts o f n at_) out := rfl
theorem below_len (o : Int) : ∀ (f : Nat) (n at_ : Int) (out : List S_api_Token), (belowO ts o f n at_ out).length = out.length + cntB ts o f n
  | 0, _, _, _ => rfl
  | f + 1, n, at_, out => by
    have key : ∀ (l : List Tk) (out : List S_api_Token), (l.foldl (belF ts o f n at_) out).length = out.length + (l.map fun t => if t.xcap.Obj = o ∧ t.xparent = n then 1 + cntB ts o f t.xname else 0).sum := by
      intro l
      induction l with
      | nil => intro out; rfl
      | cons t r ih =>
        intro out
        rw [List.foldl_cons, ih, List.map_cons, List.sum_cons]
        unfold belF
        by_cases q : t.xcap.Obj = o ∧ t.xparent = n
        · rw [if_pos q, if_pos q, below_len o f, List.length_append, List.length_singleton]; omega
        · rw [if_neg q, if_neg q]; omega
    rw [belowO_succ, key]; rfl
end
theorem belF_len {ts : List Tk} (o : Int) (f : Nat) (n at_ : Int) : ∀ (l : List Tk) (out : List S_api_Token), (l.foldl (belF ts o f n at_) out).length = out.length + (l.map fun t => if t.xcap.Obj = o ∧ t.xparent = n then 1 + cntB ts o f t.xname else 0).sum
  | [], out => rfl
  | t :: r, out => by
    rw [List.foldl_cons, belF_len o f n at_ r, List.map_cons, List.sum_cons]
    unfold belF
    by_cases q : t.xcap.Obj = o ∧ t.xparent = n
    · rw [if_pos q, if_pos q, below_len o f, List.length_append, List.length_singleton]; omega
    · rw [if_neg q, if_neg q]; omega
theorem above_lt {ts : List Tk} (k : TsOk ts) {t : Tk} (ht : t ∈ ts) {n : Int} (e : t.xparent = n) : cP (fun u => t.xname < u.xname) ts + 1 ≤ cP (fun u => n < u.xname) ts := by
  have c2 : 1 ≤ cP (fun u => u = t) ts := cP_one ht rfl
  have c3 := count_or (A := fun u => t.xname < u.xname) (B := fun u => u = t) (l := ts) fun u _ ⟨a, e⟩ => by subst e; omega
  have l1 := k.lt t ht
  have c5 : cP (fun u => t.xname < u.xname ∨ u = t) ts ≤ cP (fun u => n < u.xname) ts := cP_mono fun u _ h => by
    rcases h with h | rfl
    · omega
    · omega
  omega
section
variable {p : Nat} {F : Nat → Prop} {m : MdS}
theorem MSI.ok (i : MSI m) : TsOk m.ts := ⟨fun t ht => (i.tsm t ht).2.2.2, i.tsp⟩
theorem t_below_n (i : MSI m) (o : Int) : ∀ (f : Nat) {h : H} {name at_ : Int} {s : Sl} {out : List S_api_Token}, PM h p F m → Buf S_api_Token.cells 5 N_api_Token h s out → (∀ c, s.foot c → ¬ F c) → cP (fun u => name < u.xname) m.ts < f → out.length + cntB m.ts o f name ≤ 2 ^ 30 → ∀ {K : Sl → H → Prop},
    (∀ s' h', Buf S_api_Token.cells 5 N_api_Token h' s' (belowO m.ts o f name at_ out) → But s.foot h h' → (∀ c, s'.foot c → s.foot c ∨ h c = none) → (∀ c, h' c = none → h c = none) → K s' h') → m_plain_Model_below_n f (some ⟨p, 0, none⟩) s o name at_ K h
  | 0, _, _, _, _, _, _, _, _, me, _, _, _ => absurd me (Nat.not_lt_zero _)
  | f + 1, h, name, at_, s, out, x, b, ns, me, room, K, y => by
    show m_plain_Model_below_s (m_plain_Model_below_n f) (some ⟨p, 0, none⟩) s o name at_ K h
    unfold m_plain_Model_below_s
    have tl : ∀ x : S_api_Token, (S_api_Token.cells x).length = 5 := fun _ => rfl
    have x0 := x
    obtain ⟨bo, bl, sd, st, so, sl, x⟩ := x
    have hl := x.ts.len
    have tn := i.tsn
    have nst : ∀ c, st.foot c → ¬ s.foot c := fun c g g' => ns c g' (x.ft c g)
    rw [belowO_succ] at y
    have rm : ∀ j, ((m.ts.take j).foldl (belF m.ts o f name at_) out).length ≤ 2 ^ 30 := fun j => by
      rw [belF_len]
      have e : (m.ts.map fun t => if t.xcap.Obj = o ∧ t.xparent = name then 1 + cntB m.ts o f t.xname else 0).sum = cntB m.ts o (f + 1) name := rfl
      have e2 := congrArg (fun l => (l.map fun t : Tk => if t.xcap.Obj = o ∧ t.xparent = name then 1 + cntB m.ts o f t.xname else 0).sum) (List.take_append_drop j m.ts)
      simp only [List.map_append, List.sum_append] at e2
      omega
    refine w_deref (w_load x.f13 (w_for m.ts.length (fun j (z : Sl × Int) hh => z.2 = (j : Int) ∧ Buf S_api_Token.cells 5 N_api_Token hh z.1 ((m.ts.take j).foldl (belF m.ts o f name at_) out) ∧ But s.foot h hh ∧ (∀ c, z.1.foot c → s.foot c ∨ h c = none) ∧ ∀ c, hh c = none → h c = none) ?_ ⟨rfl, b, .refl _ _, fun _ g => .inl g, fun _ q => q⟩))
    rintro rec j ⟨sj, _⟩ hh hj ⟨ej, bj, bt, fj, dj⟩ more
    have ej : _ = (j : Int) := ej
    subst ej
    have fj : ∀ c, sj.foot c → s.foot c ∨ h c = none := fj
    have bj : Buf S_api_Token.cells 5 N_api_Token hh sj ((m.ts.take j).foldl (belF m.ts o f name at_) out) := bj
    have xh : PM hh p F m := x0.but bt (fun c g g' => ns c g' g) dj
    have nsj : ∀ c, sj.foot c → ¬ F c := fun c g g' => (fj c g).elim (fun g => ns c g g') fun z => x.has c g' z
    have tsh : Buf cTk 6 N_plain_token hh st m.ts := x.ts.but bt fun ad ha g => nst _ ⟨ad, ha, rfl⟩ g
    refine w_if' (fun c => ?_) fun c => ?_
    · have c : (j : Int) < (st.len : Int) := c
      have hjl : j < m.ts.length := by omega
      have ht := List.getElem?_eq_getElem hjl
      have hm := List.getElem_mem hjl
      generalize m.ts[j] = t at ht hm
      have fs : (m.ts.take (j + 1)).foldl (belF m.ts o f name at_) out = belF m.ts o f name at_ ((m.ts.take j).foldl (belF m.ts o f name at_) out) t := by rw [List.take_add_one, ht, List.foldl_append]; rfl
      have r1 := rm (j + 1)
      have r0 := rm j
      rw [fs] at r1
      generalize (m.ts.take j).foldl (belF m.ts o f name at_) out = cur at bj fs r1 r0
      refine w_get ptk_len tsh.arr ht rfl rfl (w_if (fun q => ?_) fun q => ?_)
      · have q : t.xcap.Obj = o ∧ t.xparent = name := by simpa using q
        rw [belF, if_pos q, below_len] at r1
        rw [belF, if_pos q] at fs
        rw [List.length_append, List.length_singleton] at r1
        refine w_app tl rfl bj [(⟨t.xcap, t.xrights, at_⟩ : S_api_Token)] rfl rfl (.inl (by show (2 * (_ + 1) + 192) * 40 ≤ 2 ^ 48; omega)) fun s7 h7 b7 bt7 f7 d7 => ?_
        have l7 := b7.len
        rw [List.length_append, List.length_singleton] at l7
        have x7 : PM h7 p F m := xh.but bt7 (fun c g g' => nsj c g' g) d7
        have ns7 : ∀ c, s7.foot c → ¬ F c := fun c g g' => (f7 c g).elim (fun g => nsj c g g') fun z => xh.has c g' z
        have me' := above_lt i.ok hm q.2
        have eat : iSub .i64 (s7.len : Int) 1 = (cur.length : Int) := by rw [iSub_eq (by omega) (by omega)]; omega
        rw [eat]
        refine t_below_n i o f x7 b7 ns7 (by omega) (by rw [List.length_append, List.length_singleton]; omega) fun s8 h8 b8 bt8 f8 d8 => ?_
        have btj : But (fun c => s.foot c) h h8 := (bt.trans bt7 fun c g => fj c g).trans bt8 fun c g => (f7 c g).elim (fun g => fj c g) fun z => .inr (dj c z)
        refine more _ _ hjl ⟨ia1 j (by omega), by rw [fs]; exact b8, btj, fun c g => ?_, fun c z => dj c (d7 c (d8 c z))⟩
        rcases f8 c g with g | z
        · rcases f7 c g with g | z
          · exact fj c g
          · exact .inr (dj c z)
        · exact .inr (dj c (d7 c z))
      · have q : ¬ (t.xcap.Obj = o ∧ t.xparent = name) := fun z => by
          have : (decide (t.xcap.Obj = o) && decide (t.xparent = name)) = true := by simpa using z
          rw [this] at q; cases q
        rw [belF, if_neg q] at fs
        exact more _ _ hjl ⟨ia1 j (by omega), by rw [fs]; exact bj, bt, fj, dj⟩
    · have c : ¬ (j : Int) < (st.len : Int) := c
      rw [List.take_of_length_le (by omega)] at bj
      exact y sj hh bj bt fj dj
theorem t_below (i : MSI m) {o : Int} {h : H} {s : Sl} {out : List S_api_Token} (x : PM h p F m) (b : Buf S_api_Token.cells 5 N_api_Token h s out) (ns : ∀ c, s.foot c → ¬ F c) (room : out.length ≤ 2 ^ 29) {K : Sl → H → Prop}
    (y : ∀ s' h', Buf S_api_Token.cells 5 N_api_Token h' s' (belowO m.ts o (m.ts.length + 1) 0 (-1) out) → (belowO m.ts o (m.ts.length + 1) 0 (-1) out).length ≤ out.length + 256 → But s.foot h h' → (∀ c, s'.foot c → s.foot c ∨ h c = none) → (∀ c, h' c = none → h c = none) → K s' h') : m_plain_Model_below (some ⟨p, 0, none⟩) s o 0 (-1) K h := by
  have cl := cntB_le i.ok o (m.ts.length + 1) 0
  have tn := i.tsn
  exact ⟨m.ts.length + 1, t_below_n i o (m.ts.length + 1) x b ns (Nat.lt_succ_of_le List.countP_le_length) (by omega) fun s' h' b' => y s' h' b' (by rw [below_len]; omega)⟩
end
section
variable {m : MdS}
structure MSR (m : MdS) : Prop where
  ob : (m.ob.map (·.1)).Pairwise (· < ·)
  ls : (m.ls.map (·.1)).Pairwise (· < ·)
theorem rise_del {V : Type} {l : List (Int × V)} (o : Once l) (h : (l.map (·.1)).Pairwise (· < ·)) (k : Int) : ((adel l k).map (·.1)).Pairwise (· < ·) := by
  rw [adel_keys _ _ o]
  exact h.sublist List.erase_sublist
theorem rise_new {V : Type} {l : List (Int × V)} (h : (l.map (·.1)).Pairwise (· < ·)) {k : Int} {v : V} (b : ∀ q ∈ l, q.1 < k) : ((l ++ [(k, v)]).map (·.1)).Pairwise (· < ·) := by
  rw [List.map_append]
  refine List.pairwise_append.2 ⟨h, List.pairwise_singleton _ _, fun a ha c hc => ?_⟩
  obtain ⟨q, hq, rfl⟩ := List.mem_map.1 ha
  have : c = k := by simpa using hc
  rw [this]; exact b q hq
theorem rise_set {V : Type} {l : List (Int × V)} (h : (l.map (·.1)).Pairwise (· < ·)) {k : Int} {v : V} (hk : k ∈ l.map (·.1)) : ((aset l k v).map (·.1)).Pairwise (· < ·) := by
  rw [aset_map, if_pos hk]; exact h
theorem der_same (o r name : Int) : ∀ n tk, (derO m o r name tk n).2.ob = m.ob ∧ (derO m o r name tk n).2.ls = m.ls
  | 0, _ => ⟨rfl, rfl⟩
  | n + 1, tk => by
    rw [derO]
    split
    · exact ⟨rfl, rfl⟩
    · split
      · exact der_same o r name n (tk + 1)
      · exact ⟨rfl, rfl⟩
theorem derive_same (c : S_api_Cap) (r : Int) : (deriveO m c r).2.ob = m.ob ∧ (deriveO m c r).2.ls = m.ls := by
  unfold deriveO
  repeat' split
  all_goals first | exact der_same _ _ _ _ _ | exact ⟨rfl, rfl⟩
theorem MSR.same {m' : MdS} (x : MSR m) (e : m'.ob = m.ob ∧ m'.ls = m.ls) : MSR m' := ⟨e.1 ▸ x.ob, e.2 ▸ x.ls⟩
theorem MSR.gone (x : MSR m) (i : MSI m) (o : Int) : MSR (goneO m o) := ⟨rise_del i.obo x.ob o, x.ls⟩
theorem rise_do (x : MSR m) (i : MSI m) (c : S_api_Call) (ds : List UInt8) (gs : List Int) : MSR (doO m c ds gs).2 := by
  unfold doO
  by_cases q0 : formedO c ds gs
  · rw [if_pos q0]
    by_cases hl : (alook m.ls c.By).isSome = true
    · rw [if_pos hl]
      by_cases q : c.Op = 1
      · rw [if_pos q]
        unfold createO
        repeat' split
        all_goals first | exact x | exact ⟨rise_new x.ob fun q hq => (i.obk q hq).2, x.ls⟩
      rw [if_neg q]; clear q
      by_cases q : c.Op = 2
      · rw [if_pos q]
        unfold destroyO
        split
        · exact x
        · exact x.gone i _
      rw [if_neg q]; clear q
      by_cases q : c.Op = 3
      · rw [if_pos q]; exact x.same (derive_same _ _)
      rw [if_neg q]; clear q
      by_cases q : c.Op = 4
      · rw [if_pos q]
        unfold revokeO
        repeat' split
        all_goals first | exact x.gone i _ | exact ⟨x.ob, x.ls⟩
      rw [if_neg q]; clear q
      by_cases q : c.Op = 5
      · rw [if_pos q, (read_sh c).1]; exact x
      rw [if_neg q]; clear q
      by_cases q : c.Op = 6
      · rw [if_pos q]
        unfold writeO
        dsimp only
        split
        · next q1 =>
          split
          · exact ⟨rise_set x.ob (may_here i q1), x.ls⟩
          · exact x
        · exact x
      rw [if_neg q]; clear q
      by_cases q : c.Op = 7
      · rw [if_pos q]
        unfold addO
        repeat' split
        all_goals first | exact x | exact ⟨x.ob, rise_set x.ls (look_key hl)⟩
      rw [if_neg q]; clear q
      by_cases q : c.Op = 8
      · rw [if_pos q]
        unfold removeO
        split
        · exact x
        · exact ⟨x.ob, rise_set x.ls (look_key hl)⟩
      rw [if_neg q]; clear q
      by_cases q : c.Op = 9
      · rw [if_pos q]
        unfold spawnO
        repeat' split
        all_goals first | exact x | exact ⟨x.ob, rise_new x.ls fun q hq => (i.lsk q hq).2⟩
      rw [if_neg q]
      exact ⟨x.ob, rise_del i.lso x.ls _⟩
    · rw [if_neg hl]; exact x
  · rw [if_neg q0]; exact x
theorem rise_newO (c : S_api_Config) (dr : List S_api_Word) : MSR (newO c dr) := ⟨List.Pairwise.nil, List.pairwise_singleton _ _⟩
theorem isort_rise {l : List Int} (h : l.Pairwise (· < ·)) : isort l = l := by
  have hn : l.Nodup := h.imp fun {a b} q e => by omega
  exact rising_eq (isort_rising hn) h fun x => (isort_perm l).mem_iff
end
section
variable {T : Type} {cells : T → List Value} {sz : Nat} {e : TypeId}
theorem w_cloneMap (cl : Sl → (Sl → H → Prop) → H → Prop)
    (hcl : ∀ {h : H} {s : Sl} {xs : List T} {k : Sl → H → Prop}, Arr cells h s xs → xs.length ≤ 2 ^ 20 → (∀ s' h', Buf cells sz e h' s' xs → Keeps h h' → (∀ c, s'.foot c → h c = none) → k s' h') → cl s k h)
    {t : TypeId} (hu : Tryz.prog.underlying t = some (.int .i64)) {h0 h : H} {b d : Nat} {so : List (Int × Sl)} {ob : List (Int × List T)} {F : Nat → Prop} (kp : Keeps h0 h) (mo : MapOf (Value.int .i64) Sl.val h0 b so) (ro : Rows cells sz e h0 F so ob) (md : MapOf (Value.int .i64) Sl.val h d ([] : List (Int × Sl))) (fd : h0 d = none)
    (hn : ∀ q ∈ ob, q.2.length ≤ 2 ^ 20) {K : H → Prop}
    (y : ∀ h' (sd : List (Int × Sl)) (ks : List Int) (G : Nat → Prop), MapOf (Value.int .i64) Sl.val h' d sd → Rows cells sz e h' G sd (ks.map fun k => (k, (alook ob k).getD [])) → ks.Perm (ob.map (·.1)) → But (· = d) h h' → (∀ c, h' c = none → h c = none) → (∀ c, G c → h c = none) → (∀ c, G c → h' c ≠ none) → K h') :
    mRange (some b) (fun it => mLoop (fun (rec : Unit → H → Prop) (_ : Unit) => mNext it fun n => mIf n.1 (mEntry (Value.int .i64) Sl.val it fun e15 => cl e15.2 fun r16 => mMapSet (eqV Tryz.prog 40 t) (some d) (Value.int .i64 e15.1) (Sl.val r16) <| rec ()) K) ()) h := by
  have hb0 : h0 b ≠ none := by obtain ⟨_, _, e, _⟩ := mo; rw [e]; simp
  have hd0 : h d ≠ none := by obtain ⟨_, _, e, _⟩ := md; rw [e]; simp
  have nbd : b ≠ d := fun e => hb0 (e ▸ fd)
  refine w_range (mo.keep kp) fun it h1 f1 it1 k1 => ?_
  have nit : it.block ≠ b := fun e => by rw [e] at f1; exact hb0 (kp.fresh f1)
  have nitd : it.block ≠ d := fun e => by rw [e] at f1; exact hd0 f1
  have osd := ro.onceS
  refine w_for so.length (fun j (_ : Unit) hh => ∃ (rest : List (Int × Sl)) (at_ : Option (Int × Sl)) (ks : List Int) (sd : List (Int × Sl)) (G : Nat → Prop), IterOf (Value.int .i64) Sl.val hh it b so rest at_ ∧ rest.length + j = so.length ∧ (ks ++ rest.map (·.1)).Perm (so.map (·.1)) ∧ MapOf (Value.int .i64) Sl.val hh d sd ∧ Rows cells sz e hh G sd (ks.map fun k => (k, (alook ob k).getD [])) ∧ (∀ c, G c → h c = none ∧ c ≠ it.block ∧ hh c ≠ none) ∧ But (· = d) h hh ∧ (∀ c, hh c = none → h c = none) ∧ ∀ q ∈ rest, alook so q.1 = some q.2) ?_
    ⟨so, none, [], [], fun _ => False, it1, rfl, .refl _, md.keep k1, Rows.nil, fun _ q => q.elim, .of k1, fun _ => k1.fresh, fun q hq => osd.look hq⟩
  rintro rec j _ h2 hj ⟨rest, at_, ks, sd, G, it2, hl, pk, m2, r2, g2, b2, d2, lk⟩ more
  refine w_next it2 nit (fun e => w_ifF rfl ?_) fun q rest' h3 pm it3 b3 d3 => w_ifT rfl (w_entry it3 ?_)
  · subst e
    rw [List.map_nil, List.append_nil, ro.keys] at pk
    exact y h2 sd ks G m2 r2 pk b2 d2 (fun c g => (g2 c g).1) fun c g => (g2 c g).2.2
  · have e2 := pm.length_eq
    simp only [List.length_cons] at e2
    have hq := lk q (pm.symm.subset (List.mem_cons_self ..))
    have k03 : Keeps h0 h3 := (kp.but b2 fun n e => by rw [e]; exact fd).but b3 fun n e => by rw [e]; exact kp.fresh f1
    have hs := alook_some ro.keys q.1
    rw [hq] at hs
    cases hx : alook ob q.1 with
    | none => rw [hx] at hs; cases hs
    | some xs =>
    have bx := (ro.buf _ _ _ hq hx).keep k03
    have m3 := m2.but b3 fun z => nitd z.symm
    have r3 := r2.but b3 fun i s q c g z => (g2 c (r2.foot i s q c g)).2.1 z
    refine hcl bx.arr (hn _ (alook_mem hx)) fun s4 h4 b4 k4 f4 => ?_
    have m4 := m3.keep k4
    have r4 := (r3.but (But.of (F := fun _ => False) k4) fun _ _ _ _ _ z => z)
    have G3 : ∀ c, G c → h3 c ≠ none := fun c g z => (g2 c g).2.2 (d3 c z)
    have r4' := r4.give (k := q.1) b4 fun c g g' => G3 c g' (f4 c g)
    refine w_mapSet (keyP hu) m4 rfl rfl fun h5 m5 b5 d5 => ?_
    have r5 := r4'.but b5 fun i s q' c g e => m4.untyped (r4'.typed q' g) e
    have nk : q.1 ∉ ks := fun z => by
      have nd : (ks ++ rest.map (·.1)).Nodup := pk.symm.nodup osd
      have hm : q.1 ∈ rest.map (·.1) := List.mem_map_of_mem (pm.symm.subset (List.mem_cons_self ..))
      exact (List.nodup_append.1 nd).2.2 _ z _ hm rfl
    have eo : aset (ks.map fun k => (k, (alook ob k).getD [])) q.1 xs = (ks ++ [q.1]).map fun k => (k, (alook ob k).getD []) := by
      rw [aset_new (by rw [List.map_map]; simpa using nk), List.map_append]
      show _ = _ ++ [(q.1, (alook ob q.1).getD [])]
      rw [hx]; rfl
    rw [eo] at r5
    have bt : But (· = d) h h5 := ((b2.trans b3 fun n e => .inr (by rw [e]; exact f1)).trans (But.of (F := (· = d)) k4) fun n e => .inl e).trans b5 fun n e => .inl e
    have it3e : h3 it.block ≠ none := by obtain ⟨_, _, _, _, e, _⟩ := it3.ex; rw [e]; simp
    refine more _ _ (by omega) ⟨rest', some q, ks ++ [q.1], aset sd q.1 s4, fun c => G c ∨ s4.foot c, (it3.keep k4).but b5 (fun z => nitd z) (fun z => nbd z), by omega, ?_, m5, r5, fun c g => ?_, bt, fun c z => d2 c (d3 c (k4.fresh (d5 c z))), fun z hz => lk z (pm.symm.subset (List.mem_cons_of_mem _ hz))⟩
    · refine List.Perm.trans ?_ pk
      rw [List.append_assoc]
      exact List.Perm.append_left ks (show ([q.1] ++ rest'.map (·.1)).Perm (rest.map (·.1)) from (pm.map Prod.fst).symm)
    · rcases g with g | g
      · exact ⟨(g2 c g).1, (g2 c g).2.1, fun z => G3 c g (k4.fresh (d5 c z))⟩
      · exact ⟨d2 c (d3 c (f4 c g)), fun e => it3e (e ▸ f4 c g), fun z => b4.has g (d5 c z)⟩
end
section
variable {T : Type} {cells : T → List Value} {sz : Nat} {e : TypeId}
theorem alook_of {V : Type} (g : Int → V) {l : List Int} {k : Int} {v : V} (h : alook (l.map fun k => (k, g k)) k = some v) : k ∈ l ∧ v = g k := by
  have hm := alook_mem h
  obtain ⟨q, hq, eq⟩ := List.mem_map.1 hm
  cases eq
  exact ⟨hq, rfl⟩
theorem alook_in {V : Type} (g : Int → V) : ∀ {l : List Int} {k : Int}, k ∈ l → alook (l.map fun k => (k, g k)) k = some (g k)
  | a :: r, k, h => by
    rw [List.map_cons, alook_cons]
    by_cases q : k = a
    · rw [if_pos q, q]
    · rw [if_neg q]
      exact alook_in g ((List.mem_cons.1 h).resolve_left q)
theorem Rows.order {h : H} {G : Nat → Prop} {sd : List (Int × Sl)} {ks : List Int} {ob : List (Int × List T)} (x : Rows cells sz e h G sd (ks.map fun k => (k, (alook ob k).getD []))) (o : Once ob) (pm : ks.Perm (ob.map (·.1))) : Rows cells sz e h G ((ob.map (·.1)).map fun k => (k, (alook sd k).getD Sl.nil)) ob := by
  have mem : ∀ {k s}, alook ((ob.map (·.1)).map fun k => (k, (alook sd k).getD Sl.nil)) k = some s → k ∈ ks ∧ alook sd k = some s := fun {k s} q => by
    obtain ⟨h1, h2⟩ := alook_of (fun k => (alook sd k).getD Sl.nil) q
    have hk : k ∈ ks := pm.symm.subset h1
    refine ⟨hk, ?_⟩
    have := alook_some x.keys k
    rw [alook_in (fun k => (alook ob k).getD []) hk] at this
    cases z : alook sd k with
    | none => rw [z] at this; cases this
    | some s' => rw [h2, z]; rfl
  refine ⟨by rw [List.map_map]; exact (List.map_congr_left fun k _ => rfl).trans (List.map_id _), o, fun k s xs q1 q2 => ?_, fun k k' s s' ne q1 q2 => x.apart k k' s s' ne (mem q1).2 (mem q2).2, fun k s q => x.foot k s (mem q).2⟩
  obtain ⟨hk, hs⟩ := mem q1
  refine x.buf k s xs hs ?_
  rw [alook_in (fun k => (alook ob k).getD []) hk, q2]; rfl
end
structure StAt (h h' : H) (s : S_api_State) (v : StV) (so sl : List (Int × Sl)) (G : Nat → Prop) : Prop where
  ob : Buf S_api_Object.cells 2 N_api_Object h' s.Objects (so.map fun q => ⟨q.1, q.2⟩)
  bs : Rows cU8 1 N_u8 h' G so v.ob
  ts : Buf S_api_Token.cells 5 N_api_Token h' s.Tokens v.ts
  ps : Buf S_api_Process.cells 2 N_api_Process h' s.Processes (sl.map fun q => ⟨q.1, q.2⟩)
  ls : Rows cCp 3 N_api_Cap h' G sl v.ls
  nums : s.NextId = v.ni ∧ s.NextProc = v.np ∧ s.Taken = v.tk
  new : ∀ c, s.Objects.foot c ∨ s.Tokens.foot c ∨ s.Processes.foot c ∨ G c → h c = none
section
variable {h : H} {p : Nat} {F : Nat → Prop} {m : MdS}
theorem t_cloneB {h : H} {s : Sl} {xs : List UInt8} {k : Sl → H → Prop} (ar : Arr cU8 h s xs) (hn : xs.length ≤ 2 ^ 20) (y : ∀ s' h', Buf cU8 1 N_u8 h' s' xs → Keeps h h' → (∀ c, s'.foot c → h c = none) → k s' h') : m_slices_Clone_byte_byte s k h := by
  unfold m_slices_Clone_byte_byte
  exact w_clone (by_ := 1) (e := N_u8) u8_len u8_plain rfl ar (by omega) y
theorem t_cloneC {h : H} {s : Sl} {xs : List S_api_Cap} {k : Sl → H → Prop} (ar : Arr cCp h s xs) (hn : xs.length ≤ 2 ^ 20) (y : ∀ s' h', Buf cCp 3 N_api_Cap h' s' xs → Keeps h h' → (∀ c, s'.foot c → h c = none) → k s' h') : m_slices_Clone_api_Cap_api_Cap s k h := by
  unfold m_slices_Clone_api_Cap_api_Cap
  exact w_clone (by_ := 24) (e := N_api_Cap) cap_len cap_plain rfl ar (by omega) y
theorem t_pState (x : PM h p F m) (i : MSI m) (r : MSR m) {K : S_api_State → H → Prop} (y : ∀ s h' so sl G, StAt h h' s (stateO m) so sl G → Keeps h h' → K s h') : m_plain_Model_State (some ⟨p, 0, none⟩) K h := by
  unfold m_plain_Model_State
  have x0 := x
  obtain ⟨bo, bl, sd, st, so, sl, x⟩ := x
  have on := i.obn
  have ln := i.lsn
  refine w_deref (w_deref (w_deref (w_load x.f16 (w_load x.f17 (w_load x.f11 (w_makeMap (Value.int .i64) Sl.val fun d7 h1 fd7 m7 k1 => w_makeMap (Value.int .i64) Sl.val fun d8 h2 fd8 m8 k2 => ?_))))))
  have k12 := k1.trans k2
  have x2 := x.keep k12
  have n78 : d7 ≠ d8 := fun e => by
    obtain ⟨_, _, z, _⟩ := m7
    rw [e, fd8] at z; cases z
  refine w_deref (w_load x2.f12 (w_cloneMap (T := UInt8) (cells := cU8) (sz := 1) (e := N_u8) (fun s k => m_slices_Clone_byte_byte s k) t_cloneB (by kernel_rfl) (h0 := h) k12 x.mo x.ob (m7.keep k2) fd7 (fun q hq => Nat.le_trans (i.obs q hq) (by decide)) fun h3 sd7 ks7 G7 m73 r73 pm7 b3 d3 f7 g7 => ?_))
  have k3 : Keeps h h3 := k12.but b3 fun n e => by rw [e]; exact fd7
  have x3 := x.keep k3
  have fd8' : h d8 = none := k1.fresh fd8
  refine w_deref (w_load x3.f15 (w_cloneMap (T := S_api_Cap) (cells := cCp) (sz := 3) (e := N_api_Cap) (fun s k => m_slices_Clone_api_Cap_api_Cap s k) t_cloneC (by kernel_rfl) (h0 := h) k3 x.ml x.ls (m8.but b3 fun e => n78 e.symm) fd8' (fun q hq => Nat.le_trans (i.lsl q hq) (by decide)) fun h4 sd8 ks8 G8 m84 r84 pm8 b4 d4 f8 g8 => ?_))
  have k4 : Keeps h h4 := k3.but b4 fun n e => by rw [e]; exact fd8'
  have m83 := m8.but b3 fun e => n78 e.symm
  have m74 := m73.but b4 n78
  have r74 := r73.but b4 fun i s q c g e => m83.untyped (r73.typed q g) e
  have e7 : sd7.map (·.1) = ks7 := by rw [r73.keys, List.map_map]; exact (List.map_congr_left fun k _ => rfl).trans (List.map_id _)
  have e8 : sd8.map (·.1) = ks8 := by rw [r84.keys, List.map_map]; exact (List.map_congr_left fun k _ => rfl).trans (List.map_id _)
  have l7 : sd7.length = m.ob.length := by
    have := pm7.length_eq
    rw [← e7, List.length_map, List.length_map] at this; exact this
  have l8 : sd8.length = m.ls.length := by
    have := pm8.length_eq
    rw [← e8, List.length_map, List.length_map] at this; exact this
  refine t_keysO m74 (by omega) fun s5 h5 b5 k5 f5 => ?_
  rw [e7, isort_eq pm7, isort_rise r.ob] at b5
  have k05 := k4.trans k5
  have x5 : PM h5 p F m := x0.keep k05
  have hl5 := b5.len
  rw [List.length_map] at hl5
  have m75 := m74.keep k5
  refine w_for m.ob.length (fun j (z : Int × Sl × Sl × Sl × Int × Int × Int) hh => ∃ so1 st1, z = ((j : Int), so1, st1, Sl.nil, m.ni, m.np, (m.tk : Int)) ∧ Buf S_api_Object.cells 2 N_api_Object hh so1 (((m.ob.map (·.1)).take j).map fun k => (⟨k, (alook sd7 k).getD Sl.nil⟩ : S_api_Object)) ∧ Buf S_api_Token.cells 5 N_api_Token hh st1 ((m.ob.take j).foldl (fun out q => belowO m.ts q.1 (m.ts.length + 1) 0 (-1) out) []) ∧ ((m.ob.take j).foldl (fun out q => belowO m.ts q.1 (m.ts.length + 1) 0 (-1) out) []).length ≤ j * 256 ∧ (∀ c, so1.foot c ∨ st1.foot c → h5 c = none) ∧ Keeps h5 hh) ?_
    ⟨Sl.nil, Sl.nil, rfl, Buf.nil, Buf.nil, Nat.zero_le _, fun c g => g.elim (fun ⟨_, e, _⟩ => (by cases e)) fun ⟨_, e, _⟩ => (by cases e), .refl _⟩
  rintro rec j _ hh hj ⟨so1, st1, rfl, bo1, bt1, lt1, fr1, kh⟩ more
  refine w_if' (fun c => ?_) fun c => ?_
  · have c : (j : Int) < (s5.len : Int) := c
    have hjl : j < m.ob.length := by omega
    have ht := List.getElem?_eq_getElem hjl
    generalize m.ob[j] = q at ht
    have hk : (m.ob.map (·.1))[j]? = some q.1 := by rw [List.getElem?_map, ht]; rfl
    have lo := bo1.len
    rw [List.length_map, List.length_take, List.length_map] at lo
    refine w_get ci_len (b5.keep kh).arr hk rfl (v' := q.1) rfl (w_lookup (keyP (by kernel_rfl)) (m75.keep kh) ?_)
    refine w_app (cells := S_api_Object.cells) (sz := 2) (by_ := 32) (e := N_api_Object) (fun _ => rfl) rfl bo1 [(⟨q.1, (alook sd7 q.1).getD Sl.nil⟩ : S_api_Object)] rfl rfl (.inl (by rw [List.length_map, List.length_take, List.length_map]; simp only [List.length_singleton]; omega)) fun s6 h6 b6 bt6 f6 d6 => ?_
    have k6 : Keeps h5 h6 := kh.but bt6 fun c g => fr1 c (.inl g)
    have bt6' : Buf S_api_Token.cells 5 N_api_Token h6 st1 _ := bt1.but bt6 fun ad ha g => (bt1.typed ⟨ad, ha, rfl⟩).ne (bo1.typed g) (by decide) rfl
    have fs : (m.ob.take (j + 1)).foldl (fun out q => belowO m.ts q.1 (m.ts.length + 1) 0 (-1) out) [] = belowO m.ts q.1 (m.ts.length + 1) 0 (-1) ((m.ob.take j).foldl (fun out q => belowO m.ts q.1 (m.ts.length + 1) 0 (-1) out) []) := by rw [List.take_add_one, ht, List.foldl_append]; rfl
    have fo : ((m.ob.map (·.1)).take (j + 1)).map (fun k => (⟨k, (alook sd7 k).getD Sl.nil⟩ : S_api_Object)) = ((m.ob.map (·.1)).take j).map (fun k => (⟨k, (alook sd7 k).getD Sl.nil⟩ : S_api_Object)) ++ [⟨q.1, (alook sd7 q.1).getD Sl.nil⟩] := by rw [List.take_add_one, hk, List.map_append]; rfl
    refine t_below i (x5.keep k6) bt6' (fun c g g' => x5.has c g' (fr1 c (.inr g))) (by omega) fun s7 h7 b7 ln7 bt7 f7 d7' => ?_
    have k7 : Keeps h5 h7 := k6.but bt7 fun c g => fr1 c (.inr g)
    refine more _ _ hjl ⟨s6, s7, by rw [ia1 j (by omega)], by rw [fo]; exact b6.but bt7 fun ad ha g => (b6.typed ⟨ad, ha, rfl⟩).ne (bt6'.typed g) (by decide) rfl, by rw [fs]; exact b7, by rw [fs]; omega, fun c g => ?_, k7⟩
    rcases g with g | g
    · exact (f6 c g).elim (fun g => fr1 c (.inl g)) fun z => kh.fresh z
    · exact (f7 c g).elim (fun g => fr1 c (.inr g)) fun z => k6.fresh z
  have c : ¬ (j : Int) < (s5.len : Int) := c
  clear more rec
  have ej : m.ob.take j = m.ob := List.take_of_length_le (by omega)
  have ej' : (m.ob.map (·.1)).take j = m.ob.map (·.1) := List.take_of_length_le (by rw [List.length_map]; omega)
  rw [ej] at bt1
  rw [ej'] at bo1
  have k0h := k05.trans kh
  have m85 := (m84.keep k5).keep kh
  refine t_keysL m85 (by omega) fun s9 h9 b9 k9 f9 => ?_
  rw [e8, isort_eq pm8, isort_rise r.ls] at b9
  have hl9 := b9.len
  rw [List.length_map] at hl9
  have m89 := m85.keep k9
  refine w_for m.ls.length (fun j (z : Int × Sl × Sl × Sl × Int × Int × Int) h10 => ∃ sp1, z = ((j : Int), so1, st1, sp1, m.ni, m.np, (m.tk : Int)) ∧ Buf S_api_Process.cells 2 N_api_Process h10 sp1 (((m.ls.map (·.1)).take j).map fun k => (⟨k, (alook sd8 k).getD Sl.nil⟩ : S_api_Process)) ∧ (∀ c, sp1.foot c → h9 c = none) ∧ Keeps h9 h10) ?_
    ⟨Sl.nil, rfl, Buf.nil, fun c ⟨_, e, _⟩ => (by cases e), .refl _⟩
  rintro rec j _ h10 hj ⟨sp1, rfl, bp1, fp1, k10⟩ more
  refine w_if' (fun c => ?_) fun c => ?_
  · have c : (j : Int) < (s9.len : Int) := c
    have hjl : j < m.ls.length := by omega
    have ht := List.getElem?_eq_getElem hjl
    generalize m.ls[j] = q at ht
    have hk : (m.ls.map (·.1))[j]? = some q.1 := by rw [List.getElem?_map, ht]; rfl
    refine w_get ci_len (b9.keep k10).arr hk rfl (v' := q.1) rfl (w_lookup (keyP (by kernel_rfl)) (m89.keep k10) ?_)
    refine w_app (cells := S_api_Process.cells) (sz := 2) (by_ := 32) (e := N_api_Process) (fun _ => rfl) rfl bp1 [(⟨q.1, (alook sd8 q.1).getD Sl.nil⟩ : S_api_Process)] rfl rfl (.inl (by rw [List.length_map, List.length_take, List.length_map]; simp only [List.length_singleton]; omega)) fun s6 h6 b6 bt6 f6 d6 => ?_
    have fo : ((m.ls.map (·.1)).take (j + 1)).map (fun k => (⟨k, (alook sd8 k).getD Sl.nil⟩ : S_api_Process)) = ((m.ls.map (·.1)).take j).map (fun k => (⟨k, (alook sd8 k).getD Sl.nil⟩ : S_api_Process)) ++ [⟨q.1, (alook sd8 q.1).getD Sl.nil⟩] := by rw [List.take_add_one, hk, List.map_append]; rfl
    exact more _ _ hjl ⟨s6, by rw [ia1 j (by omega)], by rw [fo]; exact b6, fun c g => (f6 c g).elim (fp1 c) fun z => k10.fresh z, k10.but bt6 fun c g => fp1 c g⟩
  have c : ¬ (j : Int) < (s9.len : Int) := c
  have ej8 : (m.ls.map (·.1)).take j = m.ls.map (·.1) := List.take_of_length_le (by rw [List.length_map]; omega)
  rw [ej8] at bp1
  have kx := (k5.trans kh).trans (k9.trans k10)
  have ky := kh.trans (k9.trans k10)
  have r7 := ((r74.but (But.of (F := fun _ => False) kx) fun _ _ _ _ _ z => z).order i.obo pm7).mono (F' := fun c => G7 c ∨ G8 c) fun _ g => .inl g
  have r8 := ((r84.but (But.of (F := fun _ => False) kx) fun _ _ _ _ _ z => z).order i.lso pm8).mono (F' := fun c => G7 c ∨ G8 c) fun _ g => .inr g
  refine y _ h10 ((m.ob.map (·.1)).map fun k => (k, (alook sd7 k).getD Sl.nil)) ((m.ls.map (·.1)).map fun k => (k, (alook sd8 k).getD Sl.nil)) (fun c => G7 c ∨ G8 c) ⟨?_, r7, bt1.keep (k9.trans k10), ?_, r8, ⟨rfl, rfl, rfl⟩, fun c g => ?_⟩ (k4.trans kx)
  · rw [List.map_map]; exact bo1.keep (k9.trans k10)
  · rw [List.map_map]; exact bp1
  · rcases g with g | g | g | g | g
    · exact k05.fresh (fr1 c (.inl g))
    · exact k05.fresh (fr1 c (.inr g))
    · exact k0h.fresh (k9.fresh (fp1 c g))
    · exact k12.fresh (f7 c g)
    · exact k3.fresh (f8 c g)
end
end Go.Proofs.YtbjkfllncegpcaaGreat.K
namespace Go.Proofs.YtbjkfllncegpcaaGreat.K
open Go Go.Proofs
def m_ref21_in (a0 : Int) (a1 : Int) (a2 : Int) (K : (Bool) → H → Prop) : H → Prop :=
 K ((decide (a1 ≤ a0)) && (decide (a0 ≤ a2)))
def x_ref21_in : Cx Tryz.prog := ⟨tys, [], [], [], mixed⟩
def h_ref21_in : Hint := (.seq .d (.seq (.reg (.run [3, 7, 11, 15] (.sel 10 14 30720 (.run [19, 23, 27, 31] .nil) (.run [19, 23, 27, 31] .nil) (.run [35] .nil)))) .d))
def s_ref21_in : Spec Tryz.prog := mkSpec x_ref21_in 17 Tryz.f17 [(tInt .i64), (tInt .i64), (tInt .i64)] [tBool] true h_ref21_in (fun a => m_ref21_in a.1 a.2.1 a.2.2) (fun a K h => by kernel_rfl) callee17 rfl
def m_ref21_May (a0 : S_api_Config) (K : (Bool) → H → Prop) : H → Prop :=
 mPure (m_ref21_in a0.Width 1 128) fun r1 =>
 mJoin (fun (s3 : Bool) =>
 mJoin (fun (s6 : Bool) =>
 mJoin (fun (s9 : Bool) =>
 mJoin (fun (s12 : Bool) =>
 mJoin (fun (s15 : Bool) =>
 mJoin (fun (s18 : Bool) =>
 mJoin (fun (s21 : Bool) =>
 mJoin (fun (s24 : Bool) =>
 mIf s24 (
 mPure (m_ref21_in a0.Knob 0 64) fun r27 =>
 K r27
 ) (
 K false
 )
 ) (fun j25 =>
 mIf s21 (
 mPure (m_ref21_in a0.Ways 1 4) fun r28 =>
 j25 r28
 ) (
 j25 false
 ))
 ) (fun j22 =>
 mIf s18 (
 mPure (m_ref21_in a0.Sets 0 16) fun r29 =>
 j22 r29
 ) (
 j22 false
 ))
 ) (fun j19 =>
 mIf s15 (
 mPure (m_ref21_in a0.List 1 32) fun r30 =>
 j19 r30
 ) (
 j19 false
 ))
 ) (fun j16 =>
 mIf s12 (
 mPure (m_ref21_in a0.Procs 1 32) fun r31 =>
 j16 r31
 ) (
 j16 false
 ))
 ) (fun j13 =>
 mIf s9 (
 mPure (m_ref21_in a0.Quota 1 256) fun r32 =>
 j13 r32
 ) (
 j13 false
 ))
 ) (fun j10 =>
 mIf s6 (
 mPure (m_ref21_in a0.Entries 1 256) fun r33 =>
 j10 r33
 ) (
 j10 false
 ))
 ) (fun j7 =>
 mIf s3 (
 mPure (m_ref21_in a0.Pages 1 256) fun r34 =>
 j7 r34
 ) (
 j7 false
 ))
 ) (fun j4 =>
 mIf r1 (
 mPure (m_ref21_in a0.Objects 1 64) fun r35 =>
 j4 r35
 ) (
 j4 false
 ))
def x_ref21_May : Cx Tryz.prog := ⟨tys, [s_ref21_in], [1], [], mixed⟩
def h_ref21_May : Hint := (.seq .d (.seq (.reg (.run [3, 7, 11, 15] (.join [.slot 10 tBool] 1920 [] (.split 6 (.run [19, 23, 27, 31] .nil) (.run [19, 23, 27, 31] .nil)) (.run [35] (.join [.slot 15 tBool] 61440 [] (.split 11 (.run [39, 43, 47, 51] .nil) (.run [39, 43, 47, 51] .nil)) (.run [55] (.join [.slot 20 tBool] 1966080 [] (.split 16 (.run [59, 63, 67, 71] .nil) (.run [59, 63, 67, 71] .nil)) (.run [75] (.join [.slot 25 tBool] 62914560 [] (.split 21 (.run [79, 83, 87, 91] .nil) (.run [79, 83, 87, 91] .nil)) (.run [95] (.join [.slot 30 tBool] 2013265920 [] (.split 26 (.run [99, 103, 107, 111] .nil) (.run [99, 103, 107, 111] .nil)) (.run [115] (.join [.slot 35 tBool] 64424509440 [] (.split 31 (.run [119, 123, 127, 131] .nil) (.run [119, 123, 127, 131] .nil)) (.run [135] (.join [.slot 40 tBool] 2061584302080 [] (.split 36 (.run [139, 143, 147, 151] .nil) (.run [139, 143, 147, 151] .nil)) (.run [155] (.join [.slot 45 tBool] 65970697666560 [] (.split 41 (.run [159, 163, 167, 171] .nil) (.run [159, 163, 167, 171] .nil)) (.run [175] (.split 46 (.run [179, 183, 187, 191, 195] .nil) (.run [179, 183, 187, 191, 195] .nil)))))))))))))))))))) .d))
def s_ref21_May : Spec Tryz.prog := mkSpec x_ref21_May 6 Tryz.f6 [S_api_Config.ty] [tBool] true h_ref21_May (fun a => m_ref21_May a) (fun a K h => by kernel_rfl) callee6 rfl
def m_ref21_New (a0 : S_api_Config) (a1 : Sl) (K : (Option Addr) → H → Prop) : H → Prop :=
 mNew 36 #[] fun ad1 =>
 mJoin (fun (s2 : Sl × Sl) =>
 mNew 70 #[(Value.int .i64 a0.Width), (Value.int .i64 a0.Objects), (Value.int .i64 a0.Pages), (Value.int .i64 a0.Entries), (Value.int .i64 a0.Quota), (Value.int .i64 a0.Procs), (Value.int .i64 a0.List), (Value.int .i64 a0.Sets), (Value.int .i64 a0.Ways), (Value.int .i64 a0.Knob), (Sl.val s2.1), (Value.int .i64 0), (Sl.val Sl.nil), (Sl.val Sl.nil), (Sl.val s2.2), (Value.int .i64 1), (Value.int .i64 1), (Value.int .i64 1)] fun ad8 =>
 K (some ad8)
 ) (fun j3 =>
 mBoth (
 mAppend 36 2 16 #[(Value.int .u64 0), (Value.int .u64 0)] (⟨some ad1, 0, 0⟩ : Sl) a1 fun s4 =>
 mNew 67 #[(Value.int .i64 0), (Sl.val Sl.nil)] fun ad5 =>
 j3 (s4, (⟨some ad5, 1, 1⟩ : Sl))
 ) (
 mNew 67 #[(Value.int .i64 0), (Sl.val Sl.nil)] fun ad6 =>
 mAppend 36 2 16 #[(Value.int .u64 0), (Value.int .u64 0)] (⟨some ad1, 0, 0⟩ : Sl) a1 fun s7 =>
 j3 (s7, (⟨some ad6, 1, 1⟩ : Sl))
 ))
def x_ref21_New : Cx Tryz.prog := ⟨tys, [], [2], [], mixed⟩
def h_ref21_New : Hint := (.seq .d (.seq (.reg (.run [8, 16, 1, 6] (.join [.slot 8 tSl, .slot 10 tSl] 1280 [] (.both 3 5 (.run [22] .nil) (.run [15] .nil)) (.run [24, 30, 32] .nil)))) .d))
def s_ref21_New : Spec Tryz.prog := mkSpec x_ref21_New 7 Tryz.f7 [S_api_Config.ty, tSl] [tPtr] false h_ref21_New (fun a => m_ref21_New a.1 a.2) (fun a K h => by kernel_rfl) callee7 rfl
def m_ref21_small (a0 : Int) (K : (Bool) → H → Prop) : H → Prop :=
 K ((decide ((-2147483648) ≤ a0)) && (decide (a0 ≤ 2147483647)))
def x_ref21_small : Cx Tryz.prog := ⟨tys, [], [], [], mixed⟩
def h_ref21_small : Hint := (.seq .d (.seq (.reg (.run [3, 7, 11] (.sel 5 8 448 (.run [15, 19, 23] .nil) (.run [15, 19, 23] .nil) (.run [27] .nil)))) .d))
def s_ref21_small : Spec Tryz.prog := mkSpec x_ref21_small 48 Tryz.f48 [(tInt .i64)] [tBool] true h_ref21_small (fun a => m_ref21_small a) (fun a K h => by kernel_rfl) callee48 rfl
def m_ref21_with (a0 : ByteArray) (a1 : Int) (K : (Bool) → H → Prop) : H → Prop :=
 mLoop (fun (rec2 : Int → H → Prop) (s1 : Int) =>
 mIf (decide (s1 < (a0.size : Int))) (
 mByte a0 s1 fun x3 =>
 mIf (decide (x3 = a1)) (
 K true
 ) (
 rec2 (iAdd .i64 s1 1)
 )
 ) (
 K false
 )
 ) 0
def x_ref21_with : Cx Tryz.prog := ⟨tys, [], [], [], mixed⟩
def h_ref21_with : Hint := (.seq .d (.seq (.seq .d (.blk (.loop [.slot 5 (tInt .i64)] 131056 [] .d))) .d))
def s_ref21_with : Spec Tryz.prog := mkSpec x_ref21_with 79 Tryz.f79 [tStr, (tInt .u8)] [tBool] true h_ref21_with (fun a => m_ref21_with a.1 a.2) (fun a K h => by kernel_rfl) callee79 rfl
def m_ref21_zero (a0 : S_api_Call) (a1 : ByteArray) (K : (Bool) → H → Prop) : H → Prop :=
 mPure (m_ref21_with a1 115) fun r1 =>
 mJoin (fun (s3 : Bool) =>
 mJoin (fun (s6 : Bool) =>
 mJoin (fun (s9 : Bool) =>
 mJoin (fun (s12 : Bool) =>
 mJoin (fun (s15 : Bool) =>
 mJoin (fun (s18 : Bool) =>
 mJoin (fun (s21 : Bool) =>
 mIf s21 (
 mPure (m_ref21_with a1 102) fun r24 =>
 K (r24 || (decide ((a0.Gifts.len : Int) = 0)))
 ) (
 K false
 )
 ) (fun j22 =>
 mIf s18 (
 mPure (m_ref21_with a1 105) fun r25 =>
 j22 (r25 || (decide (a0.Index = 0)))
 ) (
 j22 false
 ))
 ) (fun j19 =>
 mIf s15 (
 mPure (m_ref21_with a1 100) fun r26 =>
 j19 (r26 || (decide ((a0.Data.len : Int) = 0)))
 ) (
 j19 false
 ))
 ) (fun j16 =>
 mIf s12 (
 mPure (m_ref21_with a1 110) fun r27 =>
 j16 (r27 || (decide (a0.N = 0)))
 ) (
 j16 false
 ))
 ) (fun j13 =>
 mIf s9 (
 mPure (m_ref21_with a1 111) fun r28 =>
 j13 (r28 || (decide (a0.Off = 0)))
 ) (
 j13 false
 ))
 ) (fun j10 =>
 mIf s6 (
 mPure (m_ref21_with a1 114) fun r29 =>
 j10 (r29 || (decide (a0.Rights = 0)))
 ) (
 j10 false
 ))
 ) (fun j7 =>
 mIf s3 (
 mPure (m_ref21_with a1 103) fun r30 =>
 j7 (r30 || (!a0.Given))
 ) (
 j7 false
 ))
 ) (fun j4 =>
 mIf (r1 || (decide (a0.Size = 0))) (
 mPure (m_ref21_with a1 99) fun r31 =>
 j4 (r31 || ((decide (a0.Cap.Obj = 0)) && (((decide (a0.Cap.Pass.Hi = 0)) && ((decide (a0.Cap.Pass.Lo = 0)) && true)) && true)))
 ) (
 j4 false
 ))
def x_ref21_zero : Cx Tryz.prog := ⟨tys, [s_ref21_with], [2], [], mixed⟩
def h_ref21_zero : Hint := (.seq .d (.seq (.reg (.run [3, 7, 11] (.sel 7 11 3840 (.run [15, 19, 23, 27] .nil) (.run [15, 19, 23, 27] .nil) (.run [31] (.join [.slot 21 tBool] 4186112 [] (.split 12 (.run [35, 39, 43] (.sel 15 20 2031616 (.run [47, 51, 55, 59, 63] .nil) (.run [47, 51, 55, 59, 63] .nil) (.run [67] .nil))) (.run [35, 39, 43, 47, 51, 55, 59, 63, 67] .nil)) (.run [71] (.join [.slot 30 tBool] 2139095040 [] (.split 22 (.run [75, 79, 83] (.sel 25 29 1006632960 (.run [87, 91, 95, 99] .nil) (.run [87, 91, 95, 99] .nil) (.run [103] .nil))) (.run [75, 79, 83, 87, 91, 95, 99, 103] .nil)) (.run [107] (.join [.slot 39 tBool] 1095216660480 [] (.split 31 (.run [111, 115, 119] (.sel 34 38 515396075520 (.run [123, 127, 131, 135] .nil) (.run [123, 127, 131, 135] .nil) (.run [139] .nil))) (.run [111, 115, 119, 123, 127, 131, 135, 139] .nil)) (.run [143] (.join [.slot 48 tBool] 560750930165760 [] (.split 40 (.run [147, 151, 155] (.sel 43 47 263882790666240 (.run [159, 163, 167, 171] .nil) (.run [159, 163, 167, 171] .nil) (.run [175] .nil))) (.run [147, 151, 155, 159, 163, 167, 171, 175] .nil)) (.run [179] (.join [.slot 57 tBool] 287104476244869120 [] (.split 49 (.run [183, 187, 191] (.sel 52 56 135107988821114880 (.run [195, 199, 203, 207] .nil) (.run [195, 199, 203, 207] .nil) (.run [211] .nil))) (.run [183, 187, 191, 195, 199, 203, 207, 211] .nil)) (.run [215] (.join [.slot 67 tBool] 294571444427049402368 [] (.split 58 (.run [219, 223, 227] (.sel 61 66 142962266571249025024 (.run [231, 235, 239, 243, 247] .nil) (.run [231, 235, 239, 243, 247] .nil) (.run [251] .nil))) (.run [219, 223, 227, 231, 235, 239, 243, 247, 251] .nil)) (.run [255] (.join [.slot 76 tBool] 150525431641469941186560 [] (.split 68 (.run [259, 263, 267] (.sel 71 75 70835497243044678205440 (.run [271, 275, 279, 283] .nil) (.run [271, 275, 279, 283] .nil) (.run [287] .nil))) (.run [259, 263, 267, 271, 275, 279, 283, 287] .nil)) (.run [291] (.split 77 (.run [295, 299, 303] (.sel 80 85 74953400816107008831782912 (.run [307, 311, 315, 319, 323] .nil) (.run [307, 311, 315, 319, 323] .nil) (.run [327, 331] .nil))) (.run [295, 299, 303, 307, 311, 315, 319, 323, 327, 331] .nil)))))))))))))))))))) .d))
def s_ref21_zero : Spec Tryz.prog := mkSpec x_ref21_zero 49 Tryz.f49 [S_api_Call.ty, tStr] [tBool] true h_ref21_zero (fun a => m_ref21_zero a.1 a.2) (fun a K h => by kernel_rfl) callee49 rfl
def m_ref21_Is (a0 : S_api_Call) (K : (Bool) → H → Prop) : H → Prop :=
 mPure (m_ref21_in a0.By 0 65535) fun r1 =>
 mJoin (fun (s3 : Bool) =>
 mJoin (fun (s6 : Bool) =>
 mJoin (fun (s9 : Bool) =>
 mJoin (fun (s12 : Bool) =>
 mJoin (fun (s15 : Bool) =>
 mJoin (fun (s18 : Bool) =>
 mIf (s18 || (decide (255 < (a0.Gifts.len : Int)))) (
 K false
 ) (
 mLoop (fun (rec21 : Int → H → Prop) (s20 : Int) =>
 mIf (decide (s20 < (a0.Gifts.len : Int))) (
 mIdx a0.Gifts s20 1 fun ad22 =>
 mLoad (cInt .i64) ad22 fun x23 =>
 mPure (m_ref21_in x23 0 65535) fun r24 =>
 mIf (!r24) (
 K false
 ) (
 rec21 (iAdd .i64 s20 1)
 )
 ) (
 mIf (decide (a0.Op = 1)) (
 mPure (m_ref21_zero a0 (ByteArray.mk #[115])) fun r25 =>
 K r25
 ) (
 mJoin (fun (s26 : Bool) =>
 mIf s26 (
 mPure (m_ref21_zero a0 (ByteArray.mk #[99])) fun r28 =>
 K r28
 ) (
 mIf (decide (a0.Op = 3)) (
 mPure (m_ref21_zero a0 (ByteArray.mk #[99, 114])) fun r29 =>
 K r29
 ) (
 mIf (decide (a0.Op = 5)) (
 mPure (m_ref21_zero a0 (ByteArray.mk #[99, 103, 111, 110])) fun r30 =>
 K (r30 && (a0.Given || ((decide (a0.Cap.Pass.Hi = 0)) && ((decide (a0.Cap.Pass.Lo = 0)) && true))))
 ) (
 mIf (decide (a0.Op = 6)) (
 mPure (m_ref21_zero a0 (ByteArray.mk #[99, 103, 111, 100])) fun r31 =>
 K (r31 && (a0.Given || ((decide (a0.Cap.Pass.Hi = 0)) && ((decide (a0.Cap.Pass.Lo = 0)) && true))))
 ) (
 mIf (decide (a0.Op = 8)) (
 mPure (m_ref21_zero a0 (ByteArray.mk #[105])) fun r32 =>
 K r32
 ) (
 mIf (decide (a0.Op = 9)) (
 mPure (m_ref21_zero a0 (ByteArray.mk #[102])) fun r33 =>
 K r33
 ) (
 mIf (decide (a0.Op = 10)) (
 mPure (m_ref21_zero a0 (ByteArray.mk #[])) fun r34 =>
 K r34
 ) (
 K false
 )
 )
 )
 )
 )
 )
 )
 ) (fun j27 =>
 mIf (decide (a0.Op = 2)) (
 j27 (decide (a0.Op = 2))
 ) (
 mIf (decide (a0.Op = 4)) (
 j27 (decide (a0.Op = 4))
 ) (
 j27 (decide (a0.Op = 7))
 )
 )
 )
 )
 )
 ) 0
 )
 ) (fun j19 =>
 mIf (s15 || (decide (1025 < (a0.Data.len : Int)))) (
 j19 true
 ) (
 mPure (m_ref21_in a0.Index 0 65535) fun r35 =>
 j19 (!r35)
 ))
 ) (fun j16 =>
 mIf s12 (
 j16 true
 ) (
 mPure (m_ref21_in a0.Rights 0 255) fun r36 =>
 j16 (!r36)
 ))
 ) (fun j13 =>
 mIf s9 (
 j13 true
 ) (
 mPure (m_ref21_small a0.N) fun r37 =>
 j13 (!r37)
 ))
 ) (fun j10 =>
 mIf s6 (
 j10 true
 ) (
 mPure (m_ref21_small a0.Off) fun r38 =>
 j10 (!r38)
 ))
 ) (fun j7 =>
 mIf s3 (
 j7 true
 ) (
 mPure (m_ref21_small a0.Size) fun r39 =>
 j7 (!r39)
 ))
 ) (fun j4 =>
 mIf (!r1) (
 j4 true
 ) (
 mPure (m_ref21_in a0.Cap.Obj 0 4611686018427387904) fun r40 =>
 j4 (!r40)
 ))
def x_ref21_Is : Cx Tryz.prog := ⟨tys, [s_ref21_in, s_ref21_small, s_ref21_zero], [1], [], mixed⟩
def h_ref21_Is : Hint := (.seq .d (.seq (.seq (.reg (.run [3, 7, 11, 15, 19] (.join [.slot 14 tBool] 32256 [] (.split 8 (.run [23, 27, 31, 35, 39, 43] .nil) (.run [23, 27, 31, 35, 39, 43] .nil)) (.run [47] (.join [.slot 20 tBool] 2031616 [] (.split 15 (.run [51, 55, 59, 63, 67] .nil) (.run [51, 55, 59, 63, 67] .nil)) (.run [71] (.join [.slot 26 tBool] 130023424 [] (.split 21 (.run [75, 79, 83, 87, 91] .nil) (.run [75, 79, 83, 87, 91] .nil)) (.run [95] (.join [.slot 32 tBool] 8321499136 [] (.split 27 (.run [99, 103, 107, 111, 115] .nil) (.run [99, 103, 107, 111, 115] .nil)) (.run [119] (.join [.slot 38 tBool] 532575944704 [] (.split 33 (.run [123, 127, 131, 135, 139] .nil) (.run [123, 127, 131, 135, 139] .nil)) (.run [143] (.sel 39 44 34084860461056 (.run [147, 151, 155, 159, 163] .nil) (.run [147, 151, 155, 159, 163] .nil) (.run [167] (.join [.slot 50 tBool] 2181431069507584 [] (.split 45 (.run [171, 175, 179, 183, 187] .nil) (.run [171, 175, 179, 183, 187] .nil)) (.run [191] (.sel 51 56 139611588448485376 (.run [195, 199, 203, 207, 211] .nil) (.run [195, 199, 203, 207, 211] .nil) .nil))))))))))))))))) .d) (.seq (.seq .d (.blk (.loop [.slot 3 (tInt .i64)] 2361039126246746750988 [] .d))) (.seq (.seq .d (.blk (.seq .d (.cond .d (.join [.slot 77 tBool] 2266735911777429702574080 [] .d (.cond .d (.seq .d (.cond .d (.seq .d (.cond (.seq (.reg (.run [3, 7, 11] (.sel 91 101 5065650640755776084887216324608 (.run [15, 19, 23] (.sel 94 100 2495687119199326634196634435584 (.run [27, 31, 35, 39, 43, 47] .nil) (.run [27, 31, 35, 39, 43, 47] .nil) (.run [51] .nil))) (.run [15, 19, 23, 27, 31, 35, 39, 43, 47, 51] .nil) (.run [55] .nil)))) .d) (.seq .d (.cond (.seq (.reg (.run [3, 7, 11] (.sel 106 116 165991240196285270749584304524754944 (.run [15, 19, 23] (.sel 109 115 81778675521923535149355317185216512 (.run [27, 31, 35, 39, 43, 47] .nil) (.run [27, 31, 35, 39, 43, 47] .nil) (.run [51] .nil))) (.run [15, 19, 23, 27, 31, 35, 39, 43, 47, 51] .nil) (.run [55] .nil)))) .d) .d)))))))))))) .d))))
def s_ref21_Is : Spec Tryz.prog := mkSpec x_ref21_Is 18 Tryz.f18 [S_api_Call.ty] [tBool] false h_ref21_Is (fun a => m_ref21_Is a) (fun a K h => by kernel_rfl) callee18 rfl
def m_ref21_refused (a0 : Int) (K : (S_api_Reply) → H → Prop) : H → Prop :=
 K (⟨a0, ⟨0, ⟨0, 0⟩⟩, Sl.nil, 0⟩ : S_api_Reply)
def x_ref21_refused : Cx Tryz.prog := ⟨tys, [], [2], [], mixed⟩
def h_ref21_refused : Hint := .d
def s_ref21_refused : Spec Tryz.prog := mkSpec x_ref21_refused 19 Tryz.f19 [(tInt .i64)] [S_api_Reply.ty] true h_ref21_refused (fun a => m_ref21_refused a) (fun a K h => by kernel_rfl) callee19 rfl
def m_ref21_Model_proc (a0 : Option Addr) (a1 : Int) (K : (Int) → H → Prop) : H → Prop :=
 mLoop (fun (rec2 : Int → H → Prop) (s1 : Int) =>
 mDeref a0 fun ad3 =>
 mLoad cSl (ad3.add 14) fun x4 =>
 mIf (decide (s1 < (x4.len : Int))) (
 mDeref a0 fun ad5 =>
 mLoad cSl (ad5.add 14) fun x6 =>
 mIdx x6 s1 2 fun ad7 =>
 mLoad (cInt .i64) (ad7.add 0) fun x8 =>
 mIf (decide (x8 = a1)) (
 K s1
 ) (
 rec2 (iAdd .i64 s1 1)
 )
 ) (
 K (-1)
 )
 ) 0
def x_ref21_Model_proc : Cx Tryz.prog := ⟨tys, [], [], [], mixed⟩
def h_ref21_Model_proc : Hint := (.seq .d (.seq (.seq .d (.blk (.loop [.slot 5 (tInt .i64)] 67108848 [] .d))) .d))
def s_ref21_Model_proc : Spec Tryz.prog := mkSpec x_ref21_Model_proc 20 Tryz.f20 [tPtr, (tInt .i64)] [(tInt .i64)] false h_ref21_Model_proc (fun a => m_ref21_Model_proc a.1 a.2) (fun a K h => by kernel_rfl) callee20 rfl
def m_ref21_Cut (a0 : S_api_Word) (a1 : Int) (K : (S_api_Word) → H → Prop) : H → Prop :=
 mIf (decide (128 ≤ a1)) (
 K a0
 ) (
 mIf (decide (64 < a1)) (
 mNN (IntKind.wrap .u64 (iSub .i64 a1 64)) <|
 K (⟨(iAnd .u64 a0.Hi (iSub .u64 (iShl .u64 1 (IntKind.wrap .u64 (iSub .i64 a1 64))) 1)), a0.Lo⟩ : S_api_Word)
 ) (
 mIf (decide (a1 = 64)) (
 K (⟨0, a0.Lo⟩ : S_api_Word)
 ) (
 mNN (IntKind.wrap .u64 a1) <|
 K (⟨0, (iAnd .u64 a0.Lo (iSub .u64 (iShl .u64 1 (IntKind.wrap .u64 a1)) 1))⟩ : S_api_Word)
 )
 )
 )
def x_ref21_Cut : Cx Tryz.prog := ⟨tys, [], [2, 4], [], mixed⟩
def h_ref21_Cut : Hint := .d
def s_ref21_Cut : Spec Tryz.prog := mkSpec x_ref21_Cut 25 Tryz.f25 [S_api_Word.ty, (tInt .i64)] [S_api_Word.ty] true h_ref21_Cut (fun a => m_ref21_Cut a.1 a.2) (fun a K h => by kernel_rfl) callee25 rfl
def m_ref21_Model_pages (a0 : Option Addr) (K : (Int) → H → Prop) : H → Prop :=
 mLoop (fun (rec2 : (Int × Int) → H → Prop) (s1 : Int × Int) =>
 mDeref a0 fun ad3 =>
 mLoad cSl (ad3.add 12) fun x4 =>
 mIf (decide (s1.2 < (x4.len : Int))) (
 mDeref a0 fun ad5 =>
 mLoad cSl (ad5.add 12) fun x6 =>
 mIdx x6 s1.2 2 fun ad7 =>
 mLoad cSl (ad7.add 1) fun x8 =>
 rec2 ((iAdd .i64 s1.1 (iQuo .i64 (iAdd .i64 (x8.len : Int) 63) 64)), (iAdd .i64 s1.2 1))
 ) (
 K s1.1
 )
 ) (0, 0)
def x_ref21_Model_pages : Cx Tryz.prog := ⟨tys, [], [], [], mixed⟩
def h_ref21_Model_pages : Hint := (.seq .d (.seq .d (.seq (.seq .d (.blk (.loop [.slot 3 (tInt .i64), .slot 4 (tInt .i64)] 134217720 [] .d))) .d)))
def s_ref21_Model_pages : Spec Tryz.prog := mkSpec x_ref21_Model_pages 50 Tryz.f50 [tPtr] [(tInt .i64)] false h_ref21_Model_pages (fun a => m_ref21_Model_pages a) (fun a K h => by kernel_rfl) callee50 rfl
def m_ref21_Model_create (a0 : Option Addr) (a1 : Int) (K : (S_api_Reply) → H → Prop) : H → Prop :=
 mIf ((decide (a1 < 0)) || (decide (4096 < a1))) (
 mPure (m_ref21_refused 6) fun r1 =>
 K r1
 ) (
 mDeref a0 fun ad2 =>
 mDeref a0 fun ad3 =>
 mLoad cSl (ad2.add 12) fun x4 =>
 mLoad (cInt .i64) ((ad3.add 0).add 1) fun x5 =>
 mJoin (fun (s8 : Bool) =>
 mIf s8 (
 mPure (m_ref21_refused 7) fun r10 =>
 K r10
 ) (
 mDeref a0 fun ad11 =>
 mJoin (fun (s12 : Int × Int) =>
 mIf (decide (s12.2 < s12.1)) (
 mPure (m_ref21_refused 8) fun r18 =>
 K r18
 ) (
 mDeref a0 fun ad19 =>
 mDeref a0 fun ad20 =>
 mLoad cSl (ad19.add 13) fun x21 =>
 mLoad (cInt .i64) ((ad20.add 0).add 3) fun x22 =>
 mIf (decide (x22 ≤ (x21.len : Int))) (
 mPure (m_ref21_refused 10) fun r23 =>
 K r23
 ) (
 mDeref a0 fun ad24 =>
 mDeref a0 fun ad25 =>
 mLoad (cInt .i64) (ad24.add 11) fun x26 =>
 mLoad cSl (ad25.add 10) fun x27 =>
 mIf (decide ((x27.len : Int) ≤ x26)) (
 mPure (m_ref21_refused 11) fun r28 =>
 K r28
 ) (
 mDeref a0 fun ad29 =>
 mDeref a0 fun ad30 =>
 mDeref a0 fun ad31 =>
 mDeref a0 fun ad32 =>
 mLoad cSl (ad30.add 10) fun x33 =>
 mLoad (cInt .i64) (ad31.add 11) fun x34 =>
 mIdx x33 x34 2 fun ad35 =>
 mLoad S_api_Word.cells ad35 fun x36 =>
 mLoad (cInt .i64) ((ad32.add 0).add 0) fun x37 =>
 mPure (m_ref21_Cut x36 x37) fun r38 =>
 mLoad (cInt .i64) (ad29.add 15) fun x39 =>
 mDeref a0 fun ad40 =>
 mLoad (cInt .i64) (ad40.add 11) fun x41 =>
 mDeref a0 fun ad42 =>
 mStore (ad42.add 11) [(Value.int .i64 (iAdd .i64 x41 1))] <|
 mDeref a0 fun ad43 =>
 mLoad (cInt .i64) (ad43.add 15) fun x44 =>
 mDeref a0 fun ad45 =>
 mStore (ad45.add 15) [(Value.int .i64 (iAdd .i64 x44 1))] <|
 mDeref a0 fun ad46 =>
 mJoin (fun (s47 : Sl × Sl) =>
 mAppend 81 2 32 #[(Value.int .i64 0), (Sl.val Sl.nil)] s47.1 s47.2 fun s55 =>
 mDeref a0 fun ad56 =>
 mStore (ad56.add 12) [(Sl.val s55)] <|
 mDeref a0 fun ad57 =>
 mDeref a0 fun ad58 =>
 mLoad cSl (ad57.add 13) fun x59 =>
 mLoad (cInt .i64) (ad58.add 17) fun x60 =>
 mApp 92 6 48 #[(Value.int .i64 0), (Value.int .i64 0), (Value.int .i64 0), (Value.int .u64 0), (Value.int .u64 0), (Value.int .i64 0)] 1 [(Value.int .i64 x60), (Value.int .i64 0), (Value.int .i64 x39), (Value.int .u64 r38.Hi), (Value.int .u64 r38.Lo), (Value.int .i64 31)] x59 fun s61 =>
 mDeref a0 fun ad62 =>
 mStore (ad62.add 13) [(Sl.val s61)] <|
 mDeref a0 fun ad63 =>
 mLoad (cInt .i64) (ad63.add 17) fun x64 =>
 mDeref a0 fun ad65 =>
 mStore (ad65.add 17) [(Value.int .i64 (iAdd .i64 x64 1))] <|
 K (⟨0, ⟨x39, ⟨r38.Hi, r38.Lo⟩⟩, Sl.nil, 0⟩ : S_api_Reply)
 ) (fun j48 =>
 mBoth (
 mLoad cSl (ad46.add 12) fun x49 =>
 mMake 5 1 #[(Value.int .u8 0)] a1 a1 fun s50 =>
 mNew 81 #[(Value.int .i64 x39), (Sl.val s50)] fun ad51 =>
 j48 (x49, (⟨some ad51, 1, 1⟩ : Sl))
 ) (
 mMake 5 1 #[(Value.int .u8 0)] a1 a1 fun s52 =>
 mLoad cSl (ad46.add 12) fun x53 =>
 mNew 81 #[(Value.int .i64 x39), (Sl.val s52)] fun ad54 =>
 j48 (x53, (⟨some ad54, 1, 1⟩ : Sl))
 ))
 )
 )
 )
 ) (fun j13 =>
 mBoth (
 m_ref21_Model_pages a0 fun r14 =>
 mLoad (cInt .i64) ((ad11.add 0).add 2) fun x15 =>
 j13 ((iAdd .i64 r14 (iQuo .i64 (iAdd .i64 a1 63) 64)), x15)
 ) (
 mLoad (cInt .i64) ((ad11.add 0).add 2) fun x16 =>
 m_ref21_Model_pages a0 fun r17 =>
 j13 ((iAdd .i64 r17 (iQuo .i64 (iAdd .i64 a1 63) 64)), x16)
 ))
 )
 ) (fun j9 =>
 mIf (decide (x5 ≤ (x4.len : Int))) (
 j9 true
 ) (
 mDeref a0 fun ad66 =>
 mLoad (cInt .i64) (ad66.add 15) fun x67 =>
 j9 (decide (4611686018427387904 < x67))
 ))
 )
def x_ref21_Model_create : Cx Tryz.prog := ⟨tys, [s_ref21_refused, s_ref21_Cut, s_ref21_Model_pages], [4, 5, 128], [], mixed⟩
def h_ref21_Model_create : Hint := (.seq .d (.seq (.seq (.reg (.run [3, 7, 11] (.sel 8 11 3584 (.run [15, 19, 23] .nil) (.run [15, 19, 23] .nil) .nil))) .d) (.seq (.seq (.reg (.run [0, 4, 8, 20, 24, 28, 32, 14, 16, 38, 40, 44] (.join [.slot 30 tBool] 2113929216 [] (.split 24 (.run [48, 52, 56, 60, 64, 68] .nil) (.run [48, 52, 56, 62, 64, 68] .nil)) .nil))) .d) (.seq (.seq (.reg (.run [0, 8, 12, 16, 24, 28, 32, 36] (.join [.slot 37 (tInt .i64), .slot 42 (tInt .i64)] 4544075399168 [] (.both 1 10 (.run [20, 42] .nil) (.run [7, 20] .nil)) (.run [44] .nil)))) .d) (.seq (.seq (.reg (.run [0, 4, 8, 20, 24, 28, 32, 14, 16, 38, 40] .nil)) .d) (.seq (.seq (.reg (.run [0, 4, 8, 16, 20, 24, 14, 30, 32, 36] .nil)) .d) (.seq (.reg (.run [0, 4, 8, 16, 20, 24, 32, 36, 40, 56, 60, 64, 68, 30, 46, 48, 54, 74, 76, 14, 80, 86, 91] .nil)) (.seq .d (.seq .d (.seq (.reg (.run [0, 4, 8, 12, 20, 28, 25] (.join [.slot 107 tSl, .slot 113 tSl] 18335298281701110063248315162558464 [] (.both 4 8 (.run [35, 36, 42] .nil) (.run [36, 18, 42] .nil)) (.run [47, 48, 52, 59] .nil)))) (.seq (.reg (.run [0, 4, 8, 12, 20, 24, 28, 37, 18, 34, 40, 46, 51, 52, 56, 63] .nil)) .d)))))))))))
def s_ref21_Model_create : Spec Tryz.prog := mkSpec x_ref21_Model_create 21 Tryz.f21 [tPtr, (tInt .i64)] [S_api_Reply.ty] false h_ref21_Model_create (fun a => m_ref21_Model_create a.1 a.2) (fun a K h => by kernel_rfl) callee21 rfl
def m_ref21_Model_live (a0 : Option Addr) (a1 : S_api_Cap) (K : (Int) → H → Prop) : H → Prop :=
 mLoop (fun (rec2 : Int → H → Prop) (s1 : Int) =>
 mDeref a0 fun ad3 =>
 mLoad cSl (ad3.add 13) fun x4 =>
 mIf (decide (s1 < (x4.len : Int))) (
 mDeref a0 fun ad5 =>
 mLoad cSl (ad5.add 13) fun x6 =>
 mIdx x6 s1 6 fun ad7 =>
 mLoad S_api_Cap.cells (ad7.add 2) fun x8 =>
 mIf ((decide (x8.Obj = a1.Obj)) && (((decide (x8.Pass.Hi = a1.Pass.Hi)) && ((decide (x8.Pass.Lo = a1.Pass.Lo)) && true)) && true)) (
 K s1
 ) (
 rec2 (iAdd .i64 s1 1)
 )
 ) (
 K (-1)
 )
 ) 0
def x_ref21_Model_live : Cx Tryz.prog := ⟨tys, [], [3], [], mixed⟩
def h_ref21_Model_live : Hint := (.seq .d (.seq (.seq .d (.blk (.loop [.slot 5 (tInt .i64)] 67108848 [] (.seq .d (.seq (.blk (.seq (.reg (.run [0, 4, 8, 16, 33, 14, 20, 24, 30, 36] .nil)) .d)) .d))))) .d))
def s_ref21_Model_live : Spec Tryz.prog := mkSpec x_ref21_Model_live 51 Tryz.f51 [tPtr, S_api_Cap.ty] [(tInt .i64)] false h_ref21_Model_live (fun a => m_ref21_Model_live a.1 a.2) (fun a K h => by kernel_rfl) callee51 rfl
def m_ref21_Model_without (a0 : Option Addr) (a1 : Int) (K : (Unit) → H → Prop) : H → Prop :=
 mLoop (fun (rec2 : (Sl × Int) → H → Prop) (s1 : Sl × Int) =>
 mDeref a0 fun ad3 =>
 mLoad cSl (ad3.add 12) fun x4 =>
 mIf (decide (s1.2 < (x4.len : Int))) (
 mDeref a0 fun ad5 =>
 mLoad cSl (ad5.add 12) fun x6 =>
 mIdx x6 s1.2 2 fun ad7 =>
 mLoad (cInt .i64) (ad7.add 0) fun x8 =>
 mIf (!decide (x8 = a1)) (
 mDeref a0 fun ad9 =>
 mLoad cSl (ad9.add 12) fun x10 =>
 mIdx x10 s1.2 2 fun ad11 =>
 mLoad S_api_Object.cells ad11 fun x12 =>
 mApp 81 2 32 #[(Value.int .i64 0), (Sl.val Sl.nil)] 1 [(Value.int .i64 x12.Id), (Sl.val x12.Bytes)] s1.1 fun s13 =>
 rec2 (s13, (iAdd .i64 s1.2 1))
 ) (
 rec2 (s1.1, (iAdd .i64 s1.2 1))
 )
 ) (
 mLoop (fun (rec15 : (Sl × Int) → H → Prop) (s14 : Sl × Int) =>
 mDeref a0 fun ad16 =>
 mLoad cSl (ad16.add 13) fun x17 =>
 mIf (decide (s14.2 < (x17.len : Int))) (
 mDeref a0 fun ad18 =>
 mLoad cSl (ad18.add 13) fun x19 =>
 mIdx x19 s14.2 6 fun ad20 =>
 mLoad (cInt .i64) ((ad20.add 2).add 0) fun x21 =>
 mIf (!decide (x21 = a1)) (
 mDeref a0 fun ad22 =>
 mLoad cSl (ad22.add 13) fun x23 =>
 mIdx x23 s14.2 6 fun ad24 =>
 mLoad S_ref21_Held.cells ad24 fun x25 =>
 mApp 92 6 48 #[(Value.int .i64 0), (Value.int .i64 0), (Value.int .i64 0), (Value.int .u64 0), (Value.int .u64 0), (Value.int .i64 0)] 1 [(Value.int .i64 x25.No), (Value.int .i64 x25.Up), (Value.int .i64 x25.Cap.Obj), (Value.int .u64 x25.Cap.Pass.Hi), (Value.int .u64 x25.Cap.Pass.Lo), (Value.int .i64 x25.Rights)] s14.1 fun s26 =>
 rec15 (s26, (iAdd .i64 s14.2 1))
 ) (
 rec15 (s14.1, (iAdd .i64 s14.2 1))
 )
 ) (
 mDeref a0 fun ad27 =>
 mStore (ad27.add 12) [(Sl.val s1.1)] <|
 mDeref a0 fun ad28 =>
 mStore (ad28.add 13) [(Sl.val s14.1)] <|
 K ()
 )
 ) (Sl.nil, 0)
 )
 ) (Sl.nil, 0)
def x_ref21_Model_without : Cx Tryz.prog := ⟨tys, [], [35, 65], [], mixed⟩
def h_ref21_Model_without : Hint := (.seq .d (.seq (.seq .d (.blk (.loop [.slot 4 tSl, .slot 5 (tInt .i64)] 137438953264 [] .d))) (.seq .d (.seq (.seq .d (.blk (.loop [.slot 6 tSl, .slot 7 (tInt .i64)] 147573952452237459648 [] .d))) .d))))
def s_ref21_Model_without : Spec Tryz.prog := mkSpec x_ref21_Model_without 52 Tryz.f52 [tPtr, (tInt .i64)] [] false h_ref21_Model_without (fun a => m_ref21_Model_without a.1 a.2) (fun a K h => by kernel_rfl) callee52 rfl
def m_ref21_among (a0 : Sl) (a1 : Int) (K : (Bool) → H → Prop) : H → Prop :=
 mLoop (fun (rec2 : Int → H → Prop) (s1 : Int) =>
 mIf (decide (s1 < (a0.len : Int))) (
 mIdx a0 s1 1 fun ad3 =>
 mLoad (cInt .i64) ad3 fun x4 =>
 mIf (decide (x4 = a1)) (
 K true
 ) (
 rec2 (iAdd .i64 s1 1)
 )
 ) (
 K false
 )
 ) 0
def x_ref21_among : Cx Tryz.prog := ⟨tys, [], [], [], mixed⟩
def h_ref21_among : Hint := (.seq .d (.seq (.seq .d (.blk (.loop [.slot 5 (tInt .i64)] 262128 [] .d))) .d))
def s_ref21_among : Spec Tryz.prog := mkSpec x_ref21_among 53 Tryz.f53 [tSl, (tInt .i64)] [tBool] false h_ref21_among (fun a => m_ref21_among a.1 a.2) (fun a K h => by kernel_rfl) callee53 rfl
def m_ref21_Model_away (a0 : Option Addr) (a1 : S_api_Call) (K : (S_api_Reply) → H → Prop) : H → Prop :=
 m_ref21_Model_live a0 a1.Cap fun r1 =>
 mIf (decide (r1 < 0)) (
 mPure (m_ref21_refused 3) fun r2 =>
 K r2
 ) (
 mJoin (fun (s3 : Int) =>
 mDeref a0 fun ad5 =>
 mLoad cSl (ad5.add 13) fun x6 =>
 mIdx x6 r1 6 fun ad7 =>
 mLoad (cInt .i64) (ad7.add 5) fun x8 =>
 mIf (decide ((iAnd .i64 x8 s3) = 0)) (
 mPure (m_ref21_refused 4) fun r9 =>
 K r9
 ) (
 mJoin (fun (s14 : Bool) =>
 mIf s14 (
 m_ref21_Model_without a0 a1.Cap.Obj fun _ =>
 K (⟨0, ⟨0, ⟨0, 0⟩⟩, Sl.nil, 0⟩ : S_api_Reply)
 ) (
 mDeref a0 fun ad17 =>
 mLoad cSl (ad17.add 13) fun x18 =>
 mIdx x18 r1 6 fun ad19 =>
 mLoad (cInt .i64) (ad19.add 0) fun x20 =>
 mNew 3 #[(Value.int .i64 x20)] fun ad21 =>
 mLoop (fun (rec23 : (Sl × Int) → H → Prop) (s22 : Sl × Int) =>
 mDeref a0 fun ad24 =>
 mLoad cSl (ad24.add 13) fun x25 =>
 mIf (decide (s22.2 < (x25.len : Int))) (
 mDeref a0 fun ad26 =>
 mLoad cSl (ad26.add 13) fun x27 =>
 mIdx x27 s22.2 6 fun ad28 =>
 mLoad (cInt .i64) (ad28.add 1) fun x29 =>
 m_ref21_among s22.1 x29 fun r30 =>
 mIf r30 (
 mDeref a0 fun ad31 =>
 mLoad cSl (ad31.add 13) fun x32 =>
 mIdx x32 s22.2 6 fun ad33 =>
 mLoad (cInt .i64) (ad33.add 0) fun x34 =>
 mApp 3 1 8 #[(Value.int .i64 0)] 1 [(Value.int .i64 x34)] s22.1 fun s35 =>
 rec23 (s35, (iAdd .i64 s22.2 1))
 ) (
 rec23 (s22.1, (iAdd .i64 s22.2 1))
 )
 ) (
 mLoop (fun (rec37 : (Sl × Int) → H → Prop) (s36 : Sl × Int) =>
 mDeref a0 fun ad38 =>
 mLoad cSl (ad38.add 13) fun x39 =>
 mIf (decide (s36.2 < (x39.len : Int))) (
 mDeref a0 fun ad40 =>
 mLoad cSl (ad40.add 13) fun x41 =>
 mIdx x41 s36.2 6 fun ad42 =>
 mLoad (cInt .i64) (ad42.add 0) fun x43 =>
 m_ref21_among s22.1 x43 fun r44 =>
 mIf (!r44) (
 mDeref a0 fun ad45 =>
 mLoad cSl (ad45.add 13) fun x46 =>
 mIdx x46 s36.2 6 fun ad47 =>
 mLoad S_ref21_Held.cells ad47 fun x48 =>
 mApp 92 6 48 #[(Value.int .i64 0), (Value.int .i64 0), (Value.int .i64 0), (Value.int .u64 0), (Value.int .u64 0), (Value.int .i64 0)] 1 [(Value.int .i64 x48.No), (Value.int .i64 x48.Up), (Value.int .i64 x48.Cap.Obj), (Value.int .u64 x48.Cap.Pass.Hi), (Value.int .u64 x48.Cap.Pass.Lo), (Value.int .i64 x48.Rights)] s36.1 fun s49 =>
 rec37 (s49, (iAdd .i64 s36.2 1))
 ) (
 rec37 (s36.1, (iAdd .i64 s36.2 1))
 )
 ) (
 mDeref a0 fun ad50 =>
 mStore (ad50.add 13) [(Sl.val s36.1)] <|
 K (⟨0, ⟨0, ⟨0, 0⟩⟩, Sl.nil, 0⟩ : S_api_Reply)
 )
 ) (Sl.nil, 0)
 )
 ) ((⟨some ad21, 1, 1⟩ : Sl), 0)
 )
 ) (fun j15 =>
 mIf (decide (a1.Op = 2)) (
 j15 true
 ) (
 mDeref a0 fun ad51 =>
 mLoad cSl (ad51.add 13) fun x52 =>
 mIdx x52 r1 6 fun ad53 =>
 mLoad (cInt .i64) (ad53.add 1) fun x54 =>
 j15 (decide (x54 = 0))
 ))
 )
 ) (fun j4 =>
 mIf (decide (a1.Op = 2)) (
 j4 16
 ) (
 j4 8
 )
 )
 )
def x_ref21_Model_away : Cx Tryz.prog := ⟨tys, [s_ref21_refused, s_ref21_Model_live, s_ref21_Model_without, s_ref21_among], [3, 4, 90, 120], [], mixed⟩
def h_ref21_Model_away : Hint := (.seq .d (.seq .d (.seq .d (.seq .d (.join [.slot 6 (tInt .i64)] 1835072 [] .d (.seq .d (.seq (.seq (.reg (.run [3, 7, 11, 15] (.join [.slot 46 tBool] 140600049401856 [] (.split 36 (.run [19, 23, 27, 31, 35, 39, 43, 47, 51, 55] .nil) (.run [19, 23, 27, 31, 35, 39, 43, 47, 51, 55] .nil)) .nil))) .d) (.seq .d (.seq (.seq .d (.blk (.loop [.slot 7 tSl, .slot 8 (tInt .i64)] 4951760152529835081169109376 [] .d))) (.seq .d (.seq (.seq .d (.blk (.loop [.slot 9 tSl, .slot 10 (tInt .i64)] 5316911978187903334473707141524882944 [] .d))) .d)))))))))))
def s_ref21_Model_away : Spec Tryz.prog := mkSpec x_ref21_Model_away 22 Tryz.f22 [tPtr, S_api_Call.ty] [S_api_Reply.ty] false h_ref21_Model_away (fun a => m_ref21_Model_away a.1 a.2) (fun a K h => by kernel_rfl) callee22 rfl
def m_ref21_Model_derive (a0 : Option Addr) (a1 : S_api_Call) (K : (S_api_Reply) → H → Prop) : H → Prop :=
 m_ref21_Model_live a0 a1.Cap fun r1 =>
 mIf (decide (r1 < 0)) (
 mPure (m_ref21_refused 3) fun r2 =>
 K r2
 ) (
 mDeref a0 fun ad3 =>
 mLoad cSl (ad3.add 13) fun x4 =>
 mIdx x4 r1 6 fun ad5 =>
 mLoad (cInt .i64) (ad5.add 5) fun x6 =>
 mIf ((((decide ((iAnd .i64 x6 4) = 0)) || (decide (a1.Rights < 1))) || (decide (31 < a1.Rights))) || (!decide ((iAndNot .i64 a1.Rights x6) = 0))) (
 mPure (m_ref21_refused 4) fun r7 =>
 K r7
 ) (
 mLoop (fun (rec9 : (Int × Int) → H → Prop) (s8 : Int × Int) =>
 mDeref a0 fun ad10 =>
 mLoad cSl (ad10.add 13) fun x11 =>
 mIf (decide (s8.2 < (x11.len : Int))) (
 mDeref a0 fun ad12 =>
 mLoad cSl (ad12.add 13) fun x13 =>
 mIdx x13 s8.2 6 fun ad14 =>
 mLoad (cInt .i64) ((ad14.add 2).add 0) fun x15 =>
 mIf (decide (x15 = a1.Cap.Obj)) (
 rec9 ((iAdd .i64 s8.1 1), (iAdd .i64 s8.2 1))
 ) (
 rec9 (s8.1, (iAdd .i64 s8.2 1))
 )
 ) (
 mDeref a0 fun ad16 =>
 mLoad (cInt .i64) ((ad16.add 0).add 4) fun x17 =>
 mIf (decide (x17 ≤ s8.1)) (
 mPure (m_ref21_refused 9) fun r18 =>
 K r18
 ) (
 mDeref a0 fun ad19 =>
 mDeref a0 fun ad20 =>
 mLoad cSl (ad19.add 13) fun x21 =>
 mLoad (cInt .i64) ((ad20.add 0).add 3) fun x22 =>
 mIf (decide (x22 ≤ (x21.len : Int))) (
 mPure (m_ref21_refused 10) fun r23 =>
 K r23
 ) (
 mLoop (fun (rec25 : Int → H → Prop) (s24 : Int) =>
 mIf (decide (s24 ≤ 8)) (
 mDeref a0 fun ad26 =>
 mDeref a0 fun ad27 =>
 mLoad (cInt .i64) (ad26.add 11) fun x28 =>
 mLoad cSl (ad27.add 10) fun x29 =>
 mIf (decide ((x29.len : Int) ≤ x28)) (
 mPure (m_ref21_refused 11) fun r30 =>
 K r30
 ) (
 mDeref a0 fun ad31 =>
 mDeref a0 fun ad32 =>
 mDeref a0 fun ad33 =>
 mLoad cSl (ad31.add 10) fun x34 =>
 mLoad (cInt .i64) (ad32.add 11) fun x35 =>
 mIdx x34 x35 2 fun ad36 =>
 mLoad S_api_Word.cells ad36 fun x37 =>
 mLoad (cInt .i64) ((ad33.add 0).add 0) fun x38 =>
 mPure (m_ref21_Cut x37 x38) fun r39 =>
 mDeref a0 fun ad40 =>
 mLoad (cInt .i64) (ad40.add 11) fun x41 =>
 mDeref a0 fun ad42 =>
 mStore (ad42.add 11) [(Value.int .i64 (iAdd .i64 x41 1))] <|
 m_ref21_Model_live a0 (⟨a1.Cap.Obj, ⟨r39.Hi, r39.Lo⟩⟩ : S_api_Cap) fun r43 =>
 mIf (decide (r43 < 0)) (
 mDeref a0 fun ad44 =>
 mDeref a0 fun ad45 =>
 mDeref a0 fun ad46 =>
 mLoad cSl (ad44.add 13) fun x47 =>
 mLoad (cInt .i64) (ad45.add 17) fun x48 =>
 mLoad cSl (ad46.add 13) fun x49 =>
 mIdx x49 r1 6 fun ad50 =>
 mLoad (cInt .i64) (ad50.add 0) fun x51 =>
 mApp 92 6 48 #[(Value.int .i64 0), (Value.int .i64 0), (Value.int .i64 0), (Value.int .u64 0), (Value.int .u64 0), (Value.int .i64 0)] 1 [(Value.int .i64 x48), (Value.int .i64 x51), (Value.int .i64 a1.Cap.Obj), (Value.int .u64 r39.Hi), (Value.int .u64 r39.Lo), (Value.int .i64 a1.Rights)] x47 fun s52 =>
 mDeref a0 fun ad53 =>
 mStore (ad53.add 13) [(Sl.val s52)] <|
 mDeref a0 fun ad54 =>
 mLoad (cInt .i64) (ad54.add 17) fun x55 =>
 mDeref a0 fun ad56 =>
 mStore (ad56.add 17) [(Value.int .i64 (iAdd .i64 x55 1))] <|
 K (⟨0, ⟨a1.Cap.Obj, ⟨r39.Hi, r39.Lo⟩⟩, Sl.nil, 0⟩ : S_api_Reply)
 ) (
 rec25 (iAdd .i64 s24 1)
 )
 )
 ) (
 mPure (m_ref21_refused 12) fun r57 =>
 K r57
 )
 ) 0
 )
 )
 )
 ) (0, 0)
 )
 )
def x_ref21_Model_derive : Cx Tryz.prog := ⟨tys, [s_ref21_refused, s_ref21_Cut, s_ref21_Model_live], [3, 4, 10, 158], [], mixed⟩
def h_ref21_Model_derive : Hint := (.seq .d (.seq .d (.seq .d (.seq .d (.seq (.seq (.reg (.run [3, 7, 11, 15] (.sel 29 33 16106127360 (.run [19, 23, 27, 31] .nil) (.run [19, 23, 27, 31] .nil) (.run [35] (.sel 34 38 515396075520 (.run [39, 43, 47, 51] .nil) (.run [39, 43, 47, 51] .nil) (.run [55] (.sel 39 45 69269232549888 (.run [59, 63, 67, 71, 75, 79] .nil) (.run [59, 63, 67, 71, 75, 79] .nil) .nil))))))) .d) (.seq .d (.seq (.seq .d (.blk (.loop [.slot 7 (tInt .i64), .slot 8 (tInt .i64)] 2361183100697334251904 [] (.seq .d (.seq (.blk (.seq (.reg (.run [0, 4, 8, 16, 36, 40, 45, 14, 20, 24, 28, 34, 48] .nil)) .d)) .d))))) (.seq .d (.seq (.seq (.reg (.run [0, 4, 8, 20, 24, 28, 32, 14, 16, 38, 40] .nil)) .d) (.seq (.seq .d (.blk (.loop [.slot 9 (tInt .i64)] 2993155353253689176481144061522869053494800049767936 [] (.seq .d (.seq (.blk (.seq (.seq (.reg (.run [0, 4, 8, 16, 20, 24, 14, 30, 32, 36] .nil)) .d) (.seq (.reg (.run [0, 4, 12, 16, 20, 28, 32, 36, 52, 56, 60, 64, 9, 26, 42, 44, 50, 70, 72, 76, 82, 87] .nil)) (.seq .d (.seq .d (.cond (.seq (.reg (.run [0, 4, 8, 12, 20, 24, 28, 36, 40, 44, 52, 72, 69, 77, 18, 34, 50, 56, 60, 66, 80, 86, 91, 92, 96, 103] .nil)) .d) .d)))))) .d))))) .d))))))))))
def s_ref21_Model_derive : Spec Tryz.prog := mkSpec x_ref21_Model_derive 23 Tryz.f23 [tPtr, S_api_Call.ty] [S_api_Reply.ty] false h_ref21_Model_derive (fun a => m_ref21_Model_derive a.1 a.2) (fun a K h => by kernel_rfl) callee23 rfl
def m_ref21_Model_may (a0 : Option Addr) (a1 : S_api_Call) (a2 : Int) (a3 : Sl) (K : (Int) → H → Prop) : H → Prop :=
 mIf a1.Given (
 m_ref21_Model_live a0 a1.Cap fun r1 =>
 mIf (decide (r1 < 0)) (
 K 3
 ) (
 mDeref a0 fun ad2 =>
 mLoad cSl (ad2.add 13) fun x3 =>
 mIdx x3 r1 6 fun ad4 =>
 mLoad (cInt .i64) (ad4.add 5) fun x5 =>
 mIf (decide ((iAnd .i64 x5 a2) = 0)) (
 K 4
 ) (
 K 0
 )
 )
 ) (
 mLoop (fun (rec7 : (Int × Int) → H → Prop) (s6 : Int × Int) =>
 mIf (decide (s6.2 < (a3.len : Int))) (
 mIdx a3 s6.2 3 fun ad8 =>
 mLoad (cInt .i64) (ad8.add 0) fun x9 =>
 mIf (!decide (x9 = a1.Cap.Obj)) (
 rec7 (s6.1, (iAdd .i64 s6.2 1))
 ) (
 mIdx a3 s6.2 3 fun ad10 =>
 mLoad S_api_Cap.cells ad10 fun x11 =>
 m_ref21_Model_live a0 x11 fun r12 =>
 mJoin (fun (s17 : Bool) =>
 mIf s17 (
 K 0
 ) (
 mIf (decide (0 ≤ r12)) (
 rec7 (4, (iAdd .i64 s6.2 1))
 ) (
 rec7 (s6.1, (iAdd .i64 s6.2 1))
 )
 )
 ) (fun j18 =>
 mIf (decide (0 ≤ r12)) (
 mDeref a0 fun ad19 =>
 mLoad cSl (ad19.add 13) fun x20 =>
 mIdx x20 r12 6 fun ad21 =>
 mLoad (cInt .i64) (ad21.add 5) fun x22 =>
 j18 (!decide ((iAnd .i64 x22 a2) = 0))
 ) (
 j18 false
 ))
 )
 ) (
 K s6.1
 )
 ) (3, 0)
 )
def x_ref21_Model_may : Cx Tryz.prog := ⟨tys, [s_ref21_Model_live], [5], [], mixed⟩
def h_ref21_Model_may : Hint := (.seq .d (.seq .d (.seq .d (.seq (.seq .d (.blk (.loop [.slot 10 (tInt .i64), .slot 11 (tInt .i64)] 1180591620713116343552 [] (.seq .d (.seq (.blk (.seq (.seq (.reg (.run [0, 4, 8, 12, 20, 24, 29, 18, 32] .nil)) .d) (.seq .d (.seq (.seq (.reg (.run [3, 7, 11] (.join [.slot 67 tBool] 295075847585314897920 [] (.split 55 (.run [15, 19, 23, 27, 31, 35, 39, 43, 47, 51, 55, 59] .nil) (.run [15, 19, 23, 27, 31, 35, 39, 43, 47, 51, 55, 59] .nil)) .nil))) .d) .d)))) .d))))) .d))))
def s_ref21_Model_may : Spec Tryz.prog := mkSpec x_ref21_Model_may 54 Tryz.f54 [tPtr, S_api_Call.ty, (tInt .i64), tSl] [(tInt .i64)] false h_ref21_Model_may (fun a => m_ref21_Model_may a.1 a.2.1 a.2.2.1 a.2.2.2) (fun a K h => by kernel_rfl) callee54 rfl
def m_ref21_Model_object (a0 : Option Addr) (a1 : Int) (K : (Int) → H → Prop) : H → Prop :=
 mLoop (fun (rec2 : Int → H → Prop) (s1 : Int) =>
 mDeref a0 fun ad3 =>
 mLoad cSl (ad3.add 12) fun x4 =>
 mIf (decide (s1 < (x4.len : Int))) (
 mDeref a0 fun ad5 =>
 mLoad cSl (ad5.add 12) fun x6 =>
 mIdx x6 s1 2 fun ad7 =>
 mLoad (cInt .i64) (ad7.add 0) fun x8 =>
 mIf (decide (x8 = a1)) (
 K s1
 ) (
 rec2 (iAdd .i64 s1 1)
 )
 ) (
 K (-1)
 )
 ) 0
def x_ref21_Model_object : Cx Tryz.prog := ⟨tys, [], [], [], mixed⟩
def h_ref21_Model_object : Hint := (.seq .d (.seq (.seq .d (.blk (.loop [.slot 5 (tInt .i64)] 67108848 [] .d))) .d))
def s_ref21_Model_object : Spec Tryz.prog := mkSpec x_ref21_Model_object 55 Tryz.f55 [tPtr, (tInt .i64)] [(tInt .i64)] false h_ref21_Model_object (fun a => m_ref21_Model_object a.1 a.2) (fun a K h => by kernel_rfl) callee55 rfl
def m_ref21_Model_move (a0 : Option Addr) (a1 : S_api_Call) (a2 : Int) (K : (S_api_Reply) → H → Prop) : H → Prop :=
 mJoin (fun (s1 : Int × Int) =>
 mDeref a0 fun ad3 =>
 mLoad cSl (ad3.add 14) fun x4 =>
 mIdx x4 a2 2 fun ad5 =>
 mLoad cSl (ad5.add 1) fun x6 =>
 m_ref21_Model_may a0 a1 s1.1 x6 fun r7 =>
 mIf (!decide (r7 = 0)) (
 mPure (m_ref21_refused r7) fun r8 =>
 K r8
 ) (
 m_ref21_Model_object a0 a1.Cap.Obj fun r9 =>
 mJoin (fun (s14 : Bool) =>
 mIf s14 (
 mPure (m_ref21_refused 5) fun r16 =>
 K r16
 ) (
 mIf (decide (a1.Op = 5)) (
 mDeref a0 fun ad17 =>
 mNew 5 #[] fun ad18 =>
 mLoad cSl (ad17.add 12) fun x19 =>
 mIdx x19 r9 2 fun ad20 =>
 mLoad cSl (ad20.add 1) fun x21 =>
 mCut x21 a1.Off (iAdd .i64 a1.Off s1.2) 1 fun s22 =>
 mAppend 5 1 1 #[(Value.int .u8 0)] (⟨some ad18, 0, 0⟩ : Sl) s22 fun s23 =>
 K (⟨0, ⟨0, ⟨0, 0⟩⟩, s23, 0⟩ : S_api_Reply)
 ) (
 mLoop (fun (rec25 : Int → H → Prop) (s24 : Int) =>
 mIf (decide (s24 < s1.2)) (
 mDeref a0 fun ad26 =>
 mIdx a1.Data s24 1 fun ad27 =>
 mLoad cSl (ad26.add 12) fun x28 =>
 mIdx x28 r9 2 fun ad29 =>
 mLoad cSl (ad29.add 1) fun x30 =>
 mLoad (cInt .u8) ad27 fun x31 =>
 mIdx x30 (iAdd .i64 a1.Off s24) 1 fun ad32 =>
 mStore ad32 [(Value.int .u8 x31)] <|
 rec25 (iAdd .i64 s24 1)
 ) (
 K (⟨0, ⟨0, ⟨0, 0⟩⟩, Sl.nil, 0⟩ : S_api_Reply)
 )
 ) 0
 )
 )
 ) (fun j15 =>
 mIf (((decide (a1.Off < 0)) || (decide (s1.2 < 0))) || (decide (1024 < s1.2))) (
 j15 true
 ) (
 mDeref a0 fun ad33 =>
 mLoad cSl (ad33.add 12) fun x34 =>
 mIdx x34 r9 2 fun ad35 =>
 mLoad cSl (ad35.add 1) fun x36 =>
 j15 (decide ((x36.len : Int) < (iAdd .i64 a1.Off s1.2)))
 ))
 )
 ) (fun j2 =>
 mIf (decide (a1.Op = 6)) (
 j2 (2, (a1.Data.len : Int))
 ) (
 j2 (1, a1.N)
 )
 )
def x_ref21_Model_move : Cx Tryz.prog := ⟨tys, [s_ref21_refused, s_ref21_Model_may, s_ref21_Model_object], [4, 6], [], mixed⟩
def h_ref21_Model_move : Hint := (.seq .d (.seq .d (.seq .d (.join [.slot 7 (tInt .i64), .slot 8 (tInt .i64)] 1032576 [] .d (.seq (.reg (.run [0, 8, 12, 16, 20, 28, 5, 26, 32, 36, 42, 47, 48] .nil)) (.seq .d (.seq .d (.seq (.seq (.reg (.run [0, 5, 8, 12] (.sel 44 47 246290604621824 (.run [16, 20, 24] .nil) (.run [16, 20, 24] .nil) (.run [28] (.sel 48 51 3940649673949184 (.run [32, 36, 40] .nil) (.run [32, 36, 40] .nil) (.run [44] (.join [.slot 67 tBool] 295138897980098084864 [] (.split 52 (.run [48, 52, 56, 60, 64, 68, 72, 76, 80, 84, 88, 92, 96, 100, 104] .nil) (.run [48, 56, 64, 68, 72, 80, 53, 60, 78, 84, 88, 94, 96, 100, 104] .nil)) .nil))))))) .d) (.seq (.seq .d (.cond (.seq (.reg (.run [4, 8, 12, 20, 36, 44, 52, 41, 49, 56, 2, 18, 24, 28, 34, 60, 67, 68, 75] .nil)) .d) .d)) (.seq (.seq .d (.blk (.loop [.slot 11 (tInt .i64)] 10384592479129615971680717759318016 [] (.seq .d (.seq (.blk (.reg (.run [0, 4, 8, 16, 32, 40, 48, 56, 37, 44, 53, 60, 14, 20, 24, 30, 66, 68, 75] .nil))) .d))))) .d))))))))))
def s_ref21_Model_move : Spec Tryz.prog := mkSpec x_ref21_Model_move 24 Tryz.f24 [tPtr, S_api_Call.ty, (tInt .i64)] [S_api_Reply.ty] false h_ref21_Model_move (fun a => m_ref21_Model_move a.1 a.2.1 a.2.2) (fun a K h => by kernel_rfl) callee24 rfl
def m_ref21_Model_spawn (a0 : Option Addr) (a1 : Sl) (a2 : Sl) (K : (S_api_Reply) → H → Prop) : H → Prop :=
 mLoop (fun (rec2 : (Sl × Int) → H → Prop) (s1 : Sl × Int) =>
 mIf (decide (s1.2 < (a1.len : Int))) (
 mIdx a1 s1.2 1 fun ad3 =>
 mLoad (cInt .i64) ad3 fun x4 =>
 mIf (decide ((a2.len : Int) ≤ x4)) (
 mPure (m_ref21_refused 15) fun r5 =>
 K r5
 ) (
 mIdx a1 s1.2 1 fun ad6 =>
 mLoad (cInt .i64) ad6 fun x7 =>
 mIdx a2 x7 3 fun ad8 =>
 mLoad S_api_Cap.cells ad8 fun x9 =>
 mApp 38 3 24 #[(Value.int .i64 0), (Value.int .u64 0), (Value.int .u64 0)] 1 [(Value.int .i64 x9.Obj), (Value.int .u64 x9.Pass.Hi), (Value.int .u64 x9.Pass.Lo)] s1.1 fun s10 =>
 rec2 (s10, (iAdd .i64 s1.2 1))
 )
 ) (
 mDeref a0 fun ad11 =>
 mLoad (cInt .i64) ((ad11.add 0).add 6) fun x12 =>
 mIf (decide (x12 < (s1.1.len : Int))) (
 mPure (m_ref21_refused 14) fun r13 =>
 K r13
 ) (
 mDeref a0 fun ad14 =>
 mDeref a0 fun ad15 =>
 mLoad cSl (ad14.add 14) fun x16 =>
 mLoad (cInt .i64) ((ad15.add 0).add 5) fun x17 =>
 mJoin (fun (s20 : Bool) =>
 mIf s20 (
 mPure (m_ref21_refused 13) fun r22 =>
 K r22
 ) (
 mDeref a0 fun ad23 =>
 mLoad (cInt .i64) (ad23.add 16) fun x24 =>
 mDeref a0 fun ad25 =>
 mLoad (cInt .i64) (ad25.add 16) fun x26 =>
 mDeref a0 fun ad27 =>
 mStore (ad27.add 16) [(Value.int .i64 (iAdd .i64 x26 1))] <|
 mDeref a0 fun ad28 =>
 mLoad cSl (ad28.add 14) fun x29 =>
 mApp 67 2 32 #[(Value.int .i64 0), (Sl.val Sl.nil)] 1 [(Value.int .i64 x24), (Sl.val s1.1)] x29 fun s30 =>
 mDeref a0 fun ad31 =>
 mStore (ad31.add 14) [(Sl.val s30)] <|
 K (⟨0, ⟨0, ⟨0, 0⟩⟩, Sl.nil, x24⟩ : S_api_Reply)
 )
 ) (fun j21 =>
 mIf (decide (x17 ≤ (x16.len : Int))) (
 j21 true
 ) (
 mDeref a0 fun ad32 =>
 mLoad (cInt .i64) (ad32.add 16) fun x33 =>
 j21 (decide (65535 < x33))
 ))
 )
 )
 ) (Sl.nil, 0)
def x_ref21_Model_spawn : Cx Tryz.prog := ⟨tys, [s_ref21_refused], [6, 32, 81], [], mixed⟩
def h_ref21_Model_spawn : Hint := (.seq .d (.seq .d (.seq (.seq .d (.blk (.loop [.slot 7 tSl, .slot 8 (tInt .i64)] 17179868544 [] .d))) (.seq .d (.seq (.seq (.reg (.run [0, 4, 8, 20, 24, 28, 32, 14, 16, 38, 40, 44] (.join [.slot 60 tBool] 2269814212194729984 [] (.split 54 (.run [48, 52, 56, 60, 64, 68] .nil) (.run [48, 52, 56, 62, 64, 68] .nil)) .nil))) .d) .d)))))
def s_ref21_Model_spawn : Spec Tryz.prog := mkSpec x_ref21_Model_spawn 26 Tryz.f26 [tPtr, tSl, tSl] [S_api_Reply.ty] false h_ref21_Model_spawn (fun a => m_ref21_Model_spawn a.1 a.2.1 a.2.2) (fun a K h => by kernel_rfl) callee26 rfl
def m_ref21_Model_Do (a0 : Option Addr) (a1 : S_api_Call) (K : (S_api_Reply) → H → Prop) : H → Prop :=
 m_ref21_Is a1 fun r1 =>
 mIf (!r1) (
 mPure (m_ref21_refused 1) fun r2 =>
 K r2
 ) (
 m_ref21_Model_proc a0 a1.By fun r3 =>
 mIf (decide (r3 < 0)) (
 mPure (m_ref21_refused 2) fun r4 =>
 K r4
 ) (
 mIf (decide (a1.Op = 1)) (
 m_ref21_Model_create a0 a1.Size fun r5 =>
 K r5
 ) (
 mJoin (fun (s6 : Bool) =>
 mIf s6 (
 m_ref21_Model_away a0 a1 fun r8 =>
 K r8
 ) (
 mIf (decide (a1.Op = 3)) (
 m_ref21_Model_derive a0 a1 fun r9 =>
 K r9
 ) (
 mJoin (fun (s10 : Bool) =>
 mIf s10 (
 m_ref21_Model_move a0 a1 r3 fun r12 =>
 K r12
 ) (
 mIf (decide (a1.Op = 7)) (
 mDeref a0 fun ad13 =>
 mLoad (cInt .i64) ((ad13.add 0).add 0) fun x14 =>
 mPure (m_ref21_Cut a1.Cap.Pass x14) fun r15 =>
 mIf (!((decide (r15.Hi = a1.Cap.Pass.Hi)) && ((decide (r15.Lo = a1.Cap.Pass.Lo)) && true))) (
 mPure (m_ref21_refused 18) fun r16 =>
 K r16
 ) (
 mDeref a0 fun ad17 =>
 mDeref a0 fun ad18 =>
 mLoad cSl (ad17.add 14) fun x19 =>
 mIdx x19 r3 2 fun ad20 =>
 mLoad cSl (ad20.add 1) fun x21 =>
 mLoad (cInt .i64) ((ad18.add 0).add 6) fun x22 =>
 mIf (decide (x22 ≤ (x21.len : Int))) (
 mPure (m_ref21_refused 14) fun r23 =>
 K r23
 ) (
 mDeref a0 fun ad24 =>
 mDeref a0 fun ad25 =>
 mNew 38 #[] fun ad26 =>
 mLoad cSl (ad25.add 14) fun x27 =>
 mIdx x27 r3 2 fun ad28 =>
 mLoad cSl (ad28.add 1) fun x29 =>
 mJoin (fun (s30 : Sl × Sl) =>
 mIdx s30.1 r3 2 fun ad50 =>
 mStore (ad50.add 1) [(Sl.val s30.2)] <|
 K (⟨0, ⟨0, ⟨0, 0⟩⟩, Sl.nil, 0⟩ : S_api_Reply)
 ) (fun j31 =>
 mBoth (
 mLoad cSl (ad24.add 14) fun x32 =>
 mBoth (
 mAppend 38 3 24 #[(Value.int .i64 0), (Value.int .u64 0), (Value.int .u64 0)] (⟨some ad26, 0, 0⟩ : Sl) x29 fun s33 =>
 mApp 38 3 24 #[(Value.int .i64 0), (Value.int .u64 0), (Value.int .u64 0)] 1 [(Value.int .i64 a1.Cap.Obj), (Value.int .u64 a1.Cap.Pass.Hi), (Value.int .u64 a1.Cap.Pass.Lo)] s33 fun s34 =>
 j31 (x32, s34)
 ) (
 mAppend 38 3 24 #[(Value.int .i64 0), (Value.int .u64 0), (Value.int .u64 0)] (⟨some ad26, 0, 0⟩ : Sl) x29 fun s35 =>
 mApp 38 3 24 #[(Value.int .i64 0), (Value.int .u64 0), (Value.int .u64 0)] 1 [(Value.int .i64 a1.Cap.Obj), (Value.int .u64 a1.Cap.Pass.Hi), (Value.int .u64 a1.Cap.Pass.Lo)] s35 fun s36 =>
 j31 (x32, s36)
 )
 ) (
 mBoth (
 mAppend 38 3 24 #[(Value.int .i64 0), (Value.int .u64 0), (Value.int .u64 0)] (⟨some ad26, 0, 0⟩ : Sl) x29 fun s37 =>
 mBoth (
 mLoad cSl (ad24.add 14) fun x38 =>
 mApp 38 3 24 #[(Value.int .i64 0), (Value.int .u64 0), (Value.int .u64 0)] 1 [(Value.int .i64 a1.Cap.Obj), (Value.int .u64 a1.Cap.Pass.Hi), (Value.int .u64 a1.Cap.Pass.Lo)] s37 fun s39 =>
 j31 (x38, s39)
 ) (
 mApp 38 3 24 #[(Value.int .i64 0), (Value.int .u64 0), (Value.int .u64 0)] 1 [(Value.int .i64 a1.Cap.Obj), (Value.int .u64 a1.Cap.Pass.Hi), (Value.int .u64 a1.Cap.Pass.Lo)] s37 fun s40 =>
 mLoad cSl (ad24.add 14) fun x41 =>
 j31 (x41, s40)
 )
 ) (
 mBoth (
 mLoad cSl (ad24.add 14) fun x42 =>
 mAppend 38 3 24 #[(Value.int .i64 0), (Value.int .u64 0), (Value.int .u64 0)] (⟨some ad26, 0, 0⟩ : Sl) x29 fun s43 =>
 mApp 38 3 24 #[(Value.int .i64 0), (Value.int .u64 0), (Value.int .u64 0)] 1 [(Value.int .i64 a1.Cap.Obj), (Value.int .u64 a1.Cap.Pass.Hi), (Value.int .u64 a1.Cap.Pass.Lo)] s43 fun s44 =>
 j31 (x42, s44)
 ) (
 mAppend 38 3 24 #[(Value.int .i64 0), (Value.int .u64 0), (Value.int .u64 0)] (⟨some ad26, 0, 0⟩ : Sl) x29 fun s45 =>
 mBoth (
 mLoad cSl (ad24.add 14) fun x46 =>
 mApp 38 3 24 #[(Value.int .i64 0), (Value.int .u64 0), (Value.int .u64 0)] 1 [(Value.int .i64 a1.Cap.Obj), (Value.int .u64 a1.Cap.Pass.Hi), (Value.int .u64 a1.Cap.Pass.Lo)] s45 fun s47 =>
 j31 (x46, s47)
 ) (
 mApp 38 3 24 #[(Value.int .i64 0), (Value.int .u64 0), (Value.int .u64 0)] 1 [(Value.int .i64 a1.Cap.Obj), (Value.int .u64 a1.Cap.Pass.Hi), (Value.int .u64 a1.Cap.Pass.Lo)] s45 fun s48 =>
 mLoad cSl (ad24.add 14) fun x49 =>
 j31 (x49, s48)
 )
 )
 )
 ))
 )
 )
 ) (
 mIf (decide (a1.Op = 8)) (
 mDeref a0 fun ad51 =>
 mLoad cSl (ad51.add 14) fun x52 =>
 mIdx x52 r3 2 fun ad53 =>
 mLoad cSl (ad53.add 1) fun x54 =>
 mIf (decide ((x54.len : Int) ≤ a1.Index)) (
 mPure (m_ref21_refused 15) fun r55 =>
 K r55
 ) (
 mLoop (fun (rec57 : (Sl × Int) → H → Prop) (s56 : Sl × Int) =>
 mDeref a0 fun ad58 =>
 mLoad cSl (ad58.add 14) fun x59 =>
 mIdx x59 r3 2 fun ad60 =>
 mLoad cSl (ad60.add 1) fun x61 =>
 mIf (decide (s56.2 < (x61.len : Int))) (
 mIf (!decide (s56.2 = a1.Index)) (
 mDeref a0 fun ad62 =>
 mLoad cSl (ad62.add 14) fun x63 =>
 mIdx x63 r3 2 fun ad64 =>
 mLoad cSl (ad64.add 1) fun x65 =>
 mIdx x65 s56.2 3 fun ad66 =>
 mLoad S_api_Cap.cells ad66 fun x67 =>
 mApp 38 3 24 #[(Value.int .i64 0), (Value.int .u64 0), (Value.int .u64 0)] 1 [(Value.int .i64 x67.Obj), (Value.int .u64 x67.Pass.Hi), (Value.int .u64 x67.Pass.Lo)] s56.1 fun s68 =>
 rec57 (s68, (iAdd .i64 s56.2 1))
 ) (
 rec57 (s56.1, (iAdd .i64 s56.2 1))
 )
 ) (
 mDeref a0 fun ad69 =>
 mLoad cSl (ad69.add 14) fun x70 =>
 mIdx x70 r3 2 fun ad71 =>
 mStore (ad71.add 1) [(Sl.val s56.1)] <|
 K (⟨0, ⟨0, ⟨0, 0⟩⟩, Sl.nil, 0⟩ : S_api_Reply)
 )
 ) (Sl.nil, 0)
 )
 ) (
 mIf (decide (a1.Op = 9)) (
 mDeref a0 fun ad72 =>
 mLoad cSl (ad72.add 14) fun x73 =>
 mIdx x73 r3 2 fun ad74 =>
 mLoad cSl (ad74.add 1) fun x75 =>
 m_ref21_Model_spawn a0 a1.Gifts x75 fun r76 =>
 K r76
 ) (
 mIf (decide (a1.Op = 10)) (
 mLoop (fun (rec78 : (Sl × Int) → H → Prop) (s77 : Sl × Int) =>
 mDeref a0 fun ad79 =>
 mLoad cSl (ad79.add 14) fun x80 =>
 mIf (decide (s77.2 < (x80.len : Int))) (
 mIf (!decide (s77.2 = r3)) (
 mDeref a0 fun ad81 =>
 mLoad cSl (ad81.add 14) fun x82 =>
 mIdx x82 s77.2 2 fun ad83 =>
 mLoad S_api_Process.cells ad83 fun x84 =>
 mApp 67 2 32 #[(Value.int .i64 0), (Sl.val Sl.nil)] 1 [(Value.int .i64 x84.Number), (Sl.val x84.List)] s77.1 fun s85 =>
 rec78 (s85, (iAdd .i64 s77.2 1))
 ) (
 rec78 (s77.1, (iAdd .i64 s77.2 1))
 )
 ) (
 mDeref a0 fun ad86 =>
 mStore (ad86.add 14) [(Sl.val s77.1)] <|
 K (⟨0, ⟨0, ⟨0, 0⟩⟩, Sl.nil, 0⟩ : S_api_Reply)
 )
 ) (Sl.nil, 0)
 ) (
 K (⟨0, ⟨0, ⟨0, 0⟩⟩, Sl.nil, 0⟩ : S_api_Reply)
 )
 )
 )
 )
 )
 ) (fun j11 =>
 mIf (decide (a1.Op = 5)) (
 j11 (decide (a1.Op = 5))
 ) (
 j11 (decide (a1.Op = 6))
 )
 )
 )
 )
 ) (fun j7 =>
 mIf (decide (a1.Op = 2)) (
 j7 (decide (a1.Op = 2))
 ) (
 j7 (decide (a1.Op = 4))
 )
 )
 )
 )
 )
def x_ref21_Model_Do : Cx Tryz.prog := ⟨tys, [s_ref21_Is, s_ref21_refused, s_ref21_Model_proc, s_ref21_Model_create, s_ref21_Model_away, s_ref21_Model_derive, s_ref21_Model_move, s_ref21_Cut, s_ref21_Model_spawn], [3, 4, 96, 144, 190], [], mixed⟩
def h_ref21_Model_Do : Hint := (.seq .d (.seq .d (.seq .d (.seq .d (.seq (.seq .d (.blk (.seq .d (.cond .d (.join [.slot 29 tBool] 3758096384 [] .d (.cond .d (.seq .d (.cond .d (.join [.slot 40 tBool] 7696581394432 [] .d (.cond .d (.seq .d (.cond (.seq (.seq (.reg (.run [0, 4, 12, 16, 20, 24, 36, 40, 9, 45, 30, 32, 48] .nil)) .d) (.seq (.seq (.reg (.run [0, 4, 8, 16, 36, 40, 44, 48, 14, 20, 24, 30, 32, 54, 56] .nil)) .d) (.reg (.run [0, 4, 8, 16, 24, 28, 32, 40, 60, 65, 22, 38, 44, 48, 54] (.join [.slot 82 tSl, .slot 97 tSl] 247592843560354513496523669504 [] (.alt 3 (.both 14 17 (.run [70, 75] .nil) (.run [59, 75] .nil)) (.both 14 17 (.run [70] (.both 3 18 (.run [75] .nil) (.run [14] .nil))) (.both 3 14 (.run [59, 75] .nil) (.both 3 18 (.run [75] .nil) (.run [14] .nil))))) (.run [76, 80, 87] .nil)))))) (.seq .d (.cond (.seq .d (.seq (.seq (.reg (.run [0, 8, 12, 16, 24, 5, 22, 28, 32, 38, 40, 44] .nil)) .d) (.seq (.seq .d (.blk (.loop [.slot 6 tSl, .slot 7 (tInt .i64)] 89202980752584117697864252062349475390161088 [] .d))) .d))) (.seq .d (.cond (.seq (.reg (.run [0, 4, 12, 16, 20, 28, 9, 26, 32, 36, 42, 47, 51] .nil)) .d) (.seq .d (.cond (.seq .d (.seq (.seq .d (.blk (.loop [.slot 8 tSl, .slot 9 (tInt .i64)] 6277100238809004136991201182634397714628543316789110506240 [] .d))) .d)) .d)))))))))))))))))) .d)))))
def s_ref21_Model_Do : Spec Tryz.prog := mkSpec x_ref21_Model_Do 8 Tryz.f8 [tPtr, S_api_Call.ty] [S_api_Reply.ty] false h_ref21_Model_Do (fun a => m_ref21_Model_Do a.1 a.2) (fun a K h => by kernel_rfl) callee8 rfl
def m_ref21_Model_under_s (self : (Option Addr) → (S_ref21_Held) → (Int) → (Sl) → ((Sl) → H → Prop) → H → Prop) (a0 : Option Addr) (a1 : S_ref21_Held) (a2 : Int) (a3 : Sl) (K : (Sl) → H → Prop) : H → Prop :=
 mApp 57 5 40 #[(Value.int .i64 0), (Value.int .u64 0), (Value.int .u64 0), (Value.int .i64 0), (Value.int .i64 0)] 1 [(Value.int .i64 a1.Cap.Obj), (Value.int .u64 a1.Cap.Pass.Hi), (Value.int .u64 a1.Cap.Pass.Lo), (Value.int .i64 a1.Rights), (Value.int .i64 a2)] a3 fun s1 =>
 mLoop (fun (rec3 : (Sl × Int) → H → Prop) (s2 : Sl × Int) =>
 mDeref a0 fun ad4 =>
 mLoad cSl (ad4.add 13) fun x5 =>
 mIf (decide (s2.2 < (x5.len : Int))) (
 mDeref a0 fun ad6 =>
 mLoad cSl (ad6.add 13) fun x7 =>
 mIdx x7 s2.2 6 fun ad8 =>
 mLoad (cInt .i64) (ad8.add 1) fun x9 =>
 mIf (decide (x9 = a1.No)) (
 mDeref a0 fun ad10 =>
 mLoad cSl (ad10.add 13) fun x11 =>
 mIdx x11 s2.2 6 fun ad12 =>
 mLoad S_ref21_Held.cells ad12 fun x13 =>
 self a0 x13 (a3.len : Int) s2.1 fun r14 =>
 rec3 (r14, (iAdd .i64 s2.2 1))
 ) (
 rec3 (s2.1, (iAdd .i64 s2.2 1))
 )
 ) (
 K s2.1
 )
 ) (s1, 0)
def m_ref21_Model_under_n : Nat → (Option Addr) → (S_ref21_Held) → (Int) → (Sl) → ((Sl) → H → Prop) → H → Prop
 | 0 => fun _ _ _ _ _ _ => False
 | n + 1 => m_ref21_Model_under_s (m_ref21_Model_under_n n)
def m_ref21_Model_under (a0 : Option Addr) (a1 : S_ref21_Held) (a2 : Int) (a3 : Sl) (K : (Sl) → H → Prop) : H → Prop := fun h => ∃ n, m_ref21_Model_under_n n a0 a1 a2 a3 K h
def r_ref21_Model_under (m : (Option Addr) → (S_ref21_Held) → (Int) → (Sl) → ((Sl) → H → Prop) → H → Prop) (ok : ∀ (a : Den [tPtr, S_ref21_Held.ty, (tInt .i64), tSl]) (K : Den [tSl] → HP) (h : H), m a.1 a.2.1 a.2.2.1 a.2.2.2 K h → ACall Tryz.prog 46 (valsD [tPtr, S_ref21_Held.ty, (tInt .i64), tSl] a).toArray h (fun v h' => ∃ r, v = outV (valsD [tSl] r) ∧ K r h') noP) : Spec Tryz.prog := ⟨46, [tPtr, S_ref21_Held.ty, (tInt .i64), tSl], [tSl], false, fun a => m a.1 a.2.1 a.2.2.1 a.2.2.2, ok, ⟨Tryz.f46, callee46⟩⟩
def x_ref21_Model_under (r : Spec Tryz.prog) : Cx Tryz.prog := ⟨tys, [r], [5, 20], [], mixed⟩
def h_ref21_Model_under : Hint := (.seq .d (.seq .d (.seq .d (.seq (.seq .d (.blk (.loop [.slot 3 tSl, .slot 10 (tInt .i64)] 9007199250547720 [] (.seq .d (.seq (.blk (.seq (.reg (.run [0, 4, 8, 16, 32, 37, 14, 20, 24, 30, 40] .nil)) .d)) .d))))) .d))))
theorem w_ref21_Model_under (m : (Option Addr) → (S_ref21_Held) → (Int) → (Sl) → ((Sl) → H → Prop) → H → Prop) (ok : ∀ (a : Den [tPtr, S_ref21_Held.ty, (tInt .i64), tSl]) (K : Den [tSl] → HP) (h : H), m a.1 a.2.1 a.2.2.1 a.2.2.2 K h → ACall Tryz.prog 46 (valsD [tPtr, S_ref21_Held.ty, (tInt .i64), tSl] a).toArray h (fun v h' => ∃ r, v = outV (valsD [tSl] r) ∧ K r h') noP) : ∀ (a : Den [tPtr, S_ref21_Held.ty, (tInt .i64), tSl]) (K : Den [tSl] → HP) (h : H), m_ref21_Model_under_s m a.1 a.2.1 a.2.2.1 a.2.2.2 K h = wpF (x_ref21_Model_under (r_ref21_Model_under m ok)) Tryz.f46 [tPtr, S_ref21_Held.ty, (tInt .i64), tSl] [tSl] h_ref21_Model_under a K h := fun a K h => by kernel_rfl
theorem k_ref21_Model_under : ∀ n : Nat, ∀ (a : Den [tPtr, S_ref21_Held.ty, (tInt .i64), tSl]) (K : Den [tSl] → HP) (h : H), m_ref21_Model_under_n n a.1 a.2.1 a.2.2.1 a.2.2.2 K h → ACall Tryz.prog 46 (valsD [tPtr, S_ref21_Held.ty, (tInt .i64), tSl] a).toArray h (fun v h' => ∃ r, v = outV (valsD [tSl] r) ∧ K r h') noP
  | 0 => fun _ _ _ x => x.elim
  | n + 1 => (mkSpec (x_ref21_Model_under (r_ref21_Model_under (m_ref21_Model_under_n n) (k_ref21_Model_under n))) 46 Tryz.f46 [tPtr, S_ref21_Held.ty, (tInt .i64), tSl] [tSl] false h_ref21_Model_under (fun a => m_ref21_Model_under_s (m_ref21_Model_under_n n) a.1 a.2.1 a.2.2.1 a.2.2.2) (w_ref21_Model_under (m_ref21_Model_under_n n) (k_ref21_Model_under n)) callee46 rfl).ok
def s_ref21_Model_under : Spec Tryz.prog := ⟨46, [tPtr, S_ref21_Held.ty, (tInt .i64), tSl], [tSl], false, fun a => m_ref21_Model_under a.1 a.2.1 a.2.2.1 a.2.2.2, fun a K h ⟨n, x⟩ => k_ref21_Model_under n a K h x, ⟨Tryz.f46, callee46⟩⟩
def m_ref21_Model_State (a0 : Option Addr) (K : (S_api_State) → H → Prop) : H → Prop :=
 mDeref a0 fun ad1 =>
 mDeref a0 fun ad2 =>
 mDeref a0 fun ad3 =>
 mLoad (cInt .i64) (ad1.add 15) fun x4 =>
 mLoad (cInt .i64) (ad2.add 16) fun x5 =>
 mLoad (cInt .i64) (ad3.add 11) fun x6 =>
 mLoop (fun (rec8 : (Int × Sl × Sl × Sl × Int × Int × Int) → H → Prop) (s7 : Int × Sl × Sl × Sl × Int × Int × Int) =>
 mDeref a0 fun ad9 =>
 mLoad cSl (ad9.add 12) fun x10 =>
 mIf (decide (s7.1 < (x10.len : Int))) (
 mDeref a0 fun ad11 =>
 mDeref a0 fun ad12 =>
 mNew 5 #[] fun ad13 =>
 mLoad cSl (ad12.add 12) fun x14 =>
 mIdx x14 s7.1 2 fun ad15 =>
 mLoad cSl (ad15.add 1) fun x16 =>
 mJoin (fun (s17 : Int × Sl) =>
 mApp 81 2 32 #[(Value.int .i64 0), (Sl.val Sl.nil)] 1 [(Value.int .i64 s17.1), (Sl.val s17.2)] s7.2.1 fun s29 =>
 mLoop (fun (rec31 : (Int × Sl × Sl × Sl × Int × Int × Int) → H → Prop) (s30 : Int × Sl × Sl × Sl × Int × Int × Int) =>
 mDeref a0 fun ad32 =>
 mLoad cSl (ad32.add 13) fun x33 =>
 mIf (decide (s30.1 < (x33.len : Int))) (
 mDeref a0 fun ad34 =>
 mDeref a0 fun ad35 =>
 mLoad cSl (ad34.add 13) fun x36 =>
 mIdx x36 s30.1 6 fun ad37 =>
 mLoad (cInt .i64) ((ad37.add 2).add 0) fun x38 =>
 mLoad cSl (ad35.add 12) fun x39 =>
 mIdx x39 s7.1 2 fun ad40 =>
 mLoad (cInt .i64) (ad40.add 0) fun x41 =>
 mJoin (fun (s46 : Bool) =>
 mIf s46 (
 mDeref a0 fun ad48 =>
 mLoad cSl (ad48.add 13) fun x49 =>
 mIdx x49 s30.1 6 fun ad50 =>
 mLoad S_ref21_Held.cells ad50 fun x51 =>
 m_ref21_Model_under a0 x51 (-1) s30.2.2.1 fun r52 =>
 rec31 ((iAdd .i64 s30.1 1), s30.2.1, r52, s30.2.2.2.1, s30.2.2.2.2.1, s30.2.2.2.2.2.1, s30.2.2.2.2.2.2)
 ) (
 rec31 ((iAdd .i64 s30.1 1), s30.2.1, s30.2.2.1, s30.2.2.2.1, s30.2.2.2.2.1, s30.2.2.2.2.2.1, s30.2.2.2.2.2.2)
 )
 ) (fun j47 =>
 mIf (decide (x38 = x41)) (
 mDeref a0 fun ad53 =>
 mLoad cSl (ad53.add 13) fun x54 =>
 mIdx x54 s30.1 6 fun ad55 =>
 mLoad (cInt .i64) (ad55.add 1) fun x56 =>
 j47 (decide (x56 = 0))
 ) (
 j47 false
 ))
 ) (
 rec8 ((iAdd .i64 s7.1 1), s30.2.1, s30.2.2.1, s30.2.2.2.1, s30.2.2.2.2.1, s30.2.2.2.2.2.1, s30.2.2.2.2.2.2)
 )
 ) (0, s29, s7.2.2.1, s7.2.2.2.1, s7.2.2.2.2.1, s7.2.2.2.2.2.1, s7.2.2.2.2.2.2)
 ) (fun j18 =>
 mBoth (
 mLoad cSl (ad11.add 12) fun x19 =>
 mIdx x19 s7.1 2 fun ad20 =>
 mBoth (
 mLoad (cInt .i64) (ad20.add 0) fun x21 =>
 mAppend 5 1 1 #[(Value.int .u8 0)] (⟨some ad13, 0, 0⟩ : Sl) x16 fun s22 =>
 j18 (x21, s22)
 ) (
 mAppend 5 1 1 #[(Value.int .u8 0)] (⟨some ad13, 0, 0⟩ : Sl) x16 fun s23 =>
 mLoad (cInt .i64) (ad20.add 0) fun x24 =>
 j18 (x24, s23)
 )
 ) (
 mAppend 5 1 1 #[(Value.int .u8 0)] (⟨some ad13, 0, 0⟩ : Sl) x16 fun s25 =>
 mLoad cSl (ad11.add 12) fun x26 =>
 mIdx x26 s7.1 2 fun ad27 =>
 mLoad (cInt .i64) (ad27.add 0) fun x28 =>
 j18 (x28, s25)
 ))
 ) (
 mLoop (fun (rec58 : (Int × Sl × Sl × Sl × Int × Int × Int) → H → Prop) (s57 : Int × Sl × Sl × Sl × Int × Int × Int) =>
 mDeref a0 fun ad59 =>
 mLoad cSl (ad59.add 14) fun x60 =>
 mIf (decide (s57.1 < (x60.len : Int))) (
 mDeref a0 fun ad61 =>
 mDeref a0 fun ad62 =>
 mNew 38 #[] fun ad63 =>
 mLoad cSl (ad62.add 14) fun x64 =>
 mIdx x64 s57.1 2 fun ad65 =>
 mLoad cSl (ad65.add 1) fun x66 =>
 mJoin (fun (s67 : Int × Sl) =>
 mApp 67 2 32 #[(Value.int .i64 0), (Sl.val Sl.nil)] 1 [(Value.int .i64 s67.1), (Sl.val s67.2)] s57.2.2.2.1 fun s79 =>
 rec58 ((iAdd .i64 s57.1 1), s57.2.1, s57.2.2.1, s79, s57.2.2.2.2.1, s57.2.2.2.2.2.1, s57.2.2.2.2.2.2)
 ) (fun j68 =>
 mBoth (
 mLoad cSl (ad61.add 14) fun x69 =>
 mIdx x69 s57.1 2 fun ad70 =>
 mBoth (
 mLoad (cInt .i64) (ad70.add 0) fun x71 =>
 mAppend 38 3 24 #[(Value.int .i64 0), (Value.int .u64 0), (Value.int .u64 0)] (⟨some ad63, 0, 0⟩ : Sl) x66 fun s72 =>
 j68 (x71, s72)
 ) (
 mAppend 38 3 24 #[(Value.int .i64 0), (Value.int .u64 0), (Value.int .u64 0)] (⟨some ad63, 0, 0⟩ : Sl) x66 fun s73 =>
 mLoad (cInt .i64) (ad70.add 0) fun x74 =>
 j68 (x74, s73)
 )
 ) (
 mAppend 38 3 24 #[(Value.int .i64 0), (Value.int .u64 0), (Value.int .u64 0)] (⟨some ad63, 0, 0⟩ : Sl) x66 fun s75 =>
 mLoad cSl (ad61.add 14) fun x76 =>
 mIdx x76 s57.1 2 fun ad77 =>
 mLoad (cInt .i64) (ad77.add 0) fun x78 =>
 j68 (x78, s75)
 ))
 ) (
 K (⟨s57.2.1, s57.2.2.1, s57.2.2.2.1, s57.2.2.2.2.1, s57.2.2.2.2.2.1, s57.2.2.2.2.2.2⟩ : S_api_State)
 )
 ) (0, s7.2.1, s7.2.2.1, s7.2.2.2.1, s7.2.2.2.2.1, s7.2.2.2.2.2.1, s7.2.2.2.2.2.2)
 )
 ) (0, Sl.nil, Sl.nil, Sl.nil, x4, x5, x6)
def x_ref21_Model_State : Cx Tryz.prog := ⟨tys, [s_ref21_Model_under], [2, 3, 50, 133], [], mixed⟩
def h_ref21_Model_State : Hint := (.seq .d (.seq (.reg (.run [0, 4, 8, 16, 20, 24, 32, 36, 40, 14, 30, 46, 48, 54, 59] .nil)) (.seq (.seq .d (.blk (.loop [.slot 4 (tInt .i64), .cell 3 0 tSl, .cell 3 1 tSl, .cell 3 2 tSl, .cell 3 3 (tInt .i64), .cell 3 4 (tInt .i64), .cell 3 5 (tInt .i64)] 10141204801825835211973624594480 [3] (.seq .d (.seq (.blk (.seq (.reg (.run [0, 8, 12, 16, 24, 44, 48, 52, 60, 5, 42, 58, 64, 68, 74] (.join [.slot 38 (tInt .i64), .slot 48 tSl] 281973192916992 [] (.both 5 19 (.run [28, 32] (.both 9 19 (.run [79] .nil) (.run [38] .nil))) (.run [22, 28, 32, 38] .nil)) (.run [80, 86, 91, 92, 99] .nil)))) (.seq .d (.blk (.loop [.slot 5 (tInt .i64), .cell 3 0 tSl, .cell 3 1 tSl, .cell 3 2 tSl, .cell 3 3 (tInt .i64), .cell 3 4 (tInt .i64), .cell 3 5 (tInt .i64)] 10141204801825826204774370902048 [3] (.seq .d (.seq (.blk (.seq (.reg (.run [0, 4, 8, 16, 36, 40, 44, 52, 14, 20, 24, 28, 34, 50, 56, 60, 66, 68, 72] (.join [.slot 90 tBool] 2473462226931531291448836096 [] (.split 80 (.run [76, 80, 84, 92, 90, 96, 100, 106, 108, 112] .nil) (.run [76, 80, 84, 88, 92, 96, 100, 104, 108, 112] .nil)) .nil))) (.cond (.reg (.run [0, 4, 8, 12, 20, 32, 37, 18, 24, 30, 43, 44, 51] .nil)) .d))) .d))))))) .d))))) (.seq (.seq .d (.blk (.loop [.slot 6 (tInt .i64), .cell 3 0 tSl, .cell 3 1 tSl, .cell 3 2 tSl, .cell 3 3 (tInt .i64), .cell 3 4 (tInt .i64), .cell 3 5 (tInt .i64)] 87112285921619041844798064290559036489792 [3] (.seq .d (.seq (.blk (.reg (.run [0, 8, 12, 16, 24, 44, 48, 52, 60, 5, 42, 58, 64, 68, 74] (.join [.slot 121 (tInt .i64), .slot 131 tSl] 2727077386852228027746273160047661940736 [] (.both 5 19 (.run [28, 32] (.both 9 19 (.run [79] .nil) (.run [38] .nil))) (.run [22, 28, 32, 38] .nil)) (.run [80, 86, 91, 92, 99] .nil))))) .d))))) .d))))
def s_ref21_Model_State : Spec Tryz.prog := mkSpec x_ref21_Model_State 14 Tryz.f14 [tPtr] [S_api_State.ty] false h_ref21_Model_State (fun a => m_ref21_Model_State a) (fun a K h => by kernel_rfl) callee14 rfl
end Go.Proofs.YtbjkfllncegpcaaGreat.K
namespace Go.Proofs.YtbjkfllncegpcaaGreat.K
open Go
section
variable {h : H}
theorem w_rIn {a lo hi : Int} {k : Bool → H → Prop} (y : k (decide (inB a lo hi)) h) : mPure (m_ref21_in a lo hi) k h := by
  refine w_pure _ (fun _ _ z => z) ?_
  have e : ((decide (lo ≤ a)) && (decide (a ≤ hi))) = decide (inB a lo hi) := (Bool.decide_and _ _).symm
  rw [e]; exact y
theorem w_rSmall {a : Int} {k : Bool → H → Prop} (y : k (decide (inB a (-2147483648) 2147483647)) h) : mPure (m_ref21_small a) k h := by
  refine w_pure _ (fun _ _ z => z) ?_
  have e : ((decide ((-2147483648) ≤ a)) && (decide (a ≤ 2147483647))) = decide (inB a (-2147483648) 2147483647) := (Bool.decide_and _ _).symm
  rw [e]; exact y
theorem w_rMay {c : S_api_Config} {k : Bool → H → Prop} (y : k (decide (mayO c)) h) : mPure (m_ref21_May c) k h := by
  refine w_pure _ (fun K0 h0 z => ?_) y
  unfold m_ref21_May
  rw [← mayO_and] at z
  refine w_rIn (w_joinV (decide (inB c.Width 1 128) && decide (inB c.Objects 1 64)) (fun j hj => w_andJ (fun z => w_rIn z) hj) ?_)
  refine w_joinV (decide (inB c.Width 1 128) && decide (inB c.Objects 1 64) && decide (inB c.Pages 1 256)) (fun j hj => w_andJ (fun z => w_rIn z) hj) ?_
  refine w_joinV (decide (inB c.Width 1 128) && decide (inB c.Objects 1 64) && decide (inB c.Pages 1 256) && decide (inB c.Entries 1 256)) (fun j hj => w_andJ (fun z => w_rIn z) hj) ?_
  refine w_joinV (decide (inB c.Width 1 128) && decide (inB c.Objects 1 64) && decide (inB c.Pages 1 256) && decide (inB c.Entries 1 256) && decide (inB c.Quota 1 256)) (fun j hj => w_andJ (fun z => w_rIn z) hj) ?_
  refine w_joinV (decide (inB c.Width 1 128) && decide (inB c.Objects 1 64) && decide (inB c.Pages 1 256) && decide (inB c.Entries 1 256) && decide (inB c.Quota 1 256) && decide (inB c.Procs 1 32)) (fun j hj => w_andJ (fun z => w_rIn z) hj) ?_
  refine w_joinV (decide (inB c.Width 1 128) && decide (inB c.Objects 1 64) && decide (inB c.Pages 1 256) && decide (inB c.Entries 1 256) && decide (inB c.Quota 1 256) && decide (inB c.Procs 1 32) && decide (inB c.List 1 32)) (fun j hj => w_andJ (fun z => w_rIn z) hj) ?_
  refine w_joinV (decide (inB c.Width 1 128) && decide (inB c.Objects 1 64) && decide (inB c.Pages 1 256) && decide (inB c.Entries 1 256) && decide (inB c.Quota 1 256) && decide (inB c.Procs 1 32) && decide (inB c.List 1 32) && decide (inB c.Sets 0 16)) (fun j hj => w_andJ (fun z => w_rIn z) hj) ?_
  refine w_joinV (decide (inB c.Width 1 128) && decide (inB c.Objects 1 64) && decide (inB c.Pages 1 256) && decide (inB c.Entries 1 256) && decide (inB c.Quota 1 256) && decide (inB c.Procs 1 32) && decide (inB c.List 1 32) && decide (inB c.Sets 0 16) && decide (inB c.Ways 1 4)) (fun j hj => w_andJ (fun z => w_rIn z) hj) ?_
  generalize (decide (inB c.Width 1 128) && decide (inB c.Objects 1 64) && decide (inB c.Pages 1 256) && decide (inB c.Entries 1 256) && decide (inB c.Quota 1 256) && decide (inB c.Procs 1 32) && decide (inB c.List 1 32) && decide (inB c.Sets 0 16) && decide (inB c.Ways 1 4)) = b at z
  cases b with
  | true => exact w_ifT rfl (w_rIn z)
  | false => exact w_ifF rfl z
end
abbrev cHd := S_ref21_Held.cells
def heldOf (t : Tk) : S_ref21_Held := ⟨t.xname, t.xparent, t.xcap, t.xrights⟩
structure RMA (h : H) (p : Nat) (sd st vo vp : Sl) (so sl : List (Int × Sl)) (F : Nat → Prop) (m : MdS) : Prop where
  cell : h p = some (.cells (S_ref21_Model.cells ⟨m.c, sd, m.tk, vo, st, vp, m.ni, m.np, ((m.nm + 1 : Nat) : Int)⟩).toArray N_ref21_Model (0, 0))
  dr : Buf cW 2 N_api_Word h sd m.dr
  ts : Buf cHd 6 N_ref21_Held h st (m.ts.map heldOf)
  mo : Buf S_api_Object.cells 2 N_api_Object h vo (so.map fun q => ⟨q.1, q.2⟩)
  ml : Buf S_api_Process.cells 2 N_api_Process h vp (sl.map fun q => ⟨q.1, q.2⟩)
  ob : Rows cU8 1 N_u8 h F so m.ob
  ls : Rows cCp 3 N_api_Cap h F sl m.ls
  fp : F p
  fd : ∀ c, sd.foot c → F c
  ft : ∀ c, st.foot c → F c
  fo : ∀ c, vo.foot c → F c
  fl : ∀ c, vp.foot c → F c
  has : ∀ c, F c → h c ≠ none
def RM (h : H) (p : Nat) (F : Nat → Prop) (m : MdS) : Prop := ∃ sd st vo vp so sl, RMA h p sd st vo vp so sl F m
section
variable {h h' : H} {p : Nat} {sd st vo vp : Sl} {so sl : List (Int × Sl)} {F G : Nat → Prop} {m : MdS}
theorem RMA.but (x : RMA h p sd st vo vp so sl F m) (k : But G h h') (f : ∀ c, F c → ¬ G c) (d : ∀ c, h' c = none → h c = none) : RMA h' p sd st vo vp so sl F m :=
  ⟨k _ _ x.cell (f _ x.fp), x.dr.but k fun ad ha => f _ (x.fd _ ⟨ad, ha, rfl⟩), x.ts.but k fun ad ha => f _ (x.ft _ ⟨ad, ha, rfl⟩), x.mo.but k fun ad ha => f _ (x.fo _ ⟨ad, ha, rfl⟩), x.ml.but k fun ad ha => f _ (x.fl _ ⟨ad, ha, rfl⟩),
    x.ob.but k fun i s q c g => f _ (x.ob.foot i s q c g), x.ls.but k fun i s q c g => f _ (x.ls.foot i s q c g), x.fp, x.fd, x.ft, x.fo, x.fl, fun c g z => x.has c g (d c z)⟩
theorem RM.but (x : RM h p F m) (k : But G h h') (f : ∀ c, F c → ¬ G c) (d : ∀ c, h' c = none → h c = none) : RM h' p F m := by
  obtain ⟨_, _, _, _, _, _, a⟩ := x
  exact ⟨_, _, _, _, _, _, a.but k f d⟩
theorem RM.keep (x : RM h p F m) (k : Keeps h h') : RM h' p F m := x.but (G := fun _ => False) (.of k) (fun _ _ q => q) fun _ => k.fresh
theorem RMA.keep (x : RMA h p sd st vo vp so sl F m) (k : Keeps h h') : RMA h' p sd st vo vp so sl F m := x.but (G := fun _ => False) (.of k) (fun _ _ q => q) fun _ => k.fresh
theorem RM.has (x : RM h p F m) : ∀ c, F c → h c ≠ none := by
  obtain ⟨_, _, _, _, _, _, a⟩ := x
  exact a.has
end
section
variable {h : H}
theorem w_byteP {s : ByteArray} {i : Int} {n : Nat} {b : UInt8} (hi : i = n) (e : s.data.toList[n]? = some b) {k : Int → H → Prop} (y : k ((b.toNat : Nat) : Int) h) : mByte s i k h := by
  subst hi
  have hlt := lt_of_get e
  rw [List.getElem?_eq_getElem hlt] at e
  have e := Option.some.inj e
  have hs : n < s.size := by simpa using hlt
  refine ⟨_, ⟨b, by omega, ?_, rfl⟩, y⟩
  rw [Int.toNat_natCast, getElem?_pos s n hs, ← e]
  rfl
def withB (b : ByteArray) (x : Int) : Bool := b.data.toList.any fun c => decide (((c.toNat : Nat) : Int) = x)
theorem w_with {b : ByteArray} (hb : b.size ≤ 2 ^ 40) {x : Int} {k : Bool → H → Prop} (y : k (withB b x) h) : mPure (m_ref21_with b x) k h := by
  refine w_pure _ (fun h0 K0 z => ?_) y
  unfold m_ref21_with
  have hs : b.data.toList.length = b.size := Array.length_toList
  refine w_for b.size (fun i (s : Int) h' => s = (i : Int) ∧ h' = h0 ∧ (b.data.toList.take i).any (fun c => decide (((c.toNat : Nat) : Int) = x)) = false) ?_ ⟨rfl, rfl, rfl⟩
  rintro rec i _ _ hi ⟨rfl, rfl, hz⟩ more
  refine w_if' (fun c => ?_) fun c => ?_
  · have c : (i : Int) < (b.size : Int) := c
    have hil : i < b.data.toList.length := by omega
    have ht := List.getElem?_eq_getElem hil
    generalize b.data.toList[i] = u at ht
    refine w_byteP rfl ht (w_if' (fun q => ?_) fun q => ?_)
    · have : withB b x = true := List.any_eq_true.2 ⟨u, List.mem_of_getElem? ht, decide_eq_true q⟩
      rw [this] at z; exact z
    · refine more _ _ (by omega) ⟨ia1 i (by omega), rfl, ?_⟩
      rw [List.take_add_one, ht, List.any_append, hz, Bool.false_or]
      show ((decide (((u.toNat : Nat) : Int) = x)) || false) = false
      rw [decide_eq_false q]; rfl
  · have c : ¬ (i : Int) < (b.size : Int) := c
    rw [List.take_of_length_le (by omega)] at hz
    have : withB b x = false := hz
    rw [this] at z; exact z
def zeroB (c : S_api_Call) (b : ByteArray) : Bool := (withB b 115 || (decide (c.Size = 0))) && (withB b 99 || ((decide (c.Cap.Obj = 0)) && (((decide (c.Cap.Pass.Hi = 0)) && ((decide (c.Cap.Pass.Lo = 0)) && true)) && true))) && (withB b 103 || (!c.Given)) && (withB b 114 || (decide (c.Rights = 0))) && (withB b 111 || (decide (c.Off = 0))) && (withB b 110 || (decide (c.N = 0))) && (withB b 100 || (decide ((c.Data.len : Int) = 0))) && (withB b 105 || (decide (c.Index = 0))) && (withB b 102 || (decide ((c.Gifts.len : Int) = 0)))
theorem w_zero {c : S_api_Call} {b : ByteArray} (hb : b.size ≤ 2 ^ 40) {k : Bool → H → Prop} (y : k (zeroB c b) h) : mPure (m_ref21_zero c b) k h := by
  refine w_pure _ (fun h0 K0 z => ?_) y
  unfold m_ref21_zero
  unfold zeroB at z
  refine w_with hb ?_
  generalize (withB b 115 || (decide (c.Size = 0))) = b1 at z ⊢
  refine w_joinV (b1 && (withB b 99 || ((decide (c.Cap.Obj = 0)) && (((decide (c.Cap.Pass.Hi = 0)) && ((decide (c.Cap.Pass.Lo = 0)) && true)) && true)))) (fun j hj => w_andJ (fun z => w_with hb z) hj) ?_
  generalize (b1 && (withB b 99 || ((decide (c.Cap.Obj = 0)) && (((decide (c.Cap.Pass.Hi = 0)) && ((decide (c.Cap.Pass.Lo = 0)) && true)) && true)))) = b2 at z ⊢
  refine w_joinV (b2 && (withB b 103 || (!c.Given))) (fun j hj => w_andJ (fun z => w_with hb z) hj) ?_
  generalize (b2 && (withB b 103 || (!c.Given))) = b3 at z ⊢
  refine w_joinV (b3 && (withB b 114 || (decide (c.Rights = 0)))) (fun j hj => w_andJ (fun z => w_with hb z) hj) ?_
  generalize (b3 && (withB b 114 || (decide (c.Rights = 0)))) = b4 at z ⊢
  refine w_joinV (b4 && (withB b 111 || (decide (c.Off = 0)))) (fun j hj => w_andJ (fun z => w_with hb z) hj) ?_
  generalize (b4 && (withB b 111 || (decide (c.Off = 0)))) = b5 at z ⊢
  refine w_joinV (b5 && (withB b 110 || (decide (c.N = 0)))) (fun j hj => w_andJ (fun z => w_with hb z) hj) ?_
  generalize (b5 && (withB b 110 || (decide (c.N = 0)))) = b6 at z ⊢
  refine w_joinV (b6 && (withB b 100 || (decide ((c.Data.len : Int) = 0)))) (fun j hj => w_andJ (fun z => w_with hb z) hj) ?_
  generalize (b6 && (withB b 100 || (decide ((c.Data.len : Int) = 0)))) = b7 at z ⊢
  refine w_joinV (b7 && (withB b 105 || (decide (c.Index = 0)))) (fun j hj => w_andJ (fun z => w_with hb z) hj) ?_
  generalize (b7 && (withB b 105 || (decide (c.Index = 0)))) = b8 at z ⊢
  cases b8 with
  | true => exact w_ifT rfl (w_with hb z)
  | false => exact w_ifF rfl z
theorem w_orJ {a b : Bool} {j : Bool → H → Prop} {X : H → Prop} (hX : j (!b) h → X h) (hj : j (a || !b) h) : mIf a (j true) X h := by
  cases a with
  | false => exact w_ifF rfl (hX hj)
  | true => exact w_ifT rfl hj
end
section
variable {h : H}
def passB (c : S_api_Call) : Bool := (c.Given || ((decide (c.Cap.Pass.Hi = 0)) && ((decide (c.Cap.Pass.Lo = 0)) && true)))
def opB (c : S_api_Call) : Bool :=
  if c.Op = 1 then zeroB c (ByteArray.mk #[115]) else
  if c.Op = 2 ∨ c.Op = 4 ∨ c.Op = 7 then zeroB c (ByteArray.mk #[99]) else
  if c.Op = 3 then zeroB c (ByteArray.mk #[99, 114]) else
  if c.Op = 5 then zeroB c (ByteArray.mk #[99, 103, 111, 110]) && passB c else
  if c.Op = 6 then zeroB c (ByteArray.mk #[99, 103, 111, 100]) && passB c else
  if c.Op = 8 then zeroB c (ByteArray.mk #[105]) else
  if c.Op = 9 then zeroB c (ByteArray.mk #[102]) else
  if c.Op = 10 then zeroB c (ByteArray.mk #[]) else false
def badB (c : S_api_Call) : Bool := ((((((((!decide (inB c.By 0 65535)) || !decide (inB c.Cap.Obj 0 4611686018427387904)) || !decide (inB c.Size (-2147483648) 2147483647)) || !decide (inB c.Off (-2147483648) 2147483647)) || !decide (inB c.N (-2147483648) 2147483647)) || !decide (inB c.Rights 0 255)) || (decide (1025 < (c.Data.len : Int)))) || !decide (inB c.Index 0 65535)) || (decide (255 < (c.Gifts.len : Int)))
theorem t_rIsB {c : S_api_Call} {gs : List Int} (ar : Arr (cInt .i64) h c.Gifts gs) {K : Bool → H → Prop} (y : K (!badB c && (decide (∀ g ∈ gs, inB g 0 65535) && opB c)) h) : m_ref21_Is c K h := by
  unfold m_ref21_Is
  have al := ar.len
  unfold badB at y
  refine w_rIn ?_
  refine w_joinV ((!decide (inB c.By 0 65535)) || !decide (inB c.Cap.Obj 0 4611686018427387904)) (fun j hj => w_orJ (fun z => w_rIn z) hj) ?_
  generalize ((!decide (inB c.By 0 65535)) || !decide (inB c.Cap.Obj 0 4611686018427387904)) = b1 at y ⊢
  refine w_joinV (b1 || !decide (inB c.Size (-2147483648) 2147483647)) (fun j hj => w_orJ (fun z => w_rSmall z) hj) ?_
  generalize (b1 || !decide (inB c.Size (-2147483648) 2147483647)) = b2 at y ⊢
  refine w_joinV (b2 || !decide (inB c.Off (-2147483648) 2147483647)) (fun j hj => w_orJ (fun z => w_rSmall z) hj) ?_
  generalize (b2 || !decide (inB c.Off (-2147483648) 2147483647)) = b3 at y ⊢
  refine w_joinV (b3 || !decide (inB c.N (-2147483648) 2147483647)) (fun j hj => w_orJ (fun z => w_rSmall z) hj) ?_
  generalize (b3 || !decide (inB c.N (-2147483648) 2147483647)) = b4 at y ⊢
  refine w_joinV (b4 || !decide (inB c.Rights 0 255)) (fun j hj => w_orJ (fun z => w_rIn z) hj) ?_
  generalize (b4 || !decide (inB c.Rights 0 255)) = b5 at y ⊢
  refine w_joinV ((b5 || (decide (1025 < (c.Data.len : Int)))) || !decide (inB c.Index 0 65535)) (fun j hj => w_orJ (fun z => w_rIn z) hj) ?_
  generalize ((b5 || (decide (1025 < (c.Data.len : Int)))) || !decide (inB c.Index 0 65535)) = b6 at y ⊢
  refine w_if (fun q => ?_) fun q => ?_
  · rw [q] at y; exact y
  rw [q] at y
  have hg : c.Gifts.len ≤ 255 := by
    rw [Bool.or_eq_false_iff] at q
    have := of_decide_eq_false q.2
    omega
  have y : K (decide (∀ g ∈ gs, inB g 0 65535) && opB c) h := y
  refine w_for gs.length (fun i (z : Int) h' => z = (i : Int) ∧ h' = h ∧ ∀ g ∈ gs.take i, inB g 0 65535) ?_ ⟨rfl, rfl, by simp⟩
  rintro rec i _ _ hi ⟨rfl, rfl, hz⟩ more
  refine w_if' (fun c0 => ?_) fun c0 => ?_
  · have c0 : (i : Int) < (c.Gifts.len : Int) := c0
    have hil : i < gs.length := by omega
    have ht := List.getElem?_eq_getElem hil
    generalize gs[i] = t at ht
    refine w_get ci_len ar ht rfl (v' := t) rfl (w_rIn (w_if (fun q => ?_) fun q => ?_))
    · have q : ¬ inB t 0 65535 := by simpa using q
      rw [decide_eq_false (fun z => q (z t (List.mem_of_getElem? ht)))] at y
      exact y
    · have q : inB t 0 65535 := by simpa using q
      refine more _ _ hil ⟨ia1 i (by omega), rfl, fun g hg => ?_⟩
      rw [List.take_add_one, ht, List.mem_append] at hg
      rcases hg with z | z
      · exact hz g z
      · have : g = t := by simpa using z
        rw [this]; exact q
  · have c0 : ¬ (i : Int) < (c.Gifts.len : Int) := c0
    rw [List.take_of_length_le (by omega)] at hz
    rw [decide_eq_true hz, Bool.true_and] at y
    unfold opB at y
    refine w_if' (fun q => ?_) fun q => ?_
    · rw [if_pos q] at y; exact w_zero (by decide) y
    rw [if_neg q] at y
    refine w_joinV (decide (c.Op = 2 ∨ c.Op = 4 ∨ c.Op = 7)) (fun j2 hj2 => ?_) ?_
    · refine w_if' (fun q1 => ?_) fun q1 => w_if' (fun q2 => ?_) fun q2 => ?_
      · rw [decide_eq_true (.inl q1)] at hj2; rw [decide_eq_true q1]; exact hj2
      · rw [decide_eq_true (.inr (.inl q2))] at hj2; rw [decide_eq_true q2]; exact hj2
      · have e : decide (c.Op = 2 ∨ c.Op = 4 ∨ c.Op = 7) = decide (c.Op = 7) := decide_eq_decide.2 ⟨fun z => z.elim (fun z => absurd z q1) fun z => z.elim (fun z => absurd z q2) id, fun z => .inr (.inr z)⟩
        rw [e] at hj2; exact hj2
    refine w_if' (fun q1 => ?_) fun q1 => ?_
    · rw [if_pos q1] at y; exact w_zero (by decide) y
    rw [if_neg q1] at y
    refine w_if' (fun q2 => ?_) fun q2 => ?_
    · rw [if_pos q2] at y; exact w_zero (by decide) y
    rw [if_neg q2] at y
    refine w_if' (fun q3 => ?_) fun q3 => ?_
    · rw [if_pos q3] at y; exact w_zero (by decide) y
    rw [if_neg q3] at y
    refine w_if' (fun q4 => ?_) fun q4 => ?_
    · rw [if_pos q4] at y; exact w_zero (by decide) y
    rw [if_neg q4] at y
    refine w_if' (fun q5 => ?_) fun q5 => ?_
    · rw [if_pos q5] at y; exact w_zero (by decide) y
    rw [if_neg q5] at y
    refine w_if' (fun q6 => ?_) fun q6 => ?_
    · rw [if_pos q6] at y; exact w_zero (by decide) y
    rw [if_neg q6] at y
    refine w_if' (fun q7 => ?_) fun q7 => ?_
    · rw [if_pos q7] at y; exact w_zero (by decide) y
    rw [if_neg q7] at y; exact y
end
section
variable {h : H}
theorem opB_iff {c : S_api_Call} {ds : List UInt8} {gs : List Int} (hd : c.Data.len = ds.length) (hg : c.Gifts.len = gs.length) (ho : inB c.Op 1 10) : opB c = true ↔ ((c.Op ≠ 1 → c.Size = 0) ∧ ((c.Op = 1 ∨ 8 ≤ c.Op) → c.Cap = cap0) ∧ ((c.Op ≠ 5 ∧ c.Op ≠ 6) → c.Given = false ∧ c.Off = 0) ∧ (c.Op ≠ 3 → c.Rights = 0) ∧ (c.Op ≠ 5 → c.N = 0) ∧ (c.Op ≠ 6 → ds = []) ∧ (c.Op ≠ 8 → c.Index = 0) ∧ (c.Op ≠ 9 → gs = [])) ∧ ((c.Op = 5 ∨ c.Op = 6) → c.Given = false → c.Cap.Pass = ⟨0, 0⟩) := by
  obtain ⟨op, b, size, ⟨obj, ⟨hi, lo⟩⟩, given, rights, off, n, data, index, gifts⟩ := c
  have e1 : ds = [] ↔ data.len = 0 := by rw [show data.len = ds.length from hd, List.length_eq_zero_iff]
  have e2 : gs = [] ↔ gifts.len = 0 := by rw [show gifts.len = gs.length from hg, List.length_eq_zero_iff]
  rw [e1, e2]
  unfold inB at ho
  have ho : 1 ≤ op ∧ op ≤ 10 := ho
  have hc : op = 1 ∨ op = 2 ∨ op = 3 ∨ op = 4 ∨ op = 5 ∨ op = 6 ∨ op = 7 ∨ op = 8 ∨ op = 9 ∨ op = 10 := by omega
  clear hd hg e1 e2 ho
  rcases hc with rfl | rfl | rfl | rfl | rfl | rfl | rfl | rfl | rfl | rfl <;> cases given <;>
    simp [opB, zeroB, withB, passB, cap0] <;> grind
theorem opB_out {c : S_api_Call} (ho : ¬ inB c.Op 1 10) : opB c = false := by
  unfold inB at ho
  unfold opB
  rw [if_neg (by omega), if_neg (by omega), if_neg (by omega), if_neg (by omega), if_neg (by omega), if_neg (by omega), if_neg (by omega), if_neg (by omega)]
theorem rIs_eq {c : S_api_Call} {ds : List UInt8} {gs : List Int} (hd : c.Data.len = ds.length) (hg : c.Gifts.len = gs.length) : (!badB c && (decide (∀ g ∈ gs, inB g 0 65535) && opB c)) = decide (formedO c ds gs) := by
  by_cases ho : inB c.Op 1 10
  · have e := opB_iff hd hg ho
    rw [Bool.eq_iff_iff, decide_eq_true_iff]
    unfold badB formedO
    simp only [Bool.and_eq_true, Bool.not_eq_true', Bool.or_eq_false_iff, Bool.not_eq_false', decide_eq_true_eq, decide_eq_false_iff_not, e, hd, hg]
    constructor
    · rintro ⟨⟨⟨⟨⟨⟨⟨⟨⟨b, ob⟩, sz⟩, of_⟩, nn⟩, rg⟩, dl⟩, ix⟩, gl⟩, gi, ⟨s1, s2, s3, s4, s5, s6, s7, s8⟩, nm⟩
      exact ⟨⟨b, ix, sz, of_, nn, ob, rg, by omega, by omega, gi⟩, ho, s1, s2, s3, s4, s5, s6, s7, s8, nm⟩
    · rintro ⟨⟨b, ix, sz, of_, nn, ob, rg, dl, gl, gi⟩, o, s1, s2, s3, s4, s5, s6, s7, s8, nm⟩
      exact ⟨⟨⟨⟨⟨⟨⟨⟨⟨b, ob⟩, sz⟩, of_⟩, nn⟩, rg⟩, by omega⟩, ix⟩, by omega⟩, gi, ⟨s1, s2, s3, s4, s5, s6, s7, s8⟩, nm⟩
  · rw [opB_out ho, Bool.and_false, Bool.and_false, decide_eq_false fun z => ho z.2.1]
theorem t_rIs {c : S_api_Call} {ds : List UInt8} {gs : List Int} (hd : c.Data.len = ds.length) (ar : Arr (cInt .i64) h c.Gifts gs) {K : Bool → H → Prop} (y : K (decide (formedO c ds gs)) h) : m_ref21_Is c K h :=
  t_rIsB ar (by rw [rIs_eq hd ar.len]; exact y)
end
theorem pr_len : ∀ x : S_api_Process, (S_api_Process.cells x).length = 2 := fun _ => rfl
theorem ob_len : ∀ x : S_api_Object, (S_api_Object.cells x).length = 2 := fun _ => rfl
theorem hd_len : ∀ x : S_ref21_Held, (cHd x).length = 6 := fun _ => rfl
section
variable {h h' : H} {p : Nat} {sd st vo vp : Sl} {so sl : List (Int × Sl)} {F G : Nat → Prop} {m : MdS}
section
variable (x : RMA h p sd st vo vp so sl F m)
abbrev RMA.cs (_ : RMA h p sd st vo vp so sl F m) : List Value := S_ref21_Model.cells ⟨m.c, sd, m.tk, vo, st, vp, m.ni, m.np, ((m.nm + 1 : Nat) : Int)⟩
include x
theorem RMA.fWid : At h (((⟨p, 0, none⟩ : Addr).add 0).add 0) (cInt .i64 m.c.Width) := by rw [add_zero, add_zero]; exact At.own (l1 := []) (l3 := x.cs.drop 1) x.cell rfl
theorem RMA.fObj : At h (((⟨p, 0, none⟩ : Addr).add 0).add 1) (cInt .i64 m.c.Objects) := by rw [add_zero, pt_add]; exact At.own (l1 := x.cs.take 1) (l3 := x.cs.drop 2) x.cell rfl
theorem RMA.fPag : At h (((⟨p, 0, none⟩ : Addr).add 0).add 2) (cInt .i64 m.c.Pages) := by rw [add_zero, pt_add]; exact At.own (l1 := x.cs.take 2) (l3 := x.cs.drop 3) x.cell rfl
theorem RMA.fEnt : At h (((⟨p, 0, none⟩ : Addr).add 0).add 3) (cInt .i64 m.c.Entries) := by rw [add_zero, pt_add]; exact At.own (l1 := x.cs.take 3) (l3 := x.cs.drop 4) x.cell rfl
theorem RMA.fQuo : At h (((⟨p, 0, none⟩ : Addr).add 0).add 4) (cInt .i64 m.c.Quota) := by rw [add_zero, pt_add]; exact At.own (l1 := x.cs.take 4) (l3 := x.cs.drop 5) x.cell rfl
theorem RMA.fPro : At h (((⟨p, 0, none⟩ : Addr).add 0).add 5) (cInt .i64 m.c.Procs) := by rw [add_zero, pt_add]; exact At.own (l1 := x.cs.take 5) (l3 := x.cs.drop 6) x.cell rfl
theorem RMA.fLis : At h (((⟨p, 0, none⟩ : Addr).add 0).add 6) (cInt .i64 m.c.List) := by rw [add_zero, pt_add]; exact At.own (l1 := x.cs.take 6) (l3 := x.cs.drop 7) x.cell rfl
theorem RMA.f10 : At h ((⟨p, 0, none⟩ : Addr).add 10) (cSl sd) := by rw [pt_add]; exact At.own (l1 := x.cs.take 10) (l3 := x.cs.drop 11) x.cell rfl
theorem RMA.f11 : At h ((⟨p, 0, none⟩ : Addr).add 11) (cInt .i64 m.tk) := by rw [pt_add]; exact At.own (l1 := x.cs.take 11) (l3 := x.cs.drop 12) x.cell rfl
theorem RMA.f12 : At h ((⟨p, 0, none⟩ : Addr).add 12) (cSl vo) := by rw [pt_add]; exact At.own (l1 := x.cs.take 12) (l3 := x.cs.drop 13) x.cell rfl
theorem RMA.f13 : At h ((⟨p, 0, none⟩ : Addr).add 13) (cSl st) := by rw [pt_add]; exact At.own (l1 := x.cs.take 13) (l3 := x.cs.drop 14) x.cell rfl
theorem RMA.f14 : At h ((⟨p, 0, none⟩ : Addr).add 14) (cSl vp) := by rw [pt_add]; exact At.own (l1 := x.cs.take 14) (l3 := x.cs.drop 15) x.cell rfl
theorem RMA.f15 : At h ((⟨p, 0, none⟩ : Addr).add 15) (cInt .i64 m.ni) := by rw [pt_add]; exact At.own (l1 := x.cs.take 15) (l3 := x.cs.drop 16) x.cell rfl
theorem RMA.f16 : At h ((⟨p, 0, none⟩ : Addr).add 16) (cInt .i64 m.np) := by rw [pt_add]; exact At.own (l1 := x.cs.take 16) (l3 := x.cs.drop 17) x.cell rfl
theorem RMA.f17 : At h ((⟨p, 0, none⟩ : Addr).add 17) (cInt .i64 ((m.nm + 1 : Nat) : Int)) := by rw [pt_add]; exact At.own (l1 := x.cs.take 17) (l3 := []) x.cell rfl
end
theorem t_rLive (x : RMA h p sd st vo vp so sl F m) (hn : m.ts.length ≤ 2 ^ 20) {c : S_api_Cap} {K : Int → H → Prop} (no : findT m.ts c = none → K (-1) h)
    (yes : ∀ (i : Nat) t, m.ts[i]? = some t → findT m.ts c = some t → K (i : Int) h) : m_ref21_Model_live (some ⟨p, 0, none⟩) c K h := by
  unfold m_ref21_Model_live
  have hl := x.ts.len
  rw [List.length_map] at hl
  refine w_for m.ts.length (fun i (z : Int) h' => z = (i : Int) ∧ h' = h ∧ ∀ j u, j < i → m.ts[j]? = some u → decide (u.xcap = c) = false) ?_ ⟨rfl, rfl, fun j u hj => by omega⟩
  rintro rec i _ _ hi ⟨rfl, rfl, hz⟩ more
  refine w_deref (w_load x.f13 (w_if' (fun q => ?_) fun q => ?_))
  · have q : (i : Int) < (st.len : Int) := q
    have hil : i < m.ts.length := by omega
    have ht := List.getElem?_eq_getElem hil
    generalize m.ts[i] = t at ht
    have ht' : (m.ts.map heldOf)[i]? = some (heldOf t) := by rw [List.getElem?_map, ht]; rfl
    refine w_deref (w_load x.f13 (w_field hd_len x.ts.arr ht' rfl (v' := t.xcap) (cells' := S_api_Cap.cells) (l1 := (cHd (heldOf t)).take 2) (l3 := (cHd (heldOf t)).drop 5) rfl rfl ?_))
    rw [cap_eqB]
    refine w_if' (fun q1 => ?_) fun q1 => ?_
    · exact yes i t ht (find_at ht (decide_eq_true q1) hz)
    · refine more _ _ hil ⟨ia1 i (by omega), rfl, fun j u hj e => ?_⟩
      rcases Nat.lt_succ_iff_lt_or_eq.1 hj with z | rfl
      · exact hz j u z e
      · rw [ht] at e; cases e; exact decide_eq_false q1
  · have q : ¬ (i : Int) < (st.len : Int) := q
    refine no (find_no fun u hu => ?_)
    obtain ⟨j, hj⟩ := List.mem_iff_getElem?.1 hu
    exact hz j u (by have := lt_of_get hj; omega) hj
theorem t_rProc (x : RMA h p sd st vo vp so sl F m) (hn : sl.length ≤ 2 ^ 20) {k : Int} {K : Int → H → Prop} (no : alook m.ls k = none → K (-1) h)
    (yes : ∀ (i : Nat) s, sl[i]? = some (k, s) → K (i : Int) h) : m_ref21_Model_proc (some ⟨p, 0, none⟩) k K h := by
  unfold m_ref21_Model_proc
  have hl := x.ml.len
  rw [List.length_map] at hl
  refine w_for sl.length (fun i (z : Int) h' => z = (i : Int) ∧ h' = h ∧ ∀ (j : Nat) (u : Int × Sl), j < i → sl[j]? = some u → u.1 ≠ k) ?_ ⟨rfl, rfl, fun j u hj => by omega⟩
  rintro rec i _ _ hi ⟨rfl, rfl, hz⟩ more
  refine w_deref (w_load x.f14 (w_if' (fun q => ?_) fun q => ?_))
  · have q : (i : Int) < (vp.len : Int) := q
    have hil : i < sl.length := by omega
    have ht := List.getElem?_eq_getElem hil
    generalize sl[i] = t at ht
    have ht' : (sl.map fun q => (⟨q.1, q.2⟩ : S_api_Process))[i]? = some ⟨t.1, t.2⟩ := by rw [List.getElem?_map, ht]; rfl
    refine w_deref (w_load x.f14 (w_field pr_len x.ml.arr ht' rfl (v' := t.1) (cells' := cInt .i64) (l1 := []) (l3 := (S_api_Process.cells ⟨t.1, t.2⟩).drop 1) rfl rfl (w_if' (fun q1 => ?_) fun q1 => ?_)))
    · have q1 : t.1 = k := q1
      exact yes i t.2 (by rw [ht, ← q1])
    · refine more _ _ hil ⟨ia1 i (by omega), rfl, fun j u hj e => ?_⟩
      rcases Nat.lt_succ_iff_lt_or_eq.1 hj with z | rfl
      · exact hz j u z e
      · rw [ht] at e; cases e; exact q1
  · have q : ¬ (i : Int) < (vp.len : Int) := q
    refine no (alook_none fun hm => ?_)
    rw [← x.ls.keys] at hm
    obtain ⟨u, hu, e⟩ := List.mem_map.1 hm
    obtain ⟨j, hj⟩ := List.mem_iff_getElem?.1 hu
    exact hz j u (by have := lt_of_get hj; omega) hj e
end
section
variable {h : H}
theorem wrap_small {n : Nat} (hn : n < 2 ^ 63) : IntKind.wrap .u64 (n : Int) = (n : Int) := by
  have e : (n : Int) % 2 ^ 64 = n := Int.emod_eq_of_lt (by omega) (by omega)
  unfold IntKind.wrap
  simp only [IntKind.signed, IntKind.bits, e]
  simp
theorem p_RkCut {K : S_api_Word → H → Prop} {n : Nat} {w : Nat} (hn : n < 2 ^ 128) (h1 : 1 ≤ w) (h2 : w ≤ 128) (k : K (wordOf (n % 2 ^ wc (w : Int))) h) : m_ref21_Cut (wordOf n) (w : Int) K h := by
  unfold m_ref21_Cut
  have hw : wc (w : Int) = w := by unfold wc; omega
  rw [hw, wordOf_mod _ _ h2] at k
  refine w_if' (fun c => ?_) fun c => w_if' (fun c2 => ?_) fun c2 => w_if' (fun c3 => ?_) fun c3 => ?_
  · have e : w = 128 := by omega
    subst e
    have e1 : n / 2 ^ 64 % 2 ^ (128 - 64) = n / 2 ^ 64 := Nat.mod_eq_of_lt (by omega)
    have e2 : n % 2 ^ 64 % 2 ^ (min 128 64) = n % 2 ^ 64 := Nat.mod_mod _ _
    rw [e1, e2] at k
    exact k
  · have e0 : iSub .i64 (w : Int) 64 = ((w - 64 : Nat) : Int) := (iSub_eq (by omega) (by omega)).trans (by omega)
    rw [e0, wrap_small (by omega)]
    refine w_nn (by omega) ?_
    have e2 : n % 2 ^ 64 % 2 ^ (min w 64) = n % 2 ^ 64 := by rw [show min w 64 = 64 by omega]; exact Nat.mod_mod _ _
    rw [e2] at k
    have e3 : iAnd .u64 (wordOf n).Hi (iSub .u64 (iShl .u64 1 ((w - 64 : Nat) : Int)) 1) = ((n / 2 ^ 64 % 2 ^ (w - 64) : Nat) : Int) := u_low (a := n / 2 ^ 64) (by omega) (by omega)
    rw [e3]; exact k
  · have e : w = 64 := by omega
    subst e
    have e1 : n / 2 ^ 64 % 2 ^ (64 - 64) = 0 := Nat.mod_one _
    have e2 : n % 2 ^ 64 % 2 ^ (min 64 64) = n % 2 ^ 64 := Nat.mod_mod _ _
    rw [e1, e2] at k
    exact k
  · rw [wrap_small (by omega)]
    refine w_nn (by omega) ?_
    rw [show w - 64 = 0 by omega, show min w 64 = w by omega, Nat.pow_zero, Nat.mod_one] at k
    have e3 : iAnd .u64 (wordOf n).Lo (iSub .u64 (iShl .u64 1 (w : Int)) 1) = ((n % 2 ^ 64 % 2 ^ w : Nat) : Int) := u_low (a := n % 2 ^ 64) (by omega) (by omega)
    rw [e3]; exact k
theorem w_RkCut {x : S_api_Word} (g : GoodW x) {w : Int} (h1 : 1 ≤ w) (h2 : w ≤ 128) {k : S_api_Word → H → Prop} (y : k (cutW w x) h) : mPure (m_ref21_Cut x w) k h := by
  obtain ⟨n, hn, rfl⟩ := g
  obtain ⟨v, rfl⟩ : ∃ v : Nat, w = v := ⟨w.toNat, by omega⟩
  refine w_pure _ (fun _ _ q => p_RkCut hn (by omega) (by omega) q) ?_
  unfold cutW at y
  rwa [valW_of] at y
end
section
variable {h h' : H} {p : Nat} {sd st vo vp : Sl} {so sl : List (Int × Sl)} {F G : Nat → Prop} {m : MdS}
theorem t_rObject (x : RMA h p sd st vo vp so sl F m) (hn : so.length ≤ 2 ^ 20) {k : Int} {K : Int → H → Prop} (no : alook m.ob k = none → K (-1) h)
    (yes : ∀ (i : Nat) s, so[i]? = some (k, s) → K (i : Int) h) : m_ref21_Model_object (some ⟨p, 0, none⟩) k K h := by
  unfold m_ref21_Model_object
  have hl := x.mo.len
  rw [List.length_map] at hl
  refine w_for so.length (fun i (z : Int) h' => z = (i : Int) ∧ h' = h ∧ ∀ (j : Nat) (u : Int × Sl), j < i → so[j]? = some u → u.1 ≠ k) ?_ ⟨rfl, rfl, fun j u hj => by omega⟩
  rintro rec i _ _ hi ⟨rfl, rfl, hz⟩ more
  refine w_deref (w_load x.f12 (w_if' (fun q => ?_) fun q => ?_))
  · have q : (i : Int) < (vo.len : Int) := q
    have hil : i < so.length := by omega
    have ht := List.getElem?_eq_getElem hil
    generalize so[i] = t at ht
    have ht' : (so.map fun q => (⟨q.1, q.2⟩ : S_api_Object))[i]? = some ⟨t.1, t.2⟩ := by rw [List.getElem?_map, ht]; rfl
    refine w_deref (w_load x.f12 (w_field ob_len x.mo.arr ht' rfl (v' := t.1) (cells' := cInt .i64) (l1 := []) (l3 := (S_api_Object.cells ⟨t.1, t.2⟩).drop 1) rfl rfl (w_if' (fun q1 => ?_) fun q1 => ?_)))
    · have q1 : t.1 = k := q1
      exact yes i t.2 (by rw [ht, ← q1])
    · refine more _ _ hil ⟨ia1 i (by omega), rfl, fun j u hj e => ?_⟩
      rcases Nat.lt_succ_iff_lt_or_eq.1 hj with z | rfl
      · exact hz j u z e
      · rw [ht] at e; cases e; exact q1
  · have q : ¬ (i : Int) < (vo.len : Int) := q
    refine no (alook_none fun hm => ?_)
    rw [← x.ob.keys] at hm
    obtain ⟨u, hu, e⟩ := List.mem_map.1 hm
    obtain ⟨j, hj⟩ := List.mem_iff_getElem?.1 hu
    exact hz j u (by have := lt_of_get hj; omega) hj e
theorem t_rAmong {s : Sl} {xs : List Int} (x : Arr (cInt .i64) h s xs) (hn : xs.length ≤ 2 ^ 40) {v : Int} {K : Bool → H → Prop} (y : K (decide (v ∈ xs)) h) : m_ref21_among s v K h := by
  unfold m_ref21_among
  have hl := x.len
  refine w_for xs.length (fun i (z : Int) h' => z = (i : Int) ∧ h' = h ∧ v ∉ xs.take i) ?_ ⟨rfl, rfl, by simp⟩
  rintro rec i _ _ hi ⟨rfl, rfl, hz⟩ more
  refine w_if' (fun c => ?_) fun c => ?_
  · have c : (i : Int) < (s.len : Int) := c
    have hil : i < xs.length := by omega
    have ht := List.getElem?_eq_getElem hil
    generalize xs[i] = t at ht
    refine w_get ci_len x ht rfl (v' := t) rfl (w_if' (fun q => ?_) fun q => ?_)
    · have q : t = v := q
      have : v ∈ xs := by rw [← q]; exact List.mem_of_getElem? ht
      rw [decide_eq_true this] at y
      exact y
    · have q : ¬ t = v := q
      refine more _ _ hil ⟨ia1 i (by omega), rfl, ?_⟩
      rw [List.take_add_one, ht, List.mem_append]
      refine fun z => z.elim hz fun z => q ?_
      have z : v = t := by simpa using z
      exact z.symm
  · have c : ¬ (i : Int) < (s.len : Int) := c
    rw [List.take_of_length_le (by omega)] at hz
    rw [decide_eq_false hz] at y
    exact y
end
section
variable {h h' : H} {p : Nat} {sd st vo vp : Sl} {so sl : List (Int × Sl)} {F G : Nat → Prop} {m : MdS}
theorem RMA.pages (x : RMA h p sd st vo vp so sl F m) : pagesS so = allPages m.ob := by
  unfold pagesS allPages
  rw [alist_map (f := fun s : Sl => pagesO s.len) (g := fun b : List UInt8 => pagesO b.length) x.ob.keys x.ob.onceS fun k s b q1 q2 => by rw [(x.ob.buf k s b q1 q2).len]]
theorem t_rPages (x : RMA h p sd st vo vp so sl F m) (hob : ∀ q ∈ m.ob, q.2.length ≤ 4096) (hn : so.length ≤ 2 ^ 20) {K : Int → H → Prop} (y : K ((allPages m.ob : Nat) : Int) h) : m_ref21_Model_pages (some ⟨p, 0, none⟩) K h := by
  unfold m_ref21_Model_pages
  have hl := x.mo.len
  rw [List.length_map] at hl
  have szs : ∀ q ∈ so, q.2.len ≤ 4096 := fun q hq => by
    have e1 := x.ob.onceS.look hq
    have e2 := alook_some x.ob.keys q.1
    rw [e1] at e2
    cases z : alook m.ob q.1 with
    | none => rw [z] at e2; cases e2
    | some b =>
      rw [(x.ob.buf _ _ _ e1 z).len]
      exact hob _ (alook_mem z)
  refine w_for so.length (fun i (z : Int × Int) h' => z = (((pagesS (so.take i) : Nat) : Int), (i : Int)) ∧ h' = h ∧ pagesS (so.take i) ≤ i * 64) ?_ ⟨rfl, rfl, Nat.zero_le _⟩
  rintro rec i _ _ hi ⟨rfl, rfl, hz⟩ more
  refine w_deref (w_load x.f12 (w_if' (fun q => ?_) fun q => ?_))
  · have q : (i : Int) < (vo.len : Int) := q
    have hil : i < so.length := by omega
    have ht := List.getElem?_eq_getElem hil
    have hs := szs _ (List.getElem_mem hil)
    generalize so[i] = t at ht hs
    have ht' : (so.map fun q => (⟨q.1, q.2⟩ : S_api_Object))[i]? = some ⟨t.1, t.2⟩ := by rw [List.getElem?_map, ht]; rfl
    have e3 : pagesS (so.take (i + 1)) = pagesS (so.take i) + pagesO t.2.len := by
      unfold pagesS
      rw [List.take_add_one, ht, List.map_append, List.sum_append]
      show _ + (pagesO t.2.len + 0) = _
      rw [Nat.add_zero]
    have hp : pagesO t.2.len ≤ 64 := by unfold pagesO; omega
    refine w_deref (w_load x.f12 (w_field ob_len x.mo.arr ht' rfl (v' := t.2) (cells' := cSl) (l1 := (S_api_Object.cells ⟨t.1, t.2⟩).take 1) (l3 := []) rfl rfl (more _ _ hil ⟨?_, rfl, by rw [e3]; omega⟩)))
    rw [e3, show (63 : Int) = ((63 : Nat) : Int) from rfl, ia t.2.len 63 (by omega), show (64 : Int) = ((64 : Nat) : Int) from rfl, iq (t.2.len + 63) 64 (by omega)]
    show (iAdd .i64 ((pagesS (so.take i) : Nat) : Int) ((pagesO t.2.len : Nat) : Int), iAdd .i64 (i : Int) 1) = _
    rw [ia _ _ (by omega), ia1 i (by omega)]
  · have q : ¬ (i : Int) < (vo.len : Int) := q
    show K ((pagesS (so.take i) : Nat) : Int) _
    rw [List.take_of_length_le (by omega), x.pages]; exact y
end
section
variable {m : MdS}
structure MSK (m : MdS) : Prop where
  kin : ∀ t ∈ m.ts, ∀ u ∈ m.ts, u.xparent = t.xname → u.xcap.Obj = t.xcap.Obj
  rgt : ∀ t ∈ m.ts, 1 ≤ t.xrights ∧ t.xrights ≤ 31
theorem MSK.same {m' : MdS} (x : MSK m) (e : m'.ts = m.ts) : MSK m' := ⟨e ▸ x.kin, e ▸ x.rgt⟩
theorem MSK.subT (x : MSK m) {m' : MdS} (s : ∀ t ∈ m'.ts, t ∈ m.ts) : MSK m' := ⟨fun t ht u hu => x.kin t (s t ht) u (s u hu), fun t ht => x.rgt t (s t ht)⟩
theorem MSK.issue (x : MSK m) (i : MSI m) {m' : MdS} {c : S_api_Cap} {r q : Int} (e : m'.ts = m.ts ++ [⟨c, r, ((m.nm + 1 : Nat) : Int), q⟩]) (hr : 1 ≤ r ∧ r ≤ 31) (hq : q < ((m.nm + 1 : Nat) : Int)) (hk : ∀ t ∈ m.ts, t.xname = q → c.Obj = t.xcap.Obj) : MSK m' := by
  refine ⟨fun t ht u hu p => ?_, fun t ht => ?_⟩
  · rw [e] at ht hu
    rcases List.mem_append.1 ht with z | z
    · rcases List.mem_append.1 hu with v | v
      · exact x.kin t z u v p
      · rw [List.mem_singleton] at v; subst v
        exact hk t z p.symm
    · rw [List.mem_singleton] at z; subst z
      have p : u.xparent = ((m.nm + 1 : Nat) : Int) := p
      rcases List.mem_append.1 hu with v | v
      · have := i.tsm u v; omega
      · rw [List.mem_singleton] at v; subst v
        have p : q = ((m.nm + 1 : Nat) : Int) := p
        omega
  · rw [e] at ht
    rcases List.mem_append.1 ht with z | z
    · exact x.rgt t z
    · rw [List.mem_singleton] at z; subst z; exact hr
theorem der_kin (x : MSK m) (i : MSI m) {t : Tk} {r : Int} (ht : t ∈ m.ts) (hr : 1 ≤ r ∧ r ≤ 31) : ∀ n tk, MSK (derO m t.xcap.Obj r t.xname tk n).2
  | 0, _ => x.same rfl
  | n + 1, tk => by
    rw [derO]
    split
    · exact x.same rfl
    · split
      · exact der_kin x i ht hr n (tk + 1)
      · refine x.issue i rfl hr (by have := i.tsm t ht; omega) fun u hu e => ?_
        rw [i.ok.one hu ht e]
theorem do_kin (x : MSK m) (i : MSI m) (c : S_api_Call) (ds : List UInt8) (gs : List Int) : MSK (doO m c ds gs).2 := by
  unfold doO
  by_cases q0 : formedO c ds gs
  · rw [if_pos q0]
    by_cases hl : (alook m.ls c.By).isSome = true
    · rw [if_pos hl]
      by_cases q : c.Op = 1
      · rw [if_pos q]
        unfold createO
        repeat' split
        all_goals first | exact x | exact x.issue i rfl (by decide) (by omega) fun t ht e => by have := i.tsm t ht; omega
      rw [if_neg q]; clear q
      by_cases q : c.Op = 2
      · rw [if_pos q]
        unfold destroyO
        split
        · exact x
        · exact x.subT fun t ht => (List.mem_filter.1 ht).1
      rw [if_neg q]; clear q
      by_cases q : c.Op = 3
      · rw [if_pos q]
        unfold deriveO
        split
        · exact x
        · next t e q =>
          obtain ⟨ht, hc⟩ := given_iv q
          split
          · next hp =>
            repeat' split
            all_goals first | exact x | exact hc ▸ der_kin x i ht (partOf_r hp) 9 m.tk
          · exact x
      rw [if_neg q]; clear q
      by_cases q : c.Op = 4
      · rw [if_pos q]
        unfold revokeO
        repeat' split
        all_goals first | exact x | exact x.subT fun t ht => (List.mem_filter.1 ht).1
      rw [if_neg q]; clear q
      by_cases q : c.Op = 5
      · rw [if_pos q, (read_sh c).1]; exact x
      rw [if_neg q]; clear q
      by_cases q : c.Op = 6
      · rw [if_pos q]
        unfold writeO
        dsimp only
        repeat' split
        all_goals exact x.same rfl
      rw [if_neg q]; clear q
      by_cases q : c.Op = 7
      · rw [if_pos q]
        unfold addO
        repeat' split
        all_goals exact x.same rfl
      rw [if_neg q]; clear q
      by_cases q : c.Op = 8
      · rw [if_pos q]
        unfold removeO
        split
        all_goals exact x.same rfl
      rw [if_neg q]; clear q
      by_cases q : c.Op = 9
      · rw [if_pos q]
        unfold spawnO
        repeat' split
        all_goals exact x.same rfl
      rw [if_neg q]
      exact x.same rfl
    · rw [if_neg hl]; exact x
  · rw [if_neg q0]; exact x
theorem kin_newO (c : S_api_Config) (dr : List S_api_Word) : MSK (newO c dr) := ⟨fun _ h => (by cases h), fun _ h => (by cases h)⟩
theorem nz_all {r : Int} (hr : 1 ≤ r ∧ r ≤ 31) {n : Int} (hn : n = 1 ∨ n = 2 ∨ n = 4 ∨ n = 8 ∨ n = 16) : (iAnd .i64 r n = 0) = (partOf n r = false) := by
  have : ∀ q : Fin 31, ∀ k ∈ ([1, 2, 4, 8, 16] : List Int), (iAnd .i64 ((q.1 : Int) + 1) k = 0) ↔ (partOf k ((q.1 : Int) + 1) = false) := by
    decide +kernel
  have h1 := this ⟨(r - 1).toNat, by omega⟩ n (by rcases hn with h | h | h | h | h <;> subst h <;> decide)
  have e : ((r - 1).toNat : Int) + 1 = r := by omega
  rw [e] at h1; exact propext h1
end
section
variable {h h' : H} {p : Nat} {sd st vo vp : Sl} {so sl : List (Int × Sl)} {F F' G : Nat → Prop} {m m' : MdS}
theorem RMA.tagP (x : RMA h p sd st vo vp so sl F m) : Typed h N_ref21_Model p := .of x.cell
def OfT (S : TypeId → Bool) (h : H) (p : Nat) (G : Nat → Prop) : Prop := ∀ c, G c → c = p ∨ (∃ e, S e = true ∧ Typed h e c) ∨ h c = none
theorem OfT.not {S : TypeId → Bool} (nG : OfT S h p G) (tp : Typed h N_ref21_Model p) {e : TypeId} {c : Nat} (t : Typed h e c) (n1 : e ≠ N_ref21_Model) (n2 : S e = false) : ¬ G c := fun g => by
  rcases nG _ g with rfl | ⟨e', s, z⟩ | z
  · exact t.ne tp n1 rfl
  · exact t.ne z (fun q => by rw [q, s] at n2; cases n2) rfl
  · exact t.has z
section
variable (x : RMA h p sd st vo vp so sl F m) (k : But G h h') {S : TypeId → Bool} (nG : OfT S h p G)
include x k nG
theorem RMA.kDr (n : S N_api_Word = false) : Buf cW 2 N_api_Word h' sd m.dr := x.dr.but k fun ad ha => nG.not x.tagP (x.dr.typed ⟨ad, ha, rfl⟩) (by decide) n
theorem RMA.kTs (n : S N_ref21_Held = false) : Buf cHd 6 N_ref21_Held h' st (m.ts.map heldOf) := x.ts.but k fun ad ha => nG.not x.tagP (x.ts.typed ⟨ad, ha, rfl⟩) (by decide) n
theorem RMA.kMo (n : S N_api_Object = false) : Buf S_api_Object.cells 2 N_api_Object h' vo (so.map fun q => ⟨q.1, q.2⟩) := x.mo.but k fun ad ha => nG.not x.tagP (x.mo.typed ⟨ad, ha, rfl⟩) (by decide) n
theorem RMA.kMl (n : S N_api_Process = false) : Buf S_api_Process.cells 2 N_api_Process h' vp (sl.map fun q => ⟨q.1, q.2⟩) := x.ml.but k fun ad ha => nG.not x.tagP (x.ml.typed ⟨ad, ha, rfl⟩) (by decide) n
theorem RMA.kOb (n : S N_u8 = false) : Rows cU8 1 N_u8 h' F so m.ob := x.ob.but k fun _ _ q _ g => nG.not x.tagP (x.ob.typed q g) (by decide) n
theorem RMA.kLs (n : S N_api_Cap = false) : Rows cCp 3 N_api_Cap h' F sl m.ls := x.ls.but k fun _ _ q _ g => nG.not x.tagP (x.ls.typed q g) (by decide) n
end
theorem RMA.atP (x : RMA h p sd st vo vp so sl F m) (k : But (· = p) h h') (d : ∀ c, h' c = none → h c = none) (cell : h' p = some (.cells (S_ref21_Model.cells ⟨m'.c, sd, m'.tk, vo, st, vp, m'.ni, m'.np, ((m'.nm + 1 : Nat) : Int)⟩).toArray N_ref21_Model (0, 0))) (e0 : m'.ts = m.ts) (e1 : m'.dr = m.dr) (e2 : m'.ob = m.ob) (e3 : m'.ls = m.ls) : RMA h' p sd st vo vp so sl F m' := by
  have nG : OfT (fun _ => false) h p (· = p) := fun c e => .inl e
  exact ⟨cell, e1 ▸ x.kDr k nG rfl, e0 ▸ x.kTs k nG rfl, x.kMo k nG rfl, x.kMl k nG rfl, e2 ▸ x.kOb k nG rfl, e3 ▸ x.kLs k nG rfl, x.fp, x.fd, x.ft, x.fo, x.fl, fun c g z => x.has c g (d c z)⟩
theorem RMA.put (x : RMA h p sd st vo vp so sl F m) {n : Nat} {l1 l2 l3 new : List Value} {st' vo' vp' : Sl} (e : x.cs = l1 ++ l2 ++ l3) (e' : S_ref21_Model.cells ⟨m'.c, sd, m'.tk, vo', st', vp', m'.ni, m'.np, ((m'.nm + 1 : Nat) : Int)⟩ = l1 ++ new ++ l3) (hn : l1.length = n) (hl : new.length = l2.length) {k : H → Prop}
    (y : ∀ h', h' p = some (.cells (S_ref21_Model.cells ⟨m'.c, sd, m'.tk, vo', st', vp', m'.ni, m'.np, ((m'.nm + 1 : Nat) : Int)⟩).toArray N_ref21_Model (0, 0)) → But (· = p) h h' → (∀ c, h' c = none → h c = none) → k h') : mStore ((⟨p, 0, none⟩ : Addr).add n) new k h := by
  have hc := x.cell
  have e0 : S_ref21_Model.cells ⟨m.c, sd, m.tk, vo, st, vp, m.ni, m.np, ((m.nm + 1 : Nat) : Int)⟩ = l1 ++ l2 ++ l3 := e
  rw [e0] at hc
  refine w_store (pt_add p n) hc hn hl ?_
  rw [← e']
  exact y _ (upd_same _ _ _) (But.upd rfl) fun c q => (upd_none.1 q).2
theorem RMA.num (x : RMA h p sd st vo vp so sl F m) (m' : MdS) {n : Nat} {l1 l2 l3 new : List Value} (e : x.cs = l1 ++ l2 ++ l3) (e' : S_ref21_Model.cells ⟨m'.c, sd, m'.tk, vo, st, vp, m'.ni, m'.np, ((m'.nm + 1 : Nat) : Int)⟩ = l1 ++ new ++ l3) (hn : l1.length = n) (hl : new.length = l2.length) (e0 : m'.ts = m.ts) (e1 : m'.dr = m.dr) (e2 : m'.ob = m.ob) (e3 : m'.ls = m.ls) {k : H → Prop}
    (y : ∀ h', RMA h' p sd st vo vp so sl F m' → KChg F F h h' → k h') : mStore ((⟨p, 0, none⟩ : Addr).add n) new k h :=
  x.put (m' := m') e e' hn hl fun h' c b d => y h' (x.atP b d c e0 e1 e2 e3) ⟨b.mono fun c q => by rw [q]; exact x.fp, fun _ g => .inl g, d⟩
end
section
variable {h h' : H} {p : Nat} {sd st vo vp : Sl} {so sl : List (Int × Sl)} {F F' G : Nat → Prop} {m m' : MdS}
theorem RMA.issue (x : RMA h p sd st vo vp so sl F m) (hn : m.nm ≤ 2 ^ 40) (ht : m.ts.length ≤ 2 ^ 20) {c : S_api_Cap} {r q : Int} {k : H → Prop} (y : ∀ h' F', RM h' p F' (issueT m c r q) → KChg F F' h h' → k h') :
    mApp N_ref21_Held 6 48 #[(Value.int .i64 0), (Value.int .i64 0), (Value.int .i64 0), (Value.int .u64 0), (Value.int .u64 0), (Value.int .i64 0)] 1 [(Value.int .i64 ((m.nm + 1 : Nat) : Int)), (Value.int .i64 q), (Value.int .i64 c.Obj), (Value.int .u64 c.Pass.Hi), (Value.int .u64 c.Pass.Lo), (Value.int .i64 r)] st (fun s61 =>
      mDeref (some ⟨p, 0, none⟩) fun ad62 => mStore (ad62.add 13) [(Sl.val s61)] <| mDeref (some ⟨p, 0, none⟩) fun ad63 => mLoad (cInt .i64) (ad63.add 17) fun x64 => mDeref (some ⟨p, 0, none⟩) fun ad65 => mStore (ad65.add 17) [(Value.int .i64 (iAdd .i64 x64 1))] k) h := by
  refine w_app hd_len rfl x.ts [(⟨((m.nm + 1 : Nat) : Int), q, c, r⟩ : S_ref21_Held)] rfl rfl (.inl (by rw [List.length_map]; show (2 * (m.ts.length + 1) + 192) * 48 ≤ 2 ^ 48; omega)) fun s2 h2 b2 bt2 f2 d2 => w_deref ?_
  have np2 : ¬ st.foot p := fun g => (x.ts.typed g).ne x.tagP (by decide) rfl
  have c2 := bt2 _ _ x.cell np2
  have hc2 : h2 p = some (.cells ((x.cs.take 13) ++ cSl st ++ (x.cs.drop 14)).toArray N_ref21_Model (0, 0)) := c2
  refine w_store (pt_add p 13) hc2 rfl rfl ?_
  have ps2 : ¬ s2.foot p := fun g => (b2.typed g).ne (.of c2) (by decide) rfl
  have q3 : (upd h2 p (.cells ((x.cs.take 13) ++ [Sl.val s2] ++ (x.cs.drop 14)).toArray N_ref21_Model (0, 0))) p = some (.cells ((x.cs.take 13) ++ cSl s2 ++ (x.cs.drop 14)).toArray N_ref21_Model (0, 0)) := upd_same _ _ _
  have bt3 : But (· = p) h2 (upd h2 p (.cells ((x.cs.take 13) ++ [Sl.val s2] ++ (x.cs.drop 14)).toArray N_ref21_Model (0, 0))) := But.upd rfl
  have d3 : ∀ c, (upd h2 p (.cells ((x.cs.take 13) ++ [Sl.val s2] ++ (x.cs.drop 14)).toArray N_ref21_Model (0, 0))) c = none → h2 c = none := fun c e => (upd_none.1 e).2
  generalize (upd h2 p (.cells ((x.cs.take 13) ++ [Sl.val s2] ++ (x.cs.drop 14)).toArray N_ref21_Model (0, 0))) = h3 at q3 bt3 d3
  have l17 : At h3 ((⟨p, 0, none⟩ : Addr).add 17) (cInt .i64 ((m.nm + 1 : Nat) : Int)) := by
    rw [pt_add]; exact At.own (l1 := x.cs.take 13 ++ cSl s2 ++ (x.cs.drop 14).take 3) (l3 := []) q3 rfl
  refine w_deref (w_load l17 (w_deref ?_))
  rw [ia1 (m.nm + 1) (by omega)]
  have hc3 : h3 p = some (.cells ((x.cs.take 13 ++ cSl s2 ++ (x.cs.drop 14).take 3) ++ cInt .i64 ((m.nm + 1 : Nat) : Int) ++ []).toArray N_ref21_Model (0, 0)) := q3
  refine w_store (pt_add p 17) hc3 rfl rfl ?_
  have q4 : (upd h3 p (.cells ((x.cs.take 13 ++ cSl s2 ++ (x.cs.drop 14).take 3) ++ [Value.int .i64 ((m.nm + 1 + 1 : Nat) : Int)] ++ []).toArray N_ref21_Model (0, 0))) p = some (.cells (S_ref21_Model.cells ⟨m.c, sd, m.tk, vo, s2, vp, m.ni, m.np, ((m.nm + 1 + 1 : Nat) : Int)⟩).toArray N_ref21_Model (0, 0)) := upd_same _ _ _
  have bt4 : But (· = p) h3 (upd h3 p (.cells ((x.cs.take 13 ++ cSl s2 ++ (x.cs.drop 14).take 3) ++ [Value.int .i64 ((m.nm + 1 + 1 : Nat) : Int)] ++ []).toArray N_ref21_Model (0, 0))) := But.upd rfl
  have d4 : ∀ c, (upd h3 p (.cells ((x.cs.take 13 ++ cSl s2 ++ (x.cs.drop 14).take 3) ++ [Value.int .i64 ((m.nm + 1 + 1 : Nat) : Int)] ++ []).toArray N_ref21_Model (0, 0))) c = none → h3 c = none := fun c e => (upd_none.1 e).2
  generalize (upd h3 p (.cells ((x.cs.take 13 ++ cSl s2 ++ (x.cs.drop 14).take 3) ++ [Value.int .i64 ((m.nm + 1 + 1 : Nat) : Int)] ++ []).toArray N_ref21_Model (0, 0))) = h4 at q4 bt4 d4
  have b34 : But (· = p) h2 h4 := bt3.trans bt4 fun _ g => .inl g
  have bt : But (fun c => c = p ∨ st.foot c) h h4 := (bt2.mono fun _ g => .inr g).trans b34 fun _ g => .inl (.inl g)
  have dm : ∀ c, h4 c = none → h c = none := fun c e => d2 c (d3 c (d4 c e))
  have b4 : Buf cHd 6 N_ref21_Held h4 s2 ((issueT m c r q).ts.map heldOf) := by
    have := b2.but b34 fun ad ha g => ps2 ⟨ad, ha, g⟩
    show Buf cHd 6 N_ref21_Held h4 s2 ((m.ts ++ [_]).map heldOf)
    rw [List.map_append]; exact this
  have nG : OfT (fun e => decide (e = N_ref21_Held)) h p (fun c => c = p ∨ st.foot c) := fun c g => g.imp id fun g => .inl ⟨N_ref21_Held, rfl, x.ts.typed g⟩
  refine y h4 (fun c => F c ∨ s2.foot c) ⟨sd, s2, vo, vp, so, sl, q4, x.kDr bt nG rfl, b4, x.kMo bt nG rfl, x.kMl bt nG rfl, (x.kOb bt nG rfl).mono fun _ g => .inl g, (x.kLs bt nG rfl).mono fun _ g => .inl g, .inl x.fp, fun c g => .inl (x.fd c g), fun _ g => .inr g, fun c g => .inl (x.fo c g), fun c g => .inl (x.fl c g), fun c g => ?_⟩ ⟨bt.mono fun c g => g.elim (fun e => by rw [e]; exact x.fp) (x.ft c), fun c g => ?_, dm⟩
  · rcases g with g | g
    · exact fun z => x.has c g (dm c z)
    · exact b4.has g
  · rcases g with g | g
    · exact .inl g
    · exact (f2 c g).imp (x.ft c) id
theorem RMA.pushO (x : RMA h p sd st vo vp so sl F m) (hl : so.length ≤ 2 ^ 20) {ky : Int} (nk : ky ∉ m.ob.map (·.1)) {s5 s : Sl} {bs : List UInt8} (b5 : Buf cU8 1 N_u8 h s5 bs) (nw : ∀ c, s5.foot c → ¬ F c) (ar : Arr S_api_Object.cells h s [(⟨ky, s5⟩ : S_api_Object)]) {k : H → Prop}
    (y : ∀ h' F' vo', RMA h' p sd st vo' vp (so ++ [(ky, s5)]) sl F' { m with ob := m.ob ++ [(ky, bs)] } → But F h h' → (∀ c, F' c → F c ∨ s5.foot c ∨ h c = none) → (∀ c, h' c = none → h c = none) → k h') :
    mAppend N_api_Object 2 32 #[(Value.int .i64 0), (Sl.val Sl.nil)] vo s (fun s55 => mDeref (some ⟨p, 0, none⟩) fun ad56 => mStore (ad56.add 12) [(Sl.val s55)] k) h := by
  refine w_append ob_len (fun _ => rfl) rfl x.mo ar (.inl (by rw [List.length_map]; show (2 * (so.length + 1) + 192) * 32 ≤ 2 ^ 48; omega)) fun s2 h2 b2 bt2 f2 d2 => w_deref ?_
  have np2 : ¬ vo.foot p := fun g => (x.mo.typed g).ne x.tagP (by decide) rfl
  have c2 := bt2 _ _ x.cell np2
  have hc2 : h2 p = some (.cells ((x.cs.take 12) ++ cSl vo ++ (x.cs.drop 13)).toArray N_ref21_Model (0, 0)) := c2
  refine w_store (pt_add p 12) hc2 rfl rfl ?_
  have ps2 : ¬ s2.foot p := fun g => (b2.typed g).ne (.of c2) (by decide) rfl
  have q3 : (upd h2 p (.cells ((x.cs.take 12) ++ [Sl.val s2] ++ (x.cs.drop 13)).toArray N_ref21_Model (0, 0))) p = some (.cells (S_ref21_Model.cells ⟨m.c, sd, m.tk, s2, st, vp, m.ni, m.np, ((m.nm + 1 : Nat) : Int)⟩).toArray N_ref21_Model (0, 0)) := upd_same _ _ _
  have bt3 : But (· = p) h2 (upd h2 p (.cells ((x.cs.take 12) ++ [Sl.val s2] ++ (x.cs.drop 13)).toArray N_ref21_Model (0, 0))) := But.upd rfl
  have d3 : ∀ c, (upd h2 p (.cells ((x.cs.take 12) ++ [Sl.val s2] ++ (x.cs.drop 13)).toArray N_ref21_Model (0, 0))) c = none → h2 c = none := fun c e => (upd_none.1 e).2
  generalize (upd h2 p (.cells ((x.cs.take 12) ++ [Sl.val s2] ++ (x.cs.drop 13)).toArray N_ref21_Model (0, 0))) = h3 at q3 bt3 d3
  have bt : But (fun c => c = p ∨ vo.foot c) h h3 := (bt2.mono fun _ g => .inr g).trans bt3 fun _ g => .inl (.inl g)
  have dm : ∀ c, h3 c = none → h c = none := fun c e => d2 c (d3 c e)
  have nG : OfT (fun e => decide (e = N_api_Object)) h p (fun c => c = p ∨ vo.foot c) := fun c g => g.imp id fun g => .inl ⟨N_api_Object, rfl, x.mo.typed g⟩
  have b3 : Buf S_api_Object.cells 2 N_api_Object h3 s2 ((so ++ [(ky, s5)]).map fun q => ⟨q.1, q.2⟩) := by
    rw [List.map_append]; exact b2.but bt3 fun ad ha g => ps2 ⟨ad, ha, g⟩
  have b53 : Buf cU8 1 N_u8 h3 s5 bs := b5.but bt fun ad ha => nG.not x.tagP (b5.typed ⟨ad, ha, rfl⟩) (by decide) rfl
  have nso : ky ∉ so.map (·.1) := by rw [x.ob.keys]; exact nk
  have r3 := (x.kOb bt nG rfl).give (k := ky) b53 nw
  rw [aset_new nso, aset_new nk] at r3
  refine y h3 (fun c => F c ∨ s5.foot c ∨ s2.foot c) s2 ⟨q3, x.kDr bt nG rfl, x.kTs bt nG rfl, b3, x.kMl bt nG rfl, r3.mono fun c g => g.imp id .inl, (x.kLs bt nG rfl).mono fun _ g => .inl g, .inl x.fp, fun c g => .inl (x.fd c g), fun c g => .inl (x.ft c g), fun c g => .inr (.inr g), fun c g => .inl (x.fl c g), fun c g => ?_⟩ (bt.mono fun c g => g.elim (fun e => by rw [e]; exact x.fp) (x.fo c)) (fun c g => ?_) dm
  · rcases g with g | g | g
    · exact fun z => x.has c g (dm c z)
    · exact b53.has g
    · exact b3.has g
  · rcases g with g | g | g
    · exact .inl g
    · exact .inr (.inl g)
    · exact (f2 c g).elim (fun g => .inl (x.fo c g)) fun z => .inr (.inr z)
theorem RMA.lenO (x : RMA h p sd st vo vp so sl F m) : so.length = m.ob.length := by
  have := congrArg List.length x.ob.keys
  rwa [List.length_map, List.length_map] at this
theorem RMA.lenL (x : RMA h p sd st vo vp so sl F m) : sl.length = m.ls.length := by
  have := congrArg List.length x.ls.keys
  rwa [List.length_map, List.length_map] at this
theorem t_rCreate (x : RM h p F m) (i : MSI m) {n : Int} {K : S_api_Reply → H → Prop} (y : ∀ h' F', RM h' p F' (createO m n).2 → KChg F F' h h' → K ⟨(createO m n).1.code, (createO m n).1.cap, Sl.nil, 0⟩ h') : m_ref21_Model_create (some ⟨p, 0, none⟩) n K h := by
  unfold m_ref21_Model_create
  have x0 := x
  obtain ⟨sd, st, vo, vp, so, sl, x⟩ := x
  have hb := all_le i.obs
  have hob := i.obn
  have inn := i.ni
  have slen := x.lenO
  have mol := x.mo.len
  rw [List.length_map] at mol
  have kc : KChg F F h h := .refl F h
  unfold createO at y
  refine w_if (fun q1 => ?_) fun q1 => ?_
  · have q1 : n < 0 ∨ 4096 < n := by simpa using q1
    simp only [if_pos q1] at y
    exact w_pure _ (fun _ _ z => z) (y h F x0 kc)
  have q1 : ¬ (n < 0 ∨ 4096 < n) := fun z => by
    have : (decide (n < 0) || decide (4096 < n)) = true := by simpa using z
    rw [this] at q1; cases q1
  simp only [if_neg q1] at y
  have q1' : ¬ n < 0 ∧ ¬ 4096 < n := ⟨fun z => q1 (.inl z), fun z => q1 (.inr z)⟩
  obtain ⟨sz, rfl⟩ : ∃ sz : Nat, n = sz := ⟨n.toNat, by omega⟩
  have hszb : sz ≤ 4096 := by omega
  rw [Int.toNat_natCast] at y
  refine w_deref (w_deref (w_load x.f12 (w_load x.fObj (w_joinV (decide (m.c.Objects ≤ (m.ob.length : Int) ∨ 4611686018427387904 < m.ni)) (fun j hj => ?_) ?_))))
  · rw [mol, slen]
    refine w_if' (fun q2 => ?_) fun q2 => ?_
    · have q2 : m.c.Objects ≤ (m.ob.length : Int) := q2
      rw [decide_eq_true (.inl q2)] at hj; exact hj
    · have q2 : ¬ m.c.Objects ≤ (m.ob.length : Int) := q2
      refine w_deref (w_load x.f15 ?_)
      have e1 : decide (m.c.Objects ≤ (m.ob.length : Int) ∨ 4611686018427387904 < m.ni) = decide (4611686018427387904 < m.ni) := decide_eq_decide.2 ⟨fun z => z.elim (fun z => absurd z q2) id, .inr⟩
      rw [e1] at hj; exact hj
  by_cases q2 : m.c.Objects ≤ (m.ob.length : Int) ∨ 4611686018427387904 < m.ni
  · simp only [if_pos q2] at y
    exact w_ifT (decide_eq_true q2) (w_pure _ (fun _ _ z => z) (y h F x0 kc))
  simp only [if_neg q2] at y
  have q2' : ¬ 4611686018427387904 < m.ni := fun z => q2 (.inr z)
  have epg : iAdd .i64 ((allPages m.ob : Nat) : Int) (iQuo .i64 (iAdd .i64 (sz : Int) 63) 64) = ((allPages m.ob + pagesO sz : Nat) : Int) := by
    rw [show (63 : Int) = ((63 : Nat) : Int) from rfl, ia sz 63 (by omega), show (64 : Int) = ((64 : Nat) : Int) from rfl, iq (sz + 63) 64 (by omega)]
    exact ia _ _ (by omega)
  refine w_ifF (decide_eq_false q2) (w_deref (w_joinV (((allPages m.ob + pagesO sz : Nat) : Int), m.c.Pages) (fun j hj => ?_) ?_))
  · rw [← epg] at hj
    exact w_both (t_rPages x i.obs (by omega) (w_load x.fPag hj)) (w_load x.fPag (t_rPages x i.obs (by omega) hj))
  refine w_if' (fun q3 => ?_) fun q3 => ?_
  · have q3 : m.c.Pages < ((allPages m.ob + pagesO sz : Nat) : Int) := q3
    simp only [if_pos q3] at y
    exact w_pure _ (fun _ _ z => z) (y h F x0 kc)
  have q3 : ¬ m.c.Pages < ((allPages m.ob + pagesO sz : Nat) : Int) := q3
  simp only [if_neg q3] at y
  have hlt := x.ts.len
  rw [List.length_map] at hlt
  refine w_deref (w_deref (w_load x.f13 (w_load x.fEnt (w_if' (fun q4 => ?_) fun q4 => ?_))))
  · have q4 : m.c.Entries ≤ (st.len : Int) := q4
    rw [hlt] at q4
    simp only [if_pos q4] at y
    exact w_pure _ (fun _ _ z => z) (y h F x0 kc)
  have q4 : ¬ m.c.Entries ≤ (st.len : Int) := q4
  rw [hlt] at q4
  simp only [if_neg q4] at y
  have dl := x.dr.len
  have drn := i.drn
  have tn := i.tsn
  have nm := i.nm
  have tkn := i.tk
  refine w_deref (w_deref (w_load x.f11 (w_load x.f10 (w_if' (fun q5 => ?_) fun q5 => ?_))))
  · have q5 : (sd.len : Int) ≤ (m.tk : Int) := q5
    rw [List.getElem?_eq_none (by omega)] at y
    exact w_pure _ (fun _ _ z => z) (y h F x0 kc)
  have q5 : ¬ (sd.len : Int) ≤ (m.tk : Int) := q5
  have hlt5 : m.tk < m.dr.length := by omega
  have hw := List.getElem?_eq_getElem hlt5
  have hg := i.drg _ (List.getElem_mem hlt5)
  generalize m.dr[m.tk] = w at hw hg
  rw [hw] at y
  have cfgw := i.cfg.1
  refine w_deref (w_deref (w_deref (w_deref (w_load x.f10 (w_load x.f11 (w_get word_len x.dr.arr hw rfl rfl (w_load x.fWid (w_RkCut hg cfgw.1 cfgw.2 (w_load x.f15 (w_deref (w_load x.f11 (w_deref ?_))))))))))))
  rw [ia1 m.tk (by omega)]
  refine x.num { m with tk := m.tk + 1 } (l1 := x.cs.take 11) (l2 := cInt .i64 m.tk) (l3 := x.cs.drop 12) (new := [.int .i64 ((m.tk + 1 : Nat) : Int)]) rfl rfl rfl rfl rfl rfl rfl rfl fun h3 x3 k3 => ?_
  refine w_deref (w_load x3.f15 (w_deref ?_))
  rw [show iAdd .i64 m.ni 1 = m.ni + 1 from iAdd_eq (by omega) (by omega)]
  refine x3.num { m with tk := m.tk + 1, ni := m.ni + 1 } (l1 := x3.cs.take 15) (l2 := cInt .i64 m.ni) (l3 := x3.cs.drop 16) (new := [.int .i64 (m.ni + 1)]) rfl rfl rfl rfl rfl rfl rfl rfl fun h4 x4 k4 => ?_
  refine w_deref (w_joinP (fun (z : Sl × Sl) hh => z.1 = vo ∧ ∃ s5, Arr S_api_Object.cells hh z.2 [(⟨m.ni, s5⟩ : S_api_Object)] ∧ Buf cU8 1 N_u8 hh s5 (List.replicate sz 0) ∧ Keeps h4 hh ∧ ∀ c, s5.foot c → h4 c = none) (fun j hj => ?_) ?_)
  · have mk : ∀ {k : Sl → H → Prop}, (∀ s5 h5, Buf cU8 1 N_u8 h5 s5 (List.replicate sz 0) → Keeps h4 h5 → (∀ c, s5.foot c → h4 c = none) → k s5 h5) → mMake N_u8 1 #[(Value.int .u8 0)] (sz : Int) (sz : Int) k h4 := fun {k} z =>
      w_make (cells := cU8) (e := N_u8) (fun _ => rfl) (0 : UInt8) rfl (n := sz) rfl rfl (by omega) (by omega) fun s5 h5 b5 k5 f5 _ => z s5 h5 b5 k5 f5
    have nw : ∀ {s5 : Sl} {h5 : H}, Buf cU8 1 N_u8 h5 s5 (List.replicate sz 0) → Keeps h4 h5 → (∀ c, s5.foot c → h4 c = none) → mNew N_api_Object #[(Value.int .i64 m.ni), (Sl.val s5)] (fun ad => j (vo, (⟨some ad, 1, 1⟩ : Sl))) h5 := fun {s5 h5} b5 k5 f5 =>
      w_box fun b h6 hb q6 k6 => hj _ _ ⟨rfl, s5, (Buf.one (x := (⟨m.ni, s5⟩ : S_api_Object)) ob_len q6).arr, b5.keep k6, k5.trans k6, f5⟩
    exact w_both (w_load x4.f12 (mk fun s5 h5 b5 k5 f5 => nw b5 k5 f5)) (mk fun s5 h5 b5 k5 f5 => w_load (x4.keep k5).f12 (nw b5 k5 f5))
  rintro ⟨_, s⟩ h5 ⟨rfl, s5, ar, b5, k5, f5⟩
  have x5 := x4.keep k5
  have nk : m.ni ∉ m.ob.map (·.1) := fun z => by
    obtain ⟨q, hq, e⟩ := List.mem_map.1 z
    have := (i.obk q hq).2
    omega
  refine x5.pushO (by omega) nk b5 (fun c g z => x4.has c z (f5 c g)) ar fun h6 F6 vo6 x6 bt6 f6 d6 => ?_
  refine w_deref (w_deref (w_load x6.f13 (w_load x6.f17 ?_)))
  refine x6.issue (c := ⟨m.ni, m.cut w⟩) (r := 31) (q := 0) (by show m.nm ≤ _; omega) (by show m.ts.length ≤ _; omega) fun h7 F7 x7 k7 => ?_
  exact y h7 F7 x7 (((kc.trans k3).trans k4).trans ((⟨(But.of k5).trans bt6 fun c g => .inl g, fun c g => (f6 c g).elim .inl fun g => .inr (g.elim (f5 c) k5.fresh), fun c z => k5.fresh (d6 c z)⟩ : KChg F F6 h4 h6).trans k7))
end
end Go.Proofs.YtbjkfllncegpcaaGreat.K
