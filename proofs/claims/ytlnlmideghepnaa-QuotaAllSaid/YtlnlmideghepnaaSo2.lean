/- slices.Sort of whole numbers: the heap, the pivot, reverseRange. -/
import Derived.Test.YtlnlmideghepnaaSo1
namespace Go.Proofs.Ytlnlmideghepnaa.K
open Go Go.Sort
section
variable {h : H} {s : Sl} {d : Array Int}
theorem sift_size (hi first : Nat) : ∀ (m r : Nat) (e : Array Int), hi - r ≤ m → (siftDown ltInt hi first r e).size = e.size := by
  intro m
  induction m with
  | zero => intro r e hm; rw [siftDown, dif_pos (by omega)]
  | succ m ih =>
    intro r e hm
    rw [siftDown]
    by_cases c : 2 * r + 1 ≥ hi
    · rw [dif_pos c]
    rw [dif_neg c]
    split
    · split
      · rfl
      · split
        · rw [ih _ _ (by omega), swp_size]
        · rfl
    · split
      · rfl
      · rw [ih _ _ (by omega), swp_size]
theorem t_heapSort {a b : Nat} (x : BufI h s d) (hab : a ≤ b) (hb : b ≤ d.size) (hn : d.size ≤ 2 ^ 40) {K : Unit → H → Prop} (y : ∀ h', BufI h' s (heapSort ltInt d a b) → Wrote s h h' → K () h') : m_slices_heapSortOrdered_int s (a : Int) (b : Int) K h := by
  unfold m_slices_heapSortOrdered_int
  rw [is_ b a (by omega) hab]
  have e0 : iQuo .i64 (iSub .i64 ((b - a : Nat) : Int) 1) 2 = (((b - a - 1) / 2 + 1 : Nat) : Int) - 1 := by
    rw [iSub_eq (by omega) (by omega)]
    rcases Nat.eq_zero_or_pos (b - a) with q | q
    · rw [q]; rfl
    · rw [show ((b - a : Nat) : Int) - 1 = ((b - a - 1 : Nat) : Int) from by omega]
      refine (iq (b - a - 1) 2 (by omega)).trans ?_
      omega
  rw [e0]
  refine w_loop (fun z => (z + 1).toNat) (fun z h' => ∃ (k : Nat) (e : Array Int), z = (k : Int) - 1 ∧ k ≤ b - a + 1 ∧ e.size = d.size ∧ BufI h' s e ∧ heapBuild ltInt (b - a) a k e = heapBuild ltInt (b - a) a ((b - a - 1) / 2 + 1) d ∧ Wrote s h h') ?_ ⟨_, d, rfl, by omega, rfl, x, rfl, .refl _ _⟩
  rintro rec _ h1 ⟨k, e, rfl, hk, he, x1, eq1, w1⟩ more
  refine w_if' (fun c => ?_) fun c => ?_
  · obtain ⟨k, rfl⟩ : ∃ q, k = q + 1 := ⟨k - 1, by omega⟩
    rw [show ((k + 1 : Nat) : Int) - 1 = (k : Int) from by omega]
    refine t_sift x1 (by omega) (by omega) (by omega) fun h2 x2 w2 => ?_
    refine more _ _ ⟨k, _, by rw [iSub_eq (by omega) (by omega)], by omega, ?_, x2, ?_, w1.trans w2⟩ ?_
    · rw [sift_size _ _ _ _ _ (Nat.le_refl _)]; exact he
    · rw [← eq1]; rfl
    · rw [iSub_eq (by omega) (by omega)]; omega
  have hk0 : k = 0 := by omega
  subst hk0
  rw [show heapBuild ltInt (b - a) a 0 e = e from rfl] at eq1
  clear more rec c hk
  rw [iSub_eq (by omega) (by omega)]
  refine w_loop (fun z => (z + 1).toNat) (fun z h' => ∃ (k : Nat) (e' : Array Int), z = (k : Int) - 1 ∧ k ≤ b - a ∧ e'.size = d.size ∧ BufI h' s e' ∧ heapPop ltInt a k e' = heapPop ltInt a (b - a) e ∧ Wrote s h h') ?_ ⟨_, e, rfl, Nat.le_refl _, he, x1, rfl, w1⟩
  rintro rec _ h2 ⟨k, e', rfl, hk, he', x2, eq2, w2⟩ more
  refine w_if' (fun c => ?_) fun c => ?_
  · obtain ⟨k, rfl⟩ : ∃ q, k = q + 1 := ⟨k - 1, by omega⟩
    rw [show ((k + 1 : Nat) : Int) - 1 = (k : Int) from by omega]
    have ek := ia a k (by omega)
    rw [ek]
    refine w_swp x2 (i := a) (j := a + k) (by omega) (by omega) rfl rfl fun h3 x3 w3 => ?_
    refine t_sift (lo := 0) x3 (by rw [swp_size]; omega) (Nat.zero_le _) (by rw [swp_size]; omega) fun h4 x4 w4 => ?_
    refine more _ _ ⟨k, _, by rw [iSub_eq (by omega) (by omega)], by omega, ?_, x4, ?_, (w2.trans w3).trans w4⟩ ?_
    · rw [sift_size _ _ _ _ _ (Nat.le_refl _), swp_size]; exact he'
    · rw [← eq2]; rfl
    · rw [iSub_eq (by omega) (by omega)]; omega
  · have hk0 : k = 0 := by omega
    subst hk0
    refine y h2 ?_ w2
    unfold heapSort
    rw [← eq1, ← eq2]; exact x2
theorem t_reverse {a b : Nat} (x : BufI h s d) (hab : a < b) (hb : b ≤ d.size) (hn : d.size ≤ 2 ^ 40) {K : Unit → H → Prop} (y : ∀ h', BufI h' s (reverseRange d a b) → Wrote s h h' → K () h') : m_slices_reverseRangeOrdered_int s (a : Int) (b : Int) K h := by
  unfold m_slices_reverseRangeOrdered_int
  rw [is1 b (by omega) (by omega)]
  refine w_loop (fun z => (z.2 - z.1).toNat) (fun z h' => ∃ (i j : Nat) (e : Array Int), z = ((i : Int), (j : Int)) ∧ i < d.size ∧ j < d.size ∧ e.size = d.size ∧ BufI h' s e ∧ reverseLoop i j e = reverseLoop a (b - 1) d ∧ Wrote s h h') ?_ ⟨a, b - 1, d, rfl, by omega, by omega, rfl, x, rfl, .refl _ _⟩
  rintro rec _ h1 ⟨i, j, e, rfl, hi, hj, he, x1, eq1, w1⟩ more
  rw [reverseLoop] at eq1
  refine w_if' (fun c => ?_) fun c => ?_
  · have c : i < j := by have c : (i : Int) < (j : Int) := c; omega
    rw [if_pos c] at eq1
    refine w_swp x1 (i := i) (j := j) (by omega) (by omega) rfl rfl fun h2 x2 w2 => ?_
    show rec (iAdd .i64 (i : Int) 1, iSub .i64 (j : Int) 1) h2
    rw [ia1 i (by omega), is1 j (by omega) (by omega)]
    exact more _ _ ⟨i + 1, j - 1, _, rfl, by omega, by omega, by rw [swp_size]; exact he, x2, eq1, w1.trans w2⟩ (by show ((j - 1 : Nat) - (i + 1 : Nat) : Int).toNat < ((j : Int) - (i : Int)).toNat; omega)
  · have c : ¬ i < j := by have c : ¬ (i : Int) < (j : Int) := c; omega
    rw [if_neg c] at eq1
    refine y h1 ?_ w1
    unfold reverseRange
    rw [← eq1]; exact x1
/-! choosePivotOrdered: the pivot lies in the range. -/
/-- A whole number of its own. -/
def Cell1 (c0 : Nat) (h : H) : Prop := ∃ v : Int, h c0 = some (.cells #[Value.int .i64 v] N_int (0, 0))
theorem t_order2 {i j c0 : Nat} (x : BufI h s d) (hi : i < d.size) (hj : j < d.size) (hc : Cell1 c0 h) (nf : ¬ s.foot c0) {K : Int × Int → H → Prop}
    (y : ∀ p q h', (p = i ∧ q = j ∨ p = j ∧ q = i) → BufI h' s d → Cell1 c0 h' → But (· = c0) h h' → (∀ c, h' c = none → h c = none) → K ((p : Nat), (q : Nat)) h') : m_slices_order2Ordered_int s (i : Int) (j : Int) (some ⟨c0, 0, none⟩) K h := by
  unfold m_slices_order2Ordered_int
  obtain ⟨v, hv⟩ := hc
  refine rdB x hj hi rfl rfl (w_less (w_if (fun _ => ?_) fun _ => y i j h (.inl ⟨rfl, rfl⟩) x ⟨v, hv⟩ (.refl _ _) fun _ e => e))
  refine w_deref (w_load (At.own (l1 := []) (l2 := cInt .i64 v) (l3 := []) hv rfl) (w_deref (w_store (l1 := []) (l2 := cInt .i64 v) (l3 := []) rfl hv rfl rfl ?_)))
  exact y j i _ (.inr ⟨rfl, rfl⟩) (x.but (But.upd (F := (· = c0)) rfl) fun a ha e => nf ⟨a, ha, e⟩) ⟨_, upd_same _ _ _⟩ (But.upd rfl) fun c e => (upd_none.1 e).2
theorem t_median {i j k c0 : Nat} (x : BufI h s d) (hi : i < d.size) (hj : j < d.size) (hk : k < d.size) (hc : Cell1 c0 h) (nf : ¬ s.foot c0) {K : Int → H → Prop}
    (y : ∀ p h', (p = i ∨ p = j ∨ p = k) → BufI h' s d → Cell1 c0 h' → But (· = c0) h h' → (∀ c, h' c = none → h c = none) → K (p : Nat) h') : m_slices_medianOrdered_int s (i : Int) (j : Int) (k : Int) (some ⟨c0, 0, none⟩) K h := by
  unfold m_slices_medianOrdered_int
  refine t_order2 x hi hj hc nf fun p1 q1 h1 e1 x1 c1 b1 d1 => ?_
  refine t_order2 (i := q1) (j := k) x1 (by rcases e1 with ⟨rfl, rfl⟩ | ⟨rfl, rfl⟩ <;> assumption) hk c1 nf fun p2 q2 h2 e2 x2 c2 b2 d2 => ?_
  have hp2 : p2 < d.size := by rcases e1 with ⟨rfl, rfl⟩ | ⟨rfl, rfl⟩ <;> rcases e2 with ⟨rfl, rfl⟩ | ⟨rfl, rfl⟩ <;> assumption
  refine t_order2 (i := p1) (j := p2) x2 (by rcases e1 with ⟨rfl, rfl⟩ | ⟨rfl, rfl⟩ <;> assumption) hp2 c2 nf fun p3 q3 h3 e3 x3 c3 b3 d3 => ?_
  refine y q3 h3 ?_ x3 c3 ((b1.trans b2 fun _ f => .inl f).trans b3 fun _ f => .inl f) fun c e => d1 c (d2 c (d3 c e))
  rcases e1 with ⟨rfl, rfl⟩ | ⟨rfl, rfl⟩ <;> rcases e2 with ⟨rfl, rfl⟩ | ⟨rfl, rfl⟩ <;> rcases e3 with ⟨rfl, rfl⟩ | ⟨rfl, rfl⟩ <;> simp
theorem t_medianA {i c0 : Nat} (x : BufI h s d) (h1 : 1 ≤ i) (hi : i + 1 < d.size) (hn : d.size ≤ 2 ^ 40) (hc : Cell1 c0 h) (nf : ¬ s.foot c0) {K : Int → H → Prop}
    (y : ∀ p h', (i ≤ p + 1 ∧ p ≤ i + 1) → BufI h' s d → Cell1 c0 h' → But (· = c0) h h' → (∀ c, h' c = none → h c = none) → K (p : Nat) h') : m_slices_medianAdjacentOrdered_int s (i : Int) (some ⟨c0, 0, none⟩) K h := by
  unfold m_slices_medianAdjacentOrdered_int
  rw [is1 i (by omega) h1, ia1 i (by omega)]
  exact t_median x (by omega) (by omega) hi hc nf fun p h' e => y p h' (by omega)
theorem w_newQ {t : TypeId} {c : Array Value} {k : Addr → H → Prop} (Q : Nat → H → Prop) (hq : ∀ b, h b = none → Q b (upd h b (.cells c t (0, 0)))) (x : ∀ b h0, h b = none → Q b h0 → k ⟨b, 0, none⟩ h0) : mNew t c k h := fun b hb => x b _ hb (hq b hb)
theorem t_choosePivot {a b : Nat} (x : BufI h s d) (hab : a < b) (hb : b ≤ d.size) (hn : d.size ≤ 2 ^ 40) {K : Int × Int → H → Prop}
    (y : ∀ (p : Nat) (t : Int) h', a ≤ p → p < b → BufI h' s d → Keeps h h' → K ((p : Int), t) h') : m_slices_choosePivotOrdered_int s (a : Int) (b : Int) K h := by
  unfold m_slices_choosePivotOrdered_int
  refine w_newQ (fun c0 h0 => Cell1 c0 h0 ∧ Keeps h h0) (fun c0 hc0 => ⟨⟨0, upd_same _ _ _⟩, .new hc0⟩) fun c0 h0 hc0 ⟨cl0, k0⟩ => ?_
  have nf : ¬ s.foot c0 := fun f => by
    obtain ⟨A, hA, e⟩ := f
    rcases x.at_ with ⟨q, _⟩ | ⟨B, z, fz, q, hB, _⟩
    · rw [q] at hA; cases hA
    · rw [q] at hA; cases hA; subst e; rw [hc0] at hB; cases hB
  have x0 : BufI h0 s d := x.keep k0
  have kk : ∀ h', But (· = c0) h0 h' → Keeps h h' := fun h' q => k0.but q fun n e => by subst e; exact hc0
  have e8 : iSub .i64 (b : Int) (a : Int) = ((b - a : Nat) : Int) := is_ b a (by omega) (by omega)
  have q4 : (b - a) / 4 ≤ b - a := Nat.div_le_self _ _
  have e4 : iQuo .i64 ((b - a : Nat) : Int) 4 = (((b - a) / 4 : Nat) : Int) := iq (b - a) 4 (by omega)
  generalize hq : (b - a) / 4 = q at q4 e4
  have m1 : iMul .i64 (q : Int) 1 = ((q : Nat) : Int) := (i64_eq (x := (q : Int) * 1) (by omega) (by omega)).trans (by omega)
  have m2 : iMul .i64 (q : Int) 2 = ((q * 2 : Nat) : Int) := (i64_eq (x := (q : Int) * 2) (by omega) (by omega)).trans (by omega)
  have m3 : iMul .i64 (q : Int) 3 = ((q * 3 : Nat) : Int) := (i64_eq (x := (q : Int) * 3) (by omega) (by omega)).trans (by omega)
  rw [e8, e4, m1, m2, m3, ia a q (by omega), ia a (q * 2) (by omega), ia a (q * 3) (by omega)]
  refine w_joinP (fun z h' => ∃ p : Nat, z = (p : Int) ∧ a ≤ p ∧ p < b ∧ BufI h' s d ∧ Cell1 c0 h' ∧ But (· = c0) h0 h') (fun j hj => ?_) ?_
  · refine w_if' (fun c => ?_) fun c => ?_
    · have c : 8 ≤ b - a := by omega
      refine w_joinP (fun z h' => ∃ p1 p2 p3 : Nat, z = ((p1 : Int), (p2 : Int), (p3 : Int)) ∧ (a ≤ p1 ∧ p1 < b) ∧ (a ≤ p2 ∧ p2 < b) ∧ (a ≤ p3 ∧ p3 < b) ∧ BufI h' s d ∧ Cell1 c0 h' ∧ But (· = c0) h0 h') (fun j2 hj2 => ?_) ?_
      · refine w_if' (fun c2 => ?_) fun c2 => ?_
        · have c2 : 50 ≤ b - a := by omega
          refine t_medianA x0 (i := a + q) (by omega) (by omega) hn cl0 nf fun p1 h1 r1 x1 cl1 b1 _ => ?_
          refine t_medianA x1 (i := a + q * 2) (by omega) (by omega) hn cl1 nf fun p2 h2 r2 x2 cl2 b2 _ => ?_
          refine t_medianA x2 (i := a + q * 3) (by omega) (by omega) hn cl2 nf fun p3 h3 r3 x3 cl3 b3 _ => ?_
          exact hj2 _ _ ⟨p1, p2, p3, rfl, by omega, by omega, by omega, x3, cl3, (b1.trans b2 fun _ f => .inl f).trans b3 fun _ f => .inl f⟩
        · exact hj2 _ _ ⟨a + q, a + q * 2, a + q * 3, rfl, by omega, by omega, by omega, x0, cl0, .refl _ _⟩
      · rintro _ h1 ⟨p1, p2, p3, rfl, r1, r2, r3, x1, cl1, b1⟩
        refine t_median x1 (i := p1) (j := p2) (k := p3) (by omega) (by omega) (by omega) cl1 nf fun p h2 e2 x2 cl2 b2 _ => ?_
        exact hj _ _ ⟨p, rfl, by omega, by omega, x2, cl2, b1.trans b2 fun _ f => .inl f⟩
    · have c : ¬ 8 ≤ b - a := by omega
      exact hj _ _ ⟨a + q * 2, rfl, by omega, by omega, x0, cl0, .refl _ _⟩
  · rintro _ h1 ⟨p, rfl, r1, r2, x1, ⟨v, hv⟩, b1⟩
    refine w_load (At.own (l1 := []) (l2 := cInt .i64 v) (l3 := []) hv rfl) ?_
    have fin : ∀ t : Int, K ((p : Int), t) h1 := fun t => y p t h1 r1 r2 x1 (kk h1 b1)
    exact w_if (fun _ => fin 1) fun _ => w_if (fun _ => fin 2) fun _ => fin 0
end
end Go.Proofs.Ytlnlmideghepnaa.K
