/- Arguments opened with the weights of what lies within them. -/
import Derived.Test.YtiajjcboddaenaaR1
namespace Go.Proofs.Ytiajjcboddaenaa.K
open Go Go.ChangeShapes Go.WideShapes Go.ChangeAt Go.RowKit Go.Proofs
/-- No block of the data weighs more. -/
def Weigh {HH : Type} (B : Nat) (t : TypeId) (d : DataW HH) : Prop := (d.weights Try.prog t).all (· ≤ B) = true
section
variable {HH : Type} {enc : TypeId × Value → HH} {W : World} {base : Nat} {v : Value} {d : DataW HH} {ps : List MemPlace} {B : Nat}
theorem fits_all {e : TypeId} : ∀ {l : List (DataW HH)}, (DataW.weightsAll Try.prog e l).all (· ≤ B) = true → ∀ x ∈ l, Weigh B e x := by
  intro l
  induction l with
  | nil => intro _ x hx; cases hx
  | cons a r ih =>
    intro h x hx
    rw [DataW.weightsAll, List.all_append, Bool.and_eq_true] at h
    rcases List.mem_cons.1 hx with rfl | hx
    · exact h.1
    · exact ih h.2 x hx
theorem fits_each : ∀ {ts : List TypeId} {l : List (DataW HH)}, (DataW.weightsEach Try.prog ts l).all (· ≤ B) = true → ∀ (i : Nat) t x, ts[i]? = some t → l[i]? = some x → Weigh B t x := by
  intro ts
  induction ts with
  | nil => intro l _ i t x h; simp at h
  | cons a r ih =>
    intro l h i t x h1 h2
    cases l with
    | nil => simp at h2
    | cons b s =>
      rw [DataW.weightsEach, List.all_append, Bool.and_eq_true] at h
      cases i with
      | zero =>
        simp at h1 h2
        subst h1; subst h2
        exact h.1
      | succ i => exact ih h.2 i t x (by simpa using h1) (by simpa using h2)
theorem trod_fieldW {t : TypeId} {fs : Array Field} {n : Nat} {cs : List Value} {y : DataW HH × List MemPlace} (ht : Try.prog.underlying t = some (.struct fs)) (h : DataW.trod enc Try.prog W 0 (fun _ => true) true n t cs = some y) (i : Nat) (f : Field) (hf : fs[i]? = some f) :
    ∃ y' n', DataW.trod enc Try.prog W 0 (fun _ => true) true n' f.type ((cs.drop f.offset).take (Try.prog.cellsOf f.type)) = some y' ∧ ∀ B, Weigh B t y.1 → Weigh B f.type y'.1 := by
  obtain ⟨xs, n', _, hy, _, hl, hh⟩ := DataW.trod_struct ht h
  have hi : i < xs.length := by
    rw [hl]
    rcases Nat.lt_or_ge i fs.size with q | q
    · exact q
    · rw [Array.getElem?_eq_none q] at hf; cases hf
  have := hh i f hf
  rw [List.getElem?_eq_getElem hi] at this
  refine ⟨xs[i], n', this, fun B hw => ?_⟩
  subst hy
  unfold Weigh at hw
  rw [DataW.weights, ht] at hw
  refine fits_each (ts := fs.toList.map (·.type)) (l := xs.map (·.1)) hw i _ _ ?_ ?_
  · rw [List.getElem?_map, Array.getElem?_toList, hf]; rfl
  · rw [List.getElem?_map, List.getElem?_eq_getElem hi]; rfl
theorem open_arrCW {t e : TypeId} {T : Type} (cells : T → List Value) (Good : T → Prop) (Big : Nat → T → Prop) {sz : Nat} (hs : ∀ x, (cells x).length = sz) (hpos : 0 < sz) (hc : Try.prog.cellsOf e = sz) (ht : Try.prog.underlying t = some (.slice e))
    (hT : ∀ n cs y, DataW.trod enc Try.prog W 0 (fun _ => true) true n e cs = some y → ∃ x, cs = cells x ∧ Good x ∧ ∀ B, Weigh B e y.1 → Big B x) {fuel : Nat} {cs : List Value} {d : DataW HH} {ps : List MemPlace} (hf : DataW.trod enc Try.prog W 0 (fun _ => true) true fuel t cs = some (d, ps)) :
    ∃ s xs, cs = [Sl.val s] ∧ Arr cells (heapH W) s xs ∧ (∀ x ∈ xs, Good x) ∧ s.cap ≤ maxLen ∧ ∀ B, Weigh B t d → xs.length * Try.prog.bytesOf e ≤ B ∧ ∀ x ∈ xs, Big B x := by
  rcases Go.Deep.open_slice ht hf with ⟨hcs, _⟩ | ⟨a, len, cap, m, n, D, Pl, hcs, _, hl, hm, hmm, hxd, hel⟩
  · subst hcs
    exact ⟨Sl.nil, [], rfl, ⟨rfl, Nat.le_refl _, fun e => absurd rfl e⟩, fun _ k => (by cases k), Nat.zero_le _, fun B _ => ⟨by simp, fun _ k => (by cases k)⟩⟩
  · subst hcs
    rw [if_pos rfl] at hmm
    have key : ∀ i, i < len → ∃ x, At (heapH W) (a.add (i * sz)) (cells x) ∧ Good x ∧ ∀ B, Weigh B e (D i) → Big B x := fun i hi => by
      obtain ⟨cs', h1, h2⟩ := hel i (by omega)
      obtain ⟨x, rfl, g, gb⟩ := hT _ _ _ h2
      rw [hc] at h1
      exact ⟨x, at_cells h1 hpos, g, gb⟩
    have mk : ∀ n, n ≤ len → ∃ xs : List T, xs.length = n ∧ ∀ i v, xs[i]? = some v → At (heapH W) (a.add (i * sz)) (cells v) ∧ Good v ∧ ∀ B, Weigh B e (D i) → Big B v := by
      intro n
      induction n with
      | zero => exact fun _ => ⟨[], rfl, fun i v k => by simp at k⟩
      | succ n ih =>
        intro hn
        obtain ⟨xs, hx, hg⟩ := ih (by omega)
        obtain ⟨x, q⟩ := key n (by omega)
        refine ⟨xs ++ [x], by simp [hx], fun i v k => ?_⟩
        rcases Nat.lt_or_ge i xs.length with r | r
        · rw [List.getElem?_append_left r] at k; exact hg i v k
        · rw [List.getElem?_append_right r] at k
          have hlt := lt_of_get k
          simp at hlt
          have : i = n := by omega
          subst this
          rw [hx, Nat.sub_self] at k
          cases k; exact q
    obtain ⟨xs, hx, hg⟩ := mk len (Nat.le_refl _)
    exact ⟨⟨some a, len, cap⟩, xs, rfl, ⟨hx.symm, hl, fun hne => ⟨a, rfl, at_flat hs xs a hne fun i v k => (hg i v k).1⟩⟩, fun x hx => by
      obtain ⟨i, hi, rfl⟩ := List.getElem_of_mem hx
      exact (hg i _ (List.getElem?_eq_getElem hi)).2.1, hm, fun B hw => by
        obtain ⟨rfl, -⟩ := Prod.mk.inj hxd
        unfold Weigh at hw
        rw [DataW.weights, ht] at hw
        simp only [List.all_cons, List.all_append, Bool.and_eq_true, decide_eq_true_eq, List.length_map, List.length_range] at hw
        refine ⟨Nat.le_trans (Nat.mul_le_mul_right _ ?_) hw.1, fun x hx' => ?_⟩
        · omega
        · obtain ⟨i, hi, rfl⟩ := List.getElem_of_mem hx'
          exact (hg i _ (List.getElem?_eq_getElem hi)).2.2 B (fits_all hw.2.1 _ (List.mem_map.2 ⟨i, List.mem_range.2 (by omega), rfl⟩))⟩
theorem open_slCW {t e : TypeId} {T : Type} {cells : T → List Value} {Good : T → Prop} {sz : Nat} (hs : ∀ x, (cells x).length = sz) (hpos : 0 < sz) (hc : Try.prog.cellsOf e = sz) (ht : Try.prog.underlying t = some (.slice e))
    (hT : ∀ n cs (y : DataW HH × List MemPlace), DataW.trod enc Try.prog W 0 (fun _ => true) true n e cs = some y → ∃ x, cs = cells x ∧ Good x) {n : Nat} {cs : List Value} {y : DataW HH × List MemPlace} (h : DataW.trod enc Try.prog W 0 (fun _ => true) true n t cs = some y) :
    ∃ s : Sl, cs = cSl s ∧ (∃ xs, Arr cells (heapH W) s xs ∧ (∀ x ∈ xs, Good x) ∧ s.cap ≤ maxLen) ∧ ∀ B, Weigh B t y.1 → s.len * Try.prog.bytesOf e ≤ B := by
  obtain ⟨d, ps⟩ := y
  obtain ⟨s, xs, e, a, g, c, w⟩ := open_arrCW (enc := enc) cells Good (fun _ _ => True) hs hpos hc ht (fun n cs y h => by obtain ⟨x, e, g⟩ := hT n cs y h; exact ⟨x, e, g, fun _ _ => trivial⟩) h
  exact ⟨s, e, ⟨xs, a, g, c⟩, fun B q => by rw [a.len]; exact (w B q).1⟩
set_option maxRecDepth 100000 in
theorem open_arrW {t e : TypeId} {T : Type} (cells : T → List Value) (Good : T → Prop) (Big : Nat → T → Prop) {sz : Nat} (hs : ∀ x, (cells x).length = sz) (hpos : 0 < sz) (hc : Try.prog.cellsOf e = sz) (ht : Try.prog.underlying t = some (.slice e))
    (hT : ∀ n cs y, DataW.trod enc Try.prog W 0 (fun _ => true) true n e cs = some y → ∃ x, cs = cells x ∧ Good x ∧ ∀ B, Weigh B e y.1 → Big B x) (hval : Value.okWide Try.prog W .any base t v) (h : DataW.Trod enc Try.prog W 0 (fun _ => true) true t v d ps) :
    ∃ s xs, v = Sl.val s ∧ Arr cells (heapH W) s xs ∧ (∀ x ∈ xs, Good x) ∧ s.cap ≤ maxLen ∧ ∀ B, Weigh B t d → xs.length * Try.prog.bytesOf e ≤ B ∧ ∀ x ∈ xs, Big B x := by
  obtain ⟨a0, len, cap, rfl⟩ := okWide_slice ht hval
  obtain ⟨fuel, hf⟩ := h
  obtain ⟨s, xs, e1, r⟩ := open_arrCW cells Good Big hs hpos hc ht hT hf
  exact ⟨s, xs, (List.cons.inj e1).1, r⟩
end
end Go.Proofs.Ytiajjcboddaenaa.K
