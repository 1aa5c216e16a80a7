/- More arguments opened: whole numbers, truth values, texts, rows, structs field by field. -/
import Derived.Test.YtiajjcboddaenaaRb
namespace Go.Proofs.Ytiajjcboddaenaa.K
open Go Go.ChangeShapes Go.WideShapes Go.ChangeAt Go.RowKit Go.Proofs
section
variable {HH : Type} {enc : TypeId × Value → HH} {W : World} {base : Nat} {v : Value} {d : DataW HH} {ps : List MemPlace}
theorem trod_len {t : TypeId} {fs : Array Field} {n : Nat} {cs : List Value} {y : DataW HH × List MemPlace} (ht : Try.prog.underlying t = some (.struct fs)) (h : DataW.trod enc Try.prog W 0 (fun _ => true) true n t cs = some y) : cs.length = Try.prog.cellsOf t := by
  obtain ⟨_, _, _, _, hl, _, _⟩ := DataW.trod_struct ht h
  exact hl
theorem trod_field {t : TypeId} {fs : Array Field} {n : Nat} {cs : List Value} {y : DataW HH × List MemPlace} (ht : Try.prog.underlying t = some (.struct fs)) (h : DataW.trod enc Try.prog W 0 (fun _ => true) true n t cs = some y) (i : Nat) (f : Field) (hf : fs[i]? = some f) :
    ∃ y' n', DataW.trod enc Try.prog W 0 (fun _ => true) true n' f.type ((cs.drop f.offset).take (Try.prog.cellsOf f.type)) = some y' := by
  obtain ⟨xs, n', _, _, _, hl, hh⟩ := DataW.trod_struct ht h
  have hi : i < xs.length := by
    rw [hl]
    rcases Nat.lt_or_ge i fs.size with q | q
    · exact q
    · rw [Array.getElem?_eq_none q] at hf; cases hf
  have := hh i f hf
  rw [List.getElem?_eq_getElem hi] at this
  exact ⟨xs[i], n', this⟩
theorem open_intC {e : TypeId} {k : IntKind} (hu : Try.prog.underlying e = some (.int k)) {n : Nat} {cs : List Value} {y : DataW HH × List MemPlace} (h : DataW.trod enc Try.prog W 0 (fun _ => true) true n e cs = some y) : ∃ x : Int, cs = cInt k x ∧ (k.min ≤ x ∧ x ≤ k.max) := by
  obtain ⟨x, e, _, w⟩ := DataW.trod_int (k := k) hu h
  have w : (decide (k.min ≤ x) && decide (x ≤ k.max)) = true := w
  rw [Bool.and_eq_true, decide_eq_true_eq, decide_eq_true_eq] at w
  exact ⟨x, e, w⟩
theorem open_boolC {e : TypeId} (hu : Try.prog.underlying e = some .bool) {n : Nat} {cs : List Value} {y : DataW HH × List MemPlace} (h : DataW.trod enc Try.prog W 0 (fun _ => true) true n e cs = some y) : ∃ x : Bool, cs = cBool x ∧ True := by
  obtain ⟨x, e, _⟩ := DataW.trod_bool hu h
  exact ⟨x, e, trivial⟩
theorem open_slC {t e : TypeId} {T : Type} {cells : T → List Value} {Good : T → Prop} {sz : Nat} (hs : ∀ x, (cells x).length = sz) (hpos : 0 < sz) (hc : Try.prog.cellsOf e = sz) (ht : Try.prog.underlying t = some (.slice e))
    (hT : ∀ n cs (y : DataW HH × List MemPlace), DataW.trod enc Try.prog W 0 (fun _ => true) true n e cs = some y → ∃ x, cs = cells x ∧ Good x) {n : Nat} {cs : List Value} {y : DataW HH × List MemPlace} (h : DataW.trod enc Try.prog W 0 (fun _ => true) true n t cs = some y) :
    ∃ s : Sl, cs = cSl s ∧ ∃ xs, Arr cells (heapH W) s xs ∧ (∀ x ∈ xs, Good x) ∧ s.cap ≤ maxLen := by
  obtain ⟨d, ps⟩ := y
  obtain ⟨s, xs, e, a, g, c, _⟩ := open_arrC cells Good hs hpos hc ht hT h
  exact ⟨s, e, xs, a, g, c⟩
set_option maxRecDepth 100000 in
theorem open_ints {t e : TypeId} {k : IntKind} (hu : Try.prog.underlying e = some (.int k)) (hc : Try.prog.cellsOf e = 1) (ht : Try.prog.underlying t = some (.slice e)) (hval : Value.okWide Try.prog W .any base t v) (h : DataW.Trod enc Try.prog W 0 (fun _ => true) true t v d ps) :
    ∃ s xs, v = Sl.val s ∧ Arr (cInt k) (heapH W) s xs ∧ (∀ x ∈ xs, k.min ≤ x ∧ x ≤ k.max) ∧ s.cap ≤ maxLen ∧ ∀ B, (d.weights Try.prog t).all (· ≤ B) = true → xs.length * Try.prog.bytesOf e ≤ B :=
  open_arr (cInt k) (fun x => k.min ≤ x ∧ x ≤ k.max) (fun _ => rfl) (by decide) hc ht (fun _ _ _ hf => open_intC hu hf) hval h
set_option maxRecDepth 100000 in
theorem open_str {t : TypeId} {fs : Array Field} (ht : Try.prog.underlying t = some (.struct fs)) (hval : Value.okWide Try.prog W .any base t v) (h : DataW.Trod enc Try.prog W 0 (fun _ => true) true t v d ps) : ∃ cs : List Value, v = .agg cs.toArray ∧ ∃ n y, DataW.trod enc Try.prog W 0 (fun _ => true) true n t cs = some y := by
  obtain ⟨cs, rfl, _⟩ := okWide_struct ht hval
  obtain ⟨fuel, hf⟩ := h
  exact ⟨cs.toList, by simp, fuel, _, hf⟩
end
end Go.Proofs.Ytiajjcboddaenaa.K
