/- More arguments opened: rows of whole numbers. -/
import Derived.Test.YtnmaknkbdfpbkaaR0
namespace Go.Proofs.Ytnmaknkbdfpbkaa.K
open Go Go.ChangeShapes Go.WideShapes Go.ChangeAt Go.RowKit Go.Proofs
section
variable {HH : Type} {enc : TypeId × Value → HH} {W : World} {base : Nat} {v : Value} {d : DataW HH} {ps : List MemPlace}
set_option maxRecDepth 100000 in
theorem open_ints {t e : TypeId} {k : IntKind} (hu : Try.prog.underlying e = some (.int k)) (hc : Try.prog.cellsOf e = 1) (ht : Try.prog.underlying t = some (.slice e)) (hval : Value.okWide Try.prog W .any base t v) (h : DataW.Trod enc Try.prog W 0 (fun _ => true) true t v d ps) :
    ∃ s xs, v = Sl.val s ∧ Arr (cInt k) (heapH W) s xs ∧ (∀ x ∈ xs, k.min ≤ x ∧ x ≤ k.max) ∧ s.cap ≤ maxLen ∧ ∀ B, (d.weights Try.prog t).all (· ≤ B) = true → xs.length * Try.prog.bytesOf e ≤ B :=
  open_arr (cInt k) (fun x => k.min ≤ x ∧ x ≤ k.max) (fun _ => rfl) (by decide) hc ht (fun n cs y hf => by
    obtain ⟨x, e, _, w⟩ := DataW.trod_int (k := k) hu hf
    have w : (decide (k.min ≤ x) && decide (x ≤ k.max)) = true := w
    rw [Bool.and_eq_true, decide_eq_true_eq, decide_eq_true_eq] at w
    exact ⟨x, e, w⟩) hval h
end
end Go.Proofs.Ytnmaknkbdfpbkaa.K
