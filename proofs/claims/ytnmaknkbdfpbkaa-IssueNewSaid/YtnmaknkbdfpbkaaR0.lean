/- What the rows of the counter of draws share: the words that came in. -/
import Derived.Test.YtnmaknkbdfpbkaaB1
import Derived.Test.YtnmaknkbdfpbkaaP1
namespace Go.Proofs.Ytnmaknkbdfpbkaa.K
open Go Go.ChangeShapes Go.WideShapes Go.ChangeAt Go.RowKit Go.Proofs

theorem own : ownKnob Try.prog.godebug = none := by kernel_rfl
theorem laid : laidOutB Try.prog = true := by kernel_rfl
def WordOk (w : S_api_Word) : Prop := (Lit.int .u64 w.Hi).wf = true ∧ (Lit.int .u64 w.Lo).wf = true
set_option maxRecDepth 100000 in
theorem open_word {HH : Type} {enc : TypeId × Value → HH} {W : World} (n : Nat) (cs : List Value) (y : DataW HH × List MemPlace) (h : DataW.trod enc Try.prog W 0 (fun _ => true) true n 25 cs = some y) : ∃ x : S_api_Word, cs = x.cells ∧ WordOk x := by
  obtain ⟨y0, y1, m, _, hl, h0, h1⟩ := trod_struct2 Try.underlying25 h
  have hc : Try.prog.cellsOf 25 = 2 := by kernel_rfl
  have hc3 : Try.prog.cellsOf 23 = 1 := by kernel_rfl
  rw [hc] at hl
  match cs, hl with
  | [a, b], _ =>
    rw [hc3] at h0 h1
    obtain ⟨x, e1, _, w1⟩ := DataW.trod_int Try.underlying23 h0
    obtain ⟨z, e2, _, w2⟩ := DataW.trod_int Try.underlying23 h1
    simp at e1 e2
    subst e1; subst e2
    exact ⟨⟨x, z⟩, rfl, w1, w2⟩
set_option maxRecDepth 100000 in
theorem open_words {HH : Type} {enc : TypeId × Value → HH} {W : World} {base : Nat} {v : Value} {d : DataW HH} {ps : List MemPlace} (hval : Value.okWide Try.prog W .any base 22 v) (h : DataW.Trod enc Try.prog W 0 (fun _ => true) true 22 v d ps) :
    ∃ s xs, v = Sl.val s ∧ Arr S_api_Word.cells (heapH W) s xs ∧ (∀ x ∈ xs, WordOk x) ∧ s.cap ≤ maxLen ∧ ∀ B, (d.weights Try.prog 22).all (· ≤ B) = true → xs.length * Try.prog.bytesOf 25 ≤ B :=
  open_arr S_api_Word.cells WordOk word_len (by decide) (by kernel_rfl) Try.underlying22 open_word hval h

end Go.Proofs.Ytnmaknkbdfpbkaa.K
