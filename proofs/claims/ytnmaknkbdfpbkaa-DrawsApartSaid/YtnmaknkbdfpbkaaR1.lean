/- DrawsApart answers true at every input and leaves its arguments as they were. No condition. -/
import Derived.Test.YtnmaknkbdfpbkaaB1
import Derived.Test.YtnmaknkbdfpbkaaP2
namespace Go.Proofs.Ytnmaknkbdfpbkaa.K
open Go Go.ChangeShapes Go.WideShapes Go.ChangeAt Go.RowKit Go.Proofs

theorem own : ownKnob Try.prog.godebug = none := by kernel_rfl
theorem laid : laidOutB Try.prog = true := by kernel_rfl
def WordOk (w : S_api_Word) : Prop := (Lit.int .u64 w.Hi).wf = true ∧ (Lit.int .u64 w.Lo).wf = true
set_option maxRecDepth 100000 in
theorem open_word {HH : Type} {enc : TypeId × Value → HH} {W : World} (n : Nat) (cs : List Value) (y : DataW HH × List MemPlace) (h : DataW.trod enc Try.prog W 0 (fun _ => true) true n 25 cs = some y) : ∃ x : S_api_Word, cs = x.cells ∧ WordOk x := by
  obtain ⟨y0, y1, m, _, hl, h0, h1⟩ := trod_struct2 Try.underlying25 h
  have hc : Try.prog.cellsOf 25 = 2 := by kernel_rfl
  have hc3 : Try.prog.cellsOf 23 = 1 := by kernel_rfl
  rw [hc] at hl
  match cs, hl with
  | [a, b], _ =>
    rw [hc3] at h0 h1
    obtain ⟨x, e1, _, w1⟩ := DataW.trod_int Try.underlying23 h0
    obtain ⟨z, e2, _, w2⟩ := DataW.trod_int Try.underlying23 h1
    simp at e1 e2
    subst e1; subst e2
    exact ⟨⟨x, z⟩, rfl, w1, w2⟩
set_option maxRecDepth 100000 in
theorem open_words {HH : Type} {enc : TypeId × Value → HH} {W : World} {base : Nat} {v : Value} {d : DataW HH} {ps : List MemPlace} (hval : Value.okWide Try.prog W .any base 22 v) (h : DataW.Trod enc Try.prog W 0 (fun _ => true) true 22 v d ps) :
    ∃ s xs, v = Sl.val s ∧ Arr S_api_Word.cells (heapH W) s xs ∧ (∀ x ∈ xs, WordOk x) ∧ s.cap ≤ maxLen :=
  open_arr S_api_Word.cells WordOk word_len (by decide) (by kernel_rfl) Try.underlying22 open_word hval h

set_option maxRecDepth 100000 in
theorem drawsApart_lifted (os : Os) (started : os.Started) (HH : Type) (enc : TypeId × Value → HH) :
    ReturnsInHanded {} Try.checked os 3 .any (Rows.drawsApartSpec.pre6 enc Try.prog Try.f3 Rows.drawsApartRow.domain false) (Rows.drawsApartSpec.post enc Try.prog Try.f3 false true false false) := by
  refine returnsInHanded_of_change (C := Try.checked) own started (by kernel_rfl) Try.func3
    (ChangeSpec.witness6 (enc := enc) (C := Try.checked) false ⟨#[], #[.slice none 0 0, .int .i64 0], []⟩ 8 (by kernel_rfl) (by kernel_rfl) (by kernel_rfl) (by kernel_rfl)) ?_
  intro W base args ds gs before hval0 hW hcnd _
  have hval : ∀ (j : Nat) t v, Try.f3.params[j]? = some t → args[j]? = some v → Value.okWide Try.prog W .any base t v := hval0
  have hW' : DataW.Whole enc Try.prog Try.f3.params.toList Rows.drawsApartSpec.vars false W args.toList ds gs before := hW
  obtain ⟨p, q, hA0, hV, rfl, hfz, hnd⟩ := hW
  have hA : DataW.TrodAll enc Try.prog W 0 (fun _ => true) true [22, 3] args.toList ds p := hA0
  obtain ⟨v0, v1, d0, d1, p0, p1, rfl, rfl, rfl, h0, h1⟩ := trodAll_two hA
  obtain ⟨rfl, rfl⟩ := trodVars_none hV
  obtain ⟨s, ws, rfl, arr, _, _⟩ := open_words (hval 0 22 v0 rfl rfl) h0
  obtain ⟨a, rfl, rfl, rfl, wa⟩ := open_int Try.underlying3 (hval 1 3 v1 rfl rfl) h1
  have walk := c_law04_DrawsApart (t_DrawsApart arr (K := fun r h' => r = true ∧ Keeps (heapH W) h') (a1 := a) fun h' k => ⟨rfl, k⟩)
  refine (calls_law (walk.mono (fun v h' => fun ⟨r, e, er, k⟩ => ⟨by rw [e, er]; rfl, k⟩) fun _ _ k => k)).mono fun e W' => fun ⟨he, hb⟩ => ?_
  subst he
  exact ⟨_, rfl, post_law laid Try.underlying4 rfl (by kernel_rfl) rfl hW' ⟨rfl, rfl, rfl⟩ hb⟩

theorem drawsApart_holds : Rows.DrawsApartSaid :=
  OpenClaim.holds_of_wide 3 Try.f3 rfl rfl rfl rfl rfl rfl rfl ⟨rfl, rfl, rfl, rfl, rfl⟩ rfl rfl rfl rfl rfl (by kernel_rfl) Try.func3 (by kernel_rfl)
    (of_decide_eq_true (by kernel_rfl)) (by unfold Func.isWrapper; rw [if_neg (by decide +kernel)]; exact ⟨rfl, rfl⟩)
    (fun os started H enc _ => drawsApart_lifted os started H enc)
end Go.Proofs.Ytnmaknkbdfpbkaa.K
