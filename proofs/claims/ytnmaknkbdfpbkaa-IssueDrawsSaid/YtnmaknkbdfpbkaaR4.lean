/- IssueDraws answers true at every input and leaves its arguments as they were. No condition. -/
import Derived.Test.YtnmaknkbdfpbkaaR0
import Derived.Test.YtnmaknkbdfpbkaaI2
namespace Go.Proofs.Ytnmaknkbdfpbkaa.K
open Go Go.ChangeShapes Go.WideShapes Go.ChangeAt Go.RowKit Go.Proofs

set_option maxRecDepth 100000 in
theorem open_ask {HH : Type} {enc : TypeId × Value → HH} {W : World} (n : Nat) (cs : List Value) (y : DataW HH × List MemPlace) (h : DataW.trod enc Try.prog W 0 (fun _ => true) true n 51 cs = some y) : ∃ x : Ask, cs = x.cells ∧ AskOk (heapH W) x := by
  obtain ⟨y0, y1, m, _, hl, h0, h1⟩ := trod_struct2 Try.underlying51 h
  have hc : Try.prog.cellsOf 51 = 2 := by kernel_rfl
  have hc3 : Try.prog.cellsOf 3 = 1 := by kernel_rfl
  have hc22 : Try.prog.cellsOf 22 = 1 := by kernel_rfl
  rw [hc] at hl
  match cs, hl with
  | [a, b], _ =>
    rw [hc22] at h0
    rw [hc3] at h1
    obtain ⟨s, ws, e1, arr, _, cap, _⟩ := open_arrC (d := y0.1) (ps := y0.2) S_api_Word.cells WordOk word_len (by decide) (by kernel_rfl) Try.underlying22 open_word h0
    obtain ⟨z, e2, _, w2⟩ := DataW.trod_int Try.underlying3 h1
    simp at e1 e2
    subst e1; subst e2
    exact ⟨⟨s, z⟩, rfl, ws, arr, by unfold maxLen at cap; omega⟩
set_option maxRecDepth 100000 in
theorem open_asks {HH : Type} {enc : TypeId × Value → HH} {W : World} {base : Nat} {v : Value} {d : DataW HH} {ps : List MemPlace} (hval : Value.okWide Try.prog W .any base 49 v) (h : DataW.Trod enc Try.prog W 0 (fun _ => true) true 49 v d ps) :
    ∃ s xs, v = Sl.val s ∧ Arr Ask.cells (heapH W) s xs ∧ (∀ x ∈ xs, AskOk (heapH W) x) ∧ s.cap ≤ maxLen ∧ ∀ B, (d.weights Try.prog 49).all (· ≤ B) = true → xs.length * Try.prog.bytesOf 51 ≤ B :=
  open_arr Ask.cells (AskOk (heapH W)) ask_len (by decide) (by kernel_rfl) Try.underlying49 open_ask hval h

set_option maxRecDepth 100000 in
theorem issueDraws_lifted (os : Os) (started : os.Started) (HH : Type) (enc : TypeId × Value → HH) :
    ReturnsInHanded {} Try.checked os 6 .any (Rows.issueDrawsSpec.pre6 enc Try.prog Try.f6 Rows.issueDrawsRow.domain false) (Rows.issueDrawsSpec.post enc Try.prog Try.f6 false true false false) := by
  refine returnsInHanded_of_change (C := Try.checked) own started (by kernel_rfl) Try.func6
    (ChangeSpec.witness6 (enc := enc) (C := Try.checked) false ⟨#[], #[.slice none 0 0, .int .i64 0, .slice none 0 0], []⟩ 8 (by kernel_rfl) (by kernel_rfl) (by kernel_rfl) (by kernel_rfl)) ?_
  intro W base args ds gs before hval0 hW hcnd _
  have hval : ∀ (j : Nat) t v, Try.f6.params[j]? = some t → args[j]? = some v → Value.okWide Try.prog W .any base t v := hval0
  have hW' : DataW.Whole enc Try.prog Try.f6.params.toList Rows.issueDrawsSpec.vars false W args.toList ds gs before := hW
  obtain ⟨p, q, hA0, hV, rfl, hfz, hnd⟩ := hW
  have hA : DataW.TrodAll enc Try.prog W 0 (fun _ => true) true [22, 3, 49] args.toList ds p := hA0
  obtain ⟨v0, v1, v2, d0, d1, d2, p0, p1, p2, rfl, rfl, rfl, h0, h1, h2⟩ := trodAll_three hA
  obtain ⟨rfl, rfl⟩ := trodVars_none hV
  obtain ⟨s, ws, rfl, arr, good, _, _⟩ := open_words (hval 0 22 v0 rfl rfl) h0
  obtain ⟨a, rfl, rfl, rfl, wa⟩ := open_int Try.underlying3 (hval 1 3 v1 rfl rfl) h1
  obtain ⟨s2, xs, rfl, arr2, good2, cap2, _⟩ := open_asks (hval 2 49 v2 rfl rfl) h2
  have walk := c_law13_IssueDraws (t_IssueDraws arr (fun w hw => by
    obtain ⟨g1, g2⟩ := good w hw
    obtain ⟨hi, e1, l1⟩ := u_wf g1
    obtain ⟨lo, e2, l2⟩ := u_wf g2
    exact ⟨hi, lo, by cases w; cases e1; cases e2; rfl, l1, l2⟩) arr2 (by have := cap2; unfold maxLen at this; omega) good2 (K := fun r h' => r = true ∧ Keeps (heapH W) h') (a1 := a) fun h' k => ⟨rfl, k⟩)
  refine (calls_law (walk.mono (fun v h' => fun ⟨r, e, er, k⟩ => ⟨by rw [e, er]; rfl, k⟩) fun _ _ k => k)).mono fun e W' => fun ⟨he, hb⟩ => ?_
  subst he
  exact ⟨_, rfl, post_law laid Try.underlying4 rfl (by kernel_rfl) rfl hW' ⟨rfl, rfl, rfl⟩ hb⟩

theorem issueDraws_holds : Rows.IssueDrawsSaid :=
  OpenClaim.holds_of_wide 6 Try.f6 rfl rfl rfl rfl rfl rfl rfl ⟨rfl, rfl, rfl, rfl, rfl⟩ rfl rfl rfl rfl rfl (by kernel_rfl) Try.func6 (by kernel_rfl)
    (of_decide_eq_true (by kernel_rfl)) (by unfold Func.isWrapper; rw [if_neg (by decide +kernel)]; exact ⟨rfl, rfl⟩)
    (fun os started H enc _ => issueDraws_lifted os started H enc)
end Go.Proofs.Ytnmaknkbdfpbkaa.K
