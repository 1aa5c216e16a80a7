/- DrawsInOrder answers true at every input and leaves its arguments as they were. No condition. -/
import Derived.Test.YtnmaknkbdfpbkaaR0
import Derived.Test.YtnmaknkbdfpbkaaP3
namespace Go.Proofs.Ytnmaknkbdfpbkaa.K
open Go Go.ChangeShapes Go.WideShapes Go.ChangeAt Go.RowKit Go.Proofs

set_option maxRecDepth 100000 in
theorem open_i64 {HH : Type} {enc : TypeId × Value → HH} {W : World} (n : Nat) (cs : List Value) (y : DataW HH × List MemPlace) (h : DataW.trod enc Try.prog W 0 (fun _ => true) true n 3 cs = some y) : ∃ x : Int, cs = cInt .i64 x ∧ (Lit.int .i64 x).wf = true := by
  obtain ⟨x, e, _, w⟩ := DataW.trod_int Try.underlying3 h
  exact ⟨x, e, w⟩
set_option maxRecDepth 100000 in
theorem open_i64s {HH : Type} {enc : TypeId × Value → HH} {W : World} {base : Nat} {v : Value} {d : DataW HH} {ps : List MemPlace} (hval : Value.okWide Try.prog W .any base 46 v) (h : DataW.Trod enc Try.prog W 0 (fun _ => true) true 46 v d ps) :
    ∃ s xs, v = Sl.val s ∧ Arr (cInt .i64) (heapH W) s xs ∧ (∀ x ∈ xs, (Lit.int .i64 x).wf = true) ∧ s.cap ≤ maxLen :=
  open_arr (cInt .i64) (fun x => (Lit.int .i64 x).wf = true) (int_len .i64) (by decide) (by kernel_rfl) Try.underlying46 open_i64 hval h

set_option maxRecDepth 100000 in
theorem drawsInOrder_lifted (os : Os) (started : os.Started) (HH : Type) (enc : TypeId × Value → HH) :
    ReturnsInHanded {} Try.checked os 5 .any (Rows.drawsInOrderSpec.pre6 enc Try.prog Try.f5 Rows.drawsInOrderRow.domain false) (Rows.drawsInOrderSpec.post enc Try.prog Try.f5 false true false false) := by
  refine returnsInHanded_of_change (C := Try.checked) own started (by kernel_rfl) Try.func5
    (ChangeSpec.witness6 (enc := enc) (C := Try.checked) false ⟨#[], #[.slice none 0 0, .int .i64 0, .slice none 0 0], []⟩ 8 (by kernel_rfl) (by kernel_rfl) (by kernel_rfl) (by kernel_rfl)) ?_
  intro W base args ds gs before hval0 hW hcnd _
  have hval : ∀ (j : Nat) t v, Try.f5.params[j]? = some t → args[j]? = some v → Value.okWide Try.prog W .any base t v := hval0
  have hW' : DataW.Whole enc Try.prog Try.f5.params.toList Rows.drawsInOrderSpec.vars false W args.toList ds gs before := hW
  obtain ⟨p, q, hA0, hV, rfl, hfz, hnd⟩ := hW
  have hA : DataW.TrodAll enc Try.prog W 0 (fun _ => true) true [22, 3, 46] args.toList ds p := hA0
  obtain ⟨v0, v1, v2, d0, d1, d2, p0, p1, p2, rfl, rfl, rfl, h0, h1, h2⟩ := trodAll_three hA
  obtain ⟨rfl, rfl⟩ := trodVars_none hV
  obtain ⟨s, ws, rfl, arr, _, _⟩ := open_words (hval 0 22 v0 rfl rfl) h0
  obtain ⟨a, rfl, rfl, rfl, wa⟩ := open_int Try.underlying3 (hval 1 3 v1 rfl rfl) h1
  obtain ⟨s2, xs, rfl, arr2, _, cap2⟩ := open_i64s (hval 2 46 v2 rfl rfl) h2
  have walk := c_law04_DrawsInOrder (t_DrawsInOrder arr arr2 (by have := cap2; unfold maxLen at this; omega) (K := fun r h' => r = true ∧ Keeps (heapH W) h') (a1 := a) fun h' k => ⟨rfl, k⟩)
  refine (calls_law (walk.mono (fun v h' => fun ⟨r, e, er, k⟩ => ⟨by rw [e, er]; rfl, k⟩) fun _ _ k => k)).mono fun e W' => fun ⟨he, hb⟩ => ?_
  subst he
  exact ⟨_, rfl, post_law laid Try.underlying4 rfl (by kernel_rfl) rfl hW' ⟨rfl, rfl, rfl⟩ hb⟩

theorem drawsInOrder_holds : Rows.DrawsInOrderSaid :=
  OpenClaim.holds_of_wide 5 Try.f5 rfl rfl rfl rfl rfl rfl rfl ⟨rfl, rfl, rfl, rfl, rfl⟩ rfl rfl rfl rfl rfl (by kernel_rfl) Try.func5 (by kernel_rfl)
    (of_decide_eq_true (by kernel_rfl)) (by unfold Func.isWrapper; rw [if_neg (by decide +kernel)]; exact ⟨rfl, rfl⟩)
    (fun os started H enc _ => drawsInOrder_lifted os started H enc)
end Go.Proofs.Ytnmaknkbdfpbkaa.K
