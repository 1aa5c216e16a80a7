/- DrawsAll answers true at every input and leaves its arguments as they were. No condition. -/
import Derived.Test.YtnmaknkbdfpbkaaR0
import Derived.Test.YtnmaknkbdfpbkaaP5
import Derived.HandedShaped
import Derived.Carry
import Derived.Deep.Strs
namespace Go.Proofs.Ytnmaknkbdfpbkaa.K
open Go Go.ChangeShapes Go.WideShapes Go.ChangeAt Go.RowKit Go.Proofs

set_option maxRecDepth 100000 in
theorem open_step {HH : Type} {enc : TypeId × Value → HH} {W : World} (n : Nat) (cs : List Value) (y : DataW HH × List MemPlace) (h : DataW.trod enc Try.prog W 0 (fun _ => true) true n 43 cs = some y) : ∃ x : S_law04_Step, cs = x.cells ∧ True := by
  obtain ⟨y0, y1, y2, m, _, hl, h0, h1, h2⟩ := Go.Deep.trod_struct3 Try.underlying43 h
  have hc : Try.prog.cellsOf 43 = 3 := by kernel_rfl
  have hc3 : Try.prog.cellsOf 3 = 1 := by kernel_rfl
  have hc4 : Try.prog.cellsOf 4 = 1 := by kernel_rfl
  rw [hc] at hl
  match cs, hl with
  | [a, b, c], _ =>
    rw [hc4] at h0
    rw [hc3] at h1 h2
    obtain ⟨x, e1, _⟩ := DataW.trod_bool Try.underlying4 h0
    obtain ⟨z, e2, _, w2⟩ := DataW.trod_int Try.underlying3 h1
    obtain ⟨u, e3, _, w3⟩ := DataW.trod_int Try.underlying3 h2
    simp at e1 e2 e3
    subst e1; subst e2; subst e3
    exact ⟨⟨x, z, u⟩, rfl, trivial⟩
set_option maxRecDepth 100000 in
theorem open_steps {HH : Type} {enc : TypeId × Value → HH} {W : World} {base : Nat} {v : Value} {d : DataW HH} {ps : List MemPlace} (hval : Value.okWide Try.prog W .any base 36 v) (h : DataW.Trod enc Try.prog W 0 (fun _ => true) true 36 v d ps) :
    ∃ s xs, v = Sl.val s ∧ Arr S_law04_Step.cells (heapH W) s xs ∧ (∀ x ∈ xs, True) ∧ s.cap ≤ maxLen ∧ ∀ B, (d.weights Try.prog 36).all (· ≤ B) = true → xs.length * Try.prog.bytesOf 43 ≤ B :=
  open_arr S_law04_Step.cells (fun _ => True) step_len (by decide) (by kernel_rfl) Try.underlying36 open_step hval h

set_option maxRecDepth 100000 in
theorem drawsAll_lifted (os : Os) (started : os.Started) (HH : Type) (enc : TypeId × Value → HH) :
    ReturnsInHanded {} Try.checked os 4 .any (Rows.drawsAllSpec.pre6 enc Try.prog Try.f4 Rows.drawsAllRow.domain false) (Rows.drawsAllSpec.post enc Try.prog Try.f4 false true false false) := by
  refine returnsInHanded_of_change_shaped (C := Try.checked) own started (by kernel_rfl) Try.func4
    (ChangeSpec.witness6 (enc := enc) (C := Try.checked) false ⟨#[], #[.slice none 0 0, .int .i64 0, .int .i64 0, .slice none 0 0], []⟩ 8 (by kernel_rfl) (by kernel_rfl) (by kernel_rfl) (by kernel_rfl)) ?_
  intro W base args ds gs before hval0 hW hcnd hwt0 _ _
  have hval : ∀ (j : Nat) t v, Try.f4.params[j]? = some t → args[j]? = some v → Value.okWide Try.prog W .any base t v := hval0
  have hW' : DataW.Whole enc Try.prog Try.f4.params.toList Rows.drawsAllSpec.vars false W args.toList ds gs before := hW
  have hwt : (DataW.weightsEach Try.prog ([22, 3, 3, 36] ++ []) (ds ++ gs)).all (· ≤ reachBytes) = true := hwt0
  clear hwt0
  obtain ⟨p, q, hA0, hV, rfl, hfz, hnd⟩ := hW
  have hA : DataW.TrodAll enc Try.prog W 0 (fun _ => true) true [22, 3, 3, 36] args.toList ds p := hA0
  obtain ⟨v0, v1, v2, v3, d0, d1, d2, d3, p0, p1, p2, p3, rfl, rfl, rfl, h0, h1, h2, h3⟩ := trodAll_four hA
  obtain ⟨rfl, rfl⟩ := trodVars_none hV
  obtain ⟨s, ws, rfl, arr, good, _, wt⟩ := open_words (hval 0 22 v0 rfl rfl) h0
  obtain ⟨a, rfl, rfl, rfl, wa⟩ := open_int Try.underlying3 (hval 1 3 v1 rfl rfl) h1
  obtain ⟨b, rfl, rfl, rfl, wb⟩ := open_int Try.underlying3 (hval 2 3 v2 rfl rfl) h2
  obtain ⟨s2, xs, rfl, arr2, _, cap2, _⟩ := open_steps (hval 3 36 v3 rfl rfl) h3
  have w0 := wt reachBytes (by
    simp only [List.append_nil, DataW.weightsEach, List.all_append, Bool.and_eq_true] at hwt
    exact hwt.1)
  have hb16 : Try.prog.bytesOf 25 = 16 := by kernel_rfl
  rw [hb16] at w0
  have walk := c_law04_DrawsAll (t_DrawsAll arr (fun w hw => by
    obtain ⟨g1, g2⟩ := good w hw
    obtain ⟨hi, e1, l1⟩ := u_wf g1
    obtain ⟨lo, e2, l2⟩ := u_wf g2
    exact ⟨hi, lo, by cases w; cases e1; cases e2; rfl, l1, l2⟩) (by unfold reachBytes at w0; omega) arr2 (by have := cap2; unfold maxLen at this; omega) (K := fun r h' => r = true ∧ Keeps (heapH W) h') (a1 := a) (a2 := b) fun h' k => ⟨rfl, k⟩)
  refine (calls_law (walk.mono (fun v h' => fun ⟨r, e, er, k⟩ => ⟨by rw [e, er]; rfl, k⟩) fun _ _ k => k)).mono fun e W' => fun ⟨he, hb⟩ => ?_
  subst he
  exact ⟨_, rfl, post_law laid Try.underlying4 rfl (by kernel_rfl) rfl hW' ⟨rfl, rfl, rfl⟩ hb⟩

theorem drawsAll_holds : Rows.DrawsAllSaid :=
  OpenClaim.holds_of_wide 4 Try.f4 rfl rfl rfl rfl rfl rfl rfl ⟨rfl, rfl, rfl, rfl, rfl⟩ rfl rfl rfl rfl rfl (by kernel_rfl) Try.func4 (by kernel_rfl)
    (of_decide_eq_true (by kernel_rfl)) (by unfold Func.isWrapper; rw [if_neg (by decide +kernel)]; exact ⟨rfl, rfl⟩)
    (fun os started H enc _ => drawsAll_lifted os started H enc)
end Go.Proofs.Ytnmaknkbdfpbkaa.K
