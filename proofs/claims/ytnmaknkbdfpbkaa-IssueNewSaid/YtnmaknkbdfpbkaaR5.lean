/- IssueNew answers true at every input and leaves its arguments as they were. No condition. -/
import Derived.Test.YtnmaknkbdfpbkaaR0
import Derived.Test.YtnmaknkbdfpbkaaI3
import Derived.HandedShaped
import Derived.Carry
namespace Go.Proofs.Ytnmaknkbdfpbkaa.K
open Go Go.ChangeShapes Go.WideShapes Go.ChangeAt Go.RowKit Go.Proofs

set_option maxRecDepth 100000 in
theorem issueNew_lifted (os : Os) (started : os.Started) (HH : Type) (enc : TypeId × Value → HH) :
    ReturnsInHanded {} Try.checked os 7 .any (Rows.issueNewSpec.pre6 enc Try.prog Try.f7 Rows.issueNewRow.domain false) (Rows.issueNewSpec.post enc Try.prog Try.f7 false true false false) := by
  refine returnsInHanded_of_change_shaped (C := Try.checked) own started (by kernel_rfl) Try.func7
    (ChangeSpec.witness6 (enc := enc) (C := Try.checked) false ⟨#[], #[.slice none 0 0, .int .i64 0, .int .i64 0, .slice none 0 0], []⟩ 8 (by kernel_rfl) (by kernel_rfl) (by kernel_rfl) (by kernel_rfl)) ?_
  intro W base args ds gs before hval0 hW hcnd hwt0 _ _
  have hval : ∀ (j : Nat) t v, Try.f7.params[j]? = some t → args[j]? = some v → Value.okWide Try.prog W .any base t v := hval0
  have hW' : DataW.Whole enc Try.prog Try.f7.params.toList Rows.issueNewSpec.vars false W args.toList ds gs before := hW
  have hwt : (DataW.weightsEach Try.prog ([22, 3, 3, 22] ++ []) (ds ++ gs)).all (· ≤ reachBytes) = true := hwt0
  clear hwt0
  obtain ⟨p, q, hA0, hV, rfl, hfz, hnd⟩ := hW
  have hA : DataW.TrodAll enc Try.prog W 0 (fun _ => true) true [22, 3, 3, 22] args.toList ds p := hA0
  obtain ⟨v0, v1, v2, v3, d0, d1, d2, d3, p0, p1, p2, p3, rfl, rfl, rfl, h0, h1, h2, h3⟩ := trodAll_four hA
  obtain ⟨rfl, rfl⟩ := trodVars_none hV
  obtain ⟨s, ws, rfl, arr, _, _, _⟩ := open_words (hval 0 22 v0 rfl rfl) h0
  obtain ⟨a, rfl, rfl, rfl, wa⟩ := open_int Try.underlying3 (hval 1 3 v1 rfl rfl) h1
  obtain ⟨b, rfl, rfl, rfl, wb⟩ := open_int Try.underlying3 (hval 2 3 v2 rfl rfl) h2
  obtain ⟨s2, tk, rfl, arr2, _, _, wt⟩ := open_words (hval 3 22 v3 rfl rfl) h3
  have w0 := wt reachBytes (by
    simp only [List.append_nil, DataW.weightsEach, List.all_append, Bool.and_eq_true] at hwt
    exact hwt.2.2.2)
  have hb16 : Try.prog.bytesOf 25 = 16 := by kernel_rfl
  rw [hb16] at w0
  have walk := c_law13_IssueNew (t_IssueNew arr arr2 (by unfold reachBytes at w0; omega) (K := fun r h' => r = true ∧ Keeps (heapH W) h') (a1 := a) (a2 := b) fun h' k => ⟨rfl, k⟩)
  refine (calls_law (walk.mono (fun v h' => fun ⟨r, e, er, k⟩ => ⟨by rw [e, er]; rfl, k⟩) fun _ _ k => k)).mono fun e W' => fun ⟨he, hb⟩ => ?_
  subst he
  exact ⟨_, rfl, post_law laid Try.underlying4 rfl (by kernel_rfl) rfl hW' ⟨rfl, rfl, rfl⟩ hb⟩

theorem issueNew_holds : Rows.IssueNewSaid :=
  OpenClaim.holds_of_wide 7 Try.f7 rfl rfl rfl rfl rfl rfl rfl ⟨rfl, rfl, rfl, rfl, rfl⟩ rfl rfl rfl rfl rfl (by kernel_rfl) Try.func7 (by kernel_rfl)
    (of_decide_eq_true (by kernel_rfl)) (by unfold Func.isWrapper; rw [if_neg (by decide +kernel)]; exact ⟨rfl, rfl⟩)
    (fun os started H enc _ => issueNew_lifted os started H enc)
end Go.Proofs.Ytnmaknkbdfpbkaa.K
