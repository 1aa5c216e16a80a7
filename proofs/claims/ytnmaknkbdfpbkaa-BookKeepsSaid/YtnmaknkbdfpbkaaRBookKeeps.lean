/- BookKeeps: true at every input, the arguments as they were. Printed by a program of mine. -/
import Derived.Test.YtnmaknkbdfpbkaaR1
import Derived.Test.YtnmaknkbdfpbkaaBk6
namespace Go.Proofs.Ytnmaknkbdfpbkaa.K
open Go Go.ChangeShapes Go.WideShapes Go.ChangeAt Go.RowKit Go.Proofs

set_option maxRecDepth 100000 in
theorem bookKeeps_lifted (os : Os) (started : os.Started) (HH : Type) (enc : TypeId × Value → HH) :
    ReturnsInHanded {} Try.checked os 12 .any (Rows.bookKeepsSpec.pre6 enc Try.prog Try.f12 Rows.bookKeepsRow.domain false) (Rows.bookKeepsSpec.post enc Try.prog Try.f12 false true false false) := by
  refine returnsInHanded_of_change (C := Try.checked) own started (by kernel_rfl) Try.func12
    (ChangeSpec.witness6 (enc := enc) (C := Try.checked) false ⟨#[], #[.slice none 0 0], []⟩ 8 (by kernel_rfl) (by kernel_rfl) (by kernel_rfl) (by kernel_rfl)) ?_
  intro W base args ds gs before hval0 hW hcnd _
  have hval : ∀ (j : Nat) t v, Try.f12.params[j]? = some t → args[j]? = some v → Value.okWide Try.prog W .any base t v := hval0
  have hW' : DataW.Whole enc Try.prog Try.f12.params.toList Rows.bookKeepsSpec.vars false W args.toList ds gs before := hW
  obtain ⟨p, q, hA0, hV, rfl, hfz, hnd⟩ := hW
  have hA : DataW.TrodAll enc Try.prog W 0 (fun _ => true) true [76] args.toList ds p := hA0
  obtain ⟨l⟩ := args
  obtain ⟨v0, l0, d0, ds0, p0, q0, e0, rfl, rfl, t0, hB0⟩ := trodAll_cons hA
  replace e0 : l = v0 :: l0 := e0
  subst e0
  obtain ⟨rfl, rfl, rfl⟩ := trodAll_nil hB0
  obtain ⟨rfl, rfl⟩ := trodVars_none hV
  obtain ⟨s0, b0, rfl, r0, g0, m0, u0⟩ := open_ints (e := 23) (k := .u64) (by kernel_rfl) (by kernel_rfl) (by kernel_rfl) (hval 0 76 v0 rfl rfl) t0
  have walk := s_law24_BookKeeps.ok (s0) (fun r h' => r = true ∧ Keeps (heapH W) h') (heapH W) (t_BookKeeps r0 (K := fun r h' => r = true ∧ Keeps (heapH W) h') fun h' k => ⟨rfl, k⟩)
  refine (calls_law (walk.mono (fun v h' => fun ⟨r, e, er, k⟩ => ⟨by rw [e, er]; rfl, k⟩) fun _ _ k => k)).mono fun e W' => fun ⟨he, hb⟩ => ?_
  subst he
  exact ⟨_, rfl, post_law (tb := 4) laid (by kernel_rfl) rfl (by kernel_rfl) rfl hW' ⟨rfl, rfl, rfl⟩ hb⟩

theorem bookKeeps_holds : Rows.BookKeepsSaid :=
  OpenClaim.holds_of_wide 12 Try.f12 rfl rfl rfl rfl rfl rfl rfl ⟨rfl, rfl, rfl, rfl, rfl⟩ rfl rfl rfl rfl rfl (by kernel_rfl) Try.func12 (by kernel_rfl)
    (of_decide_eq_true (by kernel_rfl)) (by unfold Func.isWrapper; rw [if_neg (by decide +kernel)]; exact ⟨rfl, rfl⟩)
    (fun os started H enc _ => bookKeeps_lifted os started H enc)
end Go.Proofs.Ytnmaknkbdfpbkaa.K
