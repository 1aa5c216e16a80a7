/- ValidateScripts: the claim. -/
import Derived.Test.YtiajjcboddaenaaRValidateScriptsA
namespace Go.Proofs.Ytiajjcboddaenaa.K
open Go Go.ChangeShapes Go.WideShapes Go.ChangeAt Go.RowKit Go.Proofs
theorem validateScripts_joined : joinedFacts Try.pinned.checked.prog 10 Try.f10 Rows.validateScriptsSpec Rows.validateScriptsRow = true := by
  simp only [joinedFacts, validateScripts_inPlace, validateScripts_unfollowed, validateScripts_recurses, validateScripts_named, Bool.and_true]
  kernel_rfl
theorem validateScripts_holds : Rows.ValidateScriptsSaid :=
  OpenClaim.holds_of_wide 10 Try.f10 rfl rfl rfl rfl rfl rfl rfl ⟨rfl, rfl, rfl, rfl, rfl⟩ rfl rfl rfl rfl rfl (by kernel_rfl) Try.func10 validateScripts_joined
    (of_decide_eq_true (by kernel_rfl)) (by unfold Func.isWrapper; rw [if_neg (by decide +kernel)]; exact ⟨rfl, rfl⟩)
    (fun os started H enc _ => validateScripts_lifted os started H enc)
end Go.Proofs.Ytiajjcboddaenaa.K
