/- ValidateSame: the claim. -/
import Derived.Test.YtiajjcboddaenaaRValidateSameA
namespace Go.Proofs.Ytiajjcboddaenaa.K
open Go Go.ChangeShapes Go.WideShapes Go.ChangeAt Go.RowKit Go.Proofs
theorem validateSame_joined : joinedFacts Try.pinned.checked.prog 8 Try.f8 Rows.validateSameSpec Rows.validateSameRow = true := by
  simp only [joinedFacts, validateSame_inPlace, validateSame_unfollowed, validateSame_recurses, validateSame_named, Bool.and_true]
  kernel_rfl
theorem validateSame_holds : Rows.ValidateSameSaid :=
  OpenClaim.holds_of_wide 8 Try.f8 rfl rfl rfl rfl rfl rfl rfl ⟨rfl, rfl, rfl, rfl, rfl⟩ rfl rfl rfl rfl rfl (by kernel_rfl) Try.func8 validateSame_joined
    (of_decide_eq_true (by kernel_rfl)) (by unfold Func.isWrapper; rw [if_neg (by decide +kernel)]; exact ⟨rfl, rfl⟩)
    (fun os started H enc _ => validateSame_lifted os started H enc)
end Go.Proofs.Ytiajjcboddaenaa.K
