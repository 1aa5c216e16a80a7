/- ValidateGone: the claim. -/
import Derived.Test.YtiajjcboddaenaaRValidateGoneA
namespace Go.Proofs.Ytiajjcboddaenaa.K
open Go Go.ChangeShapes Go.WideShapes Go.ChangeAt Go.RowKit Go.Proofs
theorem validateGone_joined : joinedFacts Try.pinned.checked.prog 9 Try.f9 Rows.validateGoneSpec Rows.validateGoneRow = true := by
  simp only [joinedFacts, validateGone_inPlace, validateGone_unfollowed, validateGone_recurses, validateGone_named, Bool.and_true]
  kernel_rfl
theorem validateGone_holds : Rows.ValidateGoneSaid :=
  OpenClaim.holds_of_wide 9 Try.f9 rfl rfl rfl rfl rfl rfl rfl ⟨rfl, rfl, rfl, rfl, rfl⟩ rfl rfl rfl rfl rfl (by kernel_rfl) Try.func9 validateGone_joined
    (of_decide_eq_true (by kernel_rfl)) (by unfold Func.isWrapper; rw [if_neg (by decide +kernel)]; exact ⟨rfl, rfl⟩)
    (fun os started H enc _ => validateGone_lifted os started H enc)
end Go.Proofs.Ytiajjcboddaenaa.K
