/- Functions of the program, printed by a program of mine: wide_cut, wide_Cut, wide_Fits -/
import Derived.Test.YtiajjcboddaenaaT
namespace Go.Proofs.Ytiajjcboddaenaa.K
open Go Go.Proofs
/-! sesame/wide.cut -/
def m_wide_cut (a0 : Int) (a1 : Int) (K : (Int) → H → Prop) : H → Prop :=
  mIf (decide (a1 ≤ 0)) (
    K 0
    ) (
    mIf (decide (64 ≤ a1)) (
      K a0
      ) (
      mNN a1 <|
      K (iAnd .u64 a0 (iSub .u64 (iShl .u64 1 a1) 1))
      )
    )
def x_wide_cut : Cx Try.prog := ⟨tys, [], [], [], mixed⟩
def h_wide_cut : Hint := .d
theorem w_wide_cut : ∀ (a : Den [(tInt .u64), (tInt .i64)]) (K : Den [(tInt .u64)] → HP) (h : H), m_wide_cut a.1 a.2 K h = wpF x_wide_cut Try.f194 [(tInt .u64), (tInt .i64)] [(tInt .u64)] h_wide_cut a K h := fun a K h => by kernel_rfl
def s_wide_cut : Spec Try.prog := mkSpec x_wide_cut 194 Try.f194 [(tInt .u64), (tInt .i64)] [(tInt .u64)] true h_wide_cut (fun a => m_wide_cut a.1 a.2) w_wide_cut callee194 rfl
/-! sesame/wide.Cut -/
def m_wide_Cut (a0 : S_api_Word) (a1 : Int) (K : (S_api_Word) → H → Prop) : H → Prop :=
  mPure (m_wide_cut a0.Hi (iSub .i64 (iMin (iMax a1 0) 128) 64)) fun r1 =>
  mPure (m_wide_cut a0.Lo (iMin (iMax a1 0) 128)) fun r2 =>
  K (⟨r1, r2⟩ : S_api_Word)
def x_wide_Cut : Cx Try.prog := ⟨tys, [s_wide_cut], [2, 4], [], mixed⟩
def h_wide_Cut : Hint := (.seq .d (.seq .d (.seq (.reg (.run [0, 8, 12, 20, 28, 5, 16, 25, 32, 36, 43] .nil)) .d)))
theorem w_wide_Cut : ∀ (a : Den [S_api_Word.ty, (tInt .i64)]) (K : Den [S_api_Word.ty] → HP) (h : H), m_wide_Cut a.1 a.2 K h = wpF x_wide_Cut Try.f112 [S_api_Word.ty, (tInt .i64)] [S_api_Word.ty] h_wide_Cut a K h := fun a K h => by kernel_rfl
def s_wide_Cut : Spec Try.prog := mkSpec x_wide_Cut 112 Try.f112 [S_api_Word.ty, (tInt .i64)] [S_api_Word.ty] true h_wide_Cut (fun a => m_wide_Cut a.1 a.2) w_wide_Cut callee112 rfl
/-! sesame/wide.Fits -/
def m_wide_Fits (a0 : S_api_Word) (a1 : Int) (K : (Bool) → H → Prop) : H → Prop :=
  mIf (decide (1 ≤ a1)) (
    mPure (m_wide_Cut a0 a1) fun r2 =>
    K ((decide (r2.Hi = a0.Hi)) && ((decide (r2.Lo = a0.Lo)) && true))
    ) (
    K false
    )
def x_wide_Fits : Cx Try.prog := ⟨tys, [s_wide_Cut], [2], [], mixed⟩
def h_wide_Fits : Hint := (.seq .d (.seq (.reg (.run [0, 4, 8] (.split 7 (.run [16, 13, 20, 25, 28, 32, 36] .nil) (.run [12, 16, 20, 24, 28, 32, 36] .nil)))) .d))
theorem w_wide_Fits : ∀ (a : Den [S_api_Word.ty, (tInt .i64)]) (K : Den [tBool] → HP) (h : H), m_wide_Fits a.1 a.2 K h = wpF x_wide_Fits Try.f230 [S_api_Word.ty, (tInt .i64)] [tBool] h_wide_Fits a K h := fun a K h => by kernel_rfl
def s_wide_Fits : Spec Try.prog := mkSpec x_wide_Fits 230 Try.f230 [S_api_Word.ty, (tInt .i64)] [tBool] true h_wide_Fits (fun a => m_wide_Fits a.1 a.2) w_wide_Fits callee230 rfl
end Go.Proofs.Ytiajjcboddaenaa.K
