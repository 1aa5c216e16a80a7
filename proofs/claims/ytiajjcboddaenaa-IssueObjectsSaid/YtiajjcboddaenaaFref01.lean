/- Functions of the program, printed by a program of mine: ref01_Bit, ref01_Set, ref01_Cut -/
import Derived.Test.YtiajjcboddaenaaT
namespace Go.Proofs.Ytiajjcboddaenaa.K
open Go Go.Proofs
/-! sesame/sesameref01.Bit -/
def m_ref01_Bit (a0 : S_api_Word) (a1 : Int) (K : (Int) → H → Prop) : H → Prop :=
  mIf (decide (a1 < 64)) (
    mNN (IntKind.wrap .u64 a1) <|
    K (IntKind.wrap .i64 (iRem .u64 (iShr .u64 a0.Lo (IntKind.wrap .u64 a1)) 2))
    ) (
    mNN (IntKind.wrap .u64 (iSub .i64 a1 64)) <|
    K (IntKind.wrap .i64 (iRem .u64 (iShr .u64 a0.Hi (IntKind.wrap .u64 (iSub .i64 a1 64))) 2))
    )
def x_ref01_Bit : Cx Try.prog := ⟨tys, [], [2], [], mixed⟩
def h_ref01_Bit : Hint := .d
theorem w_ref01_Bit : ∀ (a : Den [S_api_Word.ty, (tInt .i64)]) (K : Den [(tInt .i64)] → HP) (h : H), m_ref01_Bit a.1 a.2 K h = wpF x_ref01_Bit Try.f260 [S_api_Word.ty, (tInt .i64)] [(tInt .i64)] h_ref01_Bit a K h := fun a K h => by kernel_rfl
def s_ref01_Bit : Spec Try.prog := mkSpec x_ref01_Bit 260 Try.f260 [S_api_Word.ty, (tInt .i64)] [(tInt .i64)] true h_ref01_Bit (fun a => m_ref01_Bit a.1 a.2) w_ref01_Bit callee260 rfl
/-! sesame/sesameref01.Set -/
def m_ref01_Set (a0 : S_api_Word) (a1 : Int) (K : (S_api_Word) → H → Prop) : H → Prop :=
  mJoin (fun (s1 : Int × Int) =>
    K (⟨s1.1, s1.2⟩ : S_api_Word)
    ) (fun j2 =>
    mIf (decide (a1 < 64)) (
      mNN (IntKind.wrap .u64 a1) <|
      j2 (a0.Hi, (iOr .u64 a0.Lo (iShl .u64 1 (IntKind.wrap .u64 a1))))
      ) (
      mNN (IntKind.wrap .u64 (iSub .i64 a1 64)) <|
      j2 ((iOr .u64 a0.Hi (iShl .u64 1 (IntKind.wrap .u64 (iSub .i64 a1 64)))), a0.Lo)
      )
    )
def x_ref01_Set : Cx Try.prog := ⟨tys, [], [2, 4], [], mixed⟩
def h_ref01_Set : Hint := (.seq .d (.join [.cell 2 0 (tInt .u64), .cell 2 1 (tInt .u64)] 4194272 [2] .d .d))
theorem w_ref01_Set : ∀ (a : Den [S_api_Word.ty, (tInt .i64)]) (K : Den [S_api_Word.ty] → HP) (h : H), m_ref01_Set a.1 a.2 K h = wpF x_ref01_Set Try.f261 [S_api_Word.ty, (tInt .i64)] [S_api_Word.ty] h_ref01_Set a K h := fun a K h => by kernel_rfl
def s_ref01_Set : Spec Try.prog := mkSpec x_ref01_Set 261 Try.f261 [S_api_Word.ty, (tInt .i64)] [S_api_Word.ty] true h_ref01_Set (fun a => m_ref01_Set a.1 a.2) w_ref01_Set callee261 rfl
/-! sesame/sesameref01.Cut -/
def m_ref01_Cut (a0 : S_api_Word) (a1 : Int) (K : (S_api_Word) → H → Prop) : H → Prop :=
  mLoop (fun (rec2 : (Int × Int × Int) → H → Prop) (s1 : Int × Int × Int) =>
    mIf ((decide (s1.1 < a1)) && (decide (s1.1 < 128))) (
      mPure (m_ref01_Bit a0 s1.1) fun r3 =>
      mIf (decide (r3 = 1)) (
        mPure (m_ref01_Set (⟨s1.2.1, s1.2.2⟩ : S_api_Word) s1.1) fun r4 =>
        rec2 ((iAdd .i64 s1.1 1), r4.Hi, r4.Lo)
        ) (
        rec2 ((iAdd .i64 s1.1 1), s1.2.1, s1.2.2)
        )
      ) (
      K (⟨s1.2.1, s1.2.2⟩ : S_api_Word)
      )
    ) (0, 0, 0)
def x_ref01_Cut : Cx Try.prog := ⟨tys, [s_ref01_Bit, s_ref01_Set], [2, 4, 5], [], mixed⟩
def h_ref01_Cut : Hint := (.seq .d (.seq .d (.seq (.seq .d (.blk (.loop [.slot 6 (tInt .i64), .cell 5 0 (tInt .u64), .cell 5 1 (tInt .u64)] 8388544 [5] (.seq (.seq (.reg (.run [3, 7, 11, 15] (.sel 10 13 14336 (.run [19, 23, 27] .nil) (.run [19, 23, 27] .nil) .nil))) .d) .d)))) .d)))
theorem w_ref01_Cut : ∀ (a : Den [S_api_Word.ty, (tInt .i64)]) (K : Den [S_api_Word.ty] → HP) (h : H), m_ref01_Cut a.1 a.2 K h = wpF x_ref01_Cut Try.f244 [S_api_Word.ty, (tInt .i64)] [S_api_Word.ty] h_ref01_Cut a K h := fun a K h => by kernel_rfl
def s_ref01_Cut : Spec Try.prog := mkSpec x_ref01_Cut 244 Try.f244 [S_api_Word.ty, (tInt .i64)] [S_api_Word.ty] true h_ref01_Cut (fun a => m_ref01_Cut a.1 a.2) w_ref01_Cut callee244 rfl
end Go.Proofs.Ytiajjcboddaenaa.K
