/- Functions of the program, printed by a program of mine: mix_Hash -/
import Derived.Test.YtiajjcboddaenaaT
namespace Go.Proofs.Ytiajjcboddaenaa.K
open Go Go.Proofs
/-! sesame/mix.Hash -/
def m_mix_Hash (a0 : Int) (a1 : S_api_Word) (a2 : Int) (K : (Int) → H → Prop) : H → Prop :=
  mLoop (fun (rec2 : (Int × Int) → H → Prop) (s1 : Int × Int) =>
    mIf (decide (s1.2 = 1)) (
      rec2 ((iXor .u64 (iMul .u64 (iXor .u64 s1.1 a1.Hi) 11400714819323198485) (iShr .u64 (iMul .u64 (iXor .u64 s1.1 a1.Hi) 11400714819323198485) 29)), (iAdd .i64 s1.2 1))
      ) (
      mIf (decide (s1.2 = 2)) (
        rec2 ((iXor .u64 (iMul .u64 (iXor .u64 s1.1 a1.Lo) 11400714819323198485) (iShr .u64 (iMul .u64 (iXor .u64 s1.1 a1.Lo) 11400714819323198485) 29)), (iAdd .i64 s1.2 1))
        ) (
        mIf (decide (s1.2 = 3)) (
          mIf (decide (a2 ≤ 0)) (
            K 0
            ) (
            mIf (decide (64 ≤ a2)) (
              K s1.1
              ) (
              mNN a2 <|
              K (iAnd .u64 s1.1 (iSub .u64 (iShl .u64 1 a2) 1))
              )
            )
          ) (
          rec2 ((iXor .u64 (iMul .u64 (iXor .u64 s1.1 (IntKind.wrap .u64 a0)) 11400714819323198485) (iShr .u64 (iMul .u64 (iXor .u64 s1.1 (IntKind.wrap .u64 a0)) 11400714819323198485) 29)), (iAdd .i64 s1.2 1))
          )
        )
      )
    ) (5903417616801668165, 0)
def x_mix_Hash : Cx Try.prog := ⟨tys, [], [4], [], mixed⟩
def h_mix_Hash : Hint := (.seq .d (.blk (.seq .d (.seq .d (.seq .d (.seq (.blk (.loop [.slot 7 (tInt .u64), .slot 8 (tInt .i64)] 17179869056 [] .d)) .d))))))
theorem w_mix_Hash : ∀ (a : Den [(tInt .i64), S_api_Word.ty, (tInt .i64)]) (K : Den [(tInt .u64)] → HP) (h : H), m_mix_Hash a.1 a.2.1 a.2.2 K h = wpF x_mix_Hash Try.f243 [(tInt .i64), S_api_Word.ty, (tInt .i64)] [(tInt .u64)] h_mix_Hash a K h := fun a K h => by kernel_rfl
def s_mix_Hash : Spec Try.prog := mkSpec x_mix_Hash 243 Try.f243 [(tInt .i64), S_api_Word.ty, (tInt .i64)] [(tInt .u64)] true h_mix_Hash (fun a => m_mix_Hash a.1 a.2.1 a.2.2) w_mix_Hash callee243 rfl
end Go.Proofs.Ytiajjcboddaenaa.K
