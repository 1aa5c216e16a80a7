/- Functions of the program, printed by a program of mine: math_bits_Len32, math_bits_Len64, math_bits_Len -/
import Derived.Test.YtiajjcboddaenaaT
namespace Go.Proofs.Ytiajjcboddaenaa.K
open Go Go.Proofs
/-! math/bits.Len32 -/
def m_math_bits_Len32 (a0 : Int) (K : (Int) → H → Prop) : H → Prop :=
  mJoin (fun (s1 : Int × Int) =>
    mJoin (fun (s3 : Int × Int) =>
      mByte (ByteArray.mk #[0, 1, 2, 2, 3, 3, 3, 3, 4, 4, 4, 4, 4, 4, 4, 4, 5, 5, 5, 5, 5, 5, 5, 5, 5, 5, 5, 5, 5, 5, 5, 5, 6, 6, 6, 6, 6, 6, 6, 6, 6, 6, 6, 6, 6, 6, 6, 6, 6, 6, 6, 6, 6, 6, 6, 6, 6, 6, 6, 6, 6, 6, 6, 6, 7, 7, 7, 7, 7, 7, 7, 7, 7, 7, 7, 7, 7, 7, 7, 7, 7, 7, 7, 7, 7, 7, 7, 7, 7, 7, 7, 7, 7, 7, 7, 7, 7, 7, 7, 7, 7, 7, 7, 7, 7, 7, 7, 7, 7, 7, 7, 7, 7, 7, 7, 7, 7, 7, 7, 7, 7, 7, 7, 7, 7, 7, 7, 7, 8, 8, 8, 8, 8, 8, 8, 8, 8, 8, 8, 8, 8, 8, 8, 8, 8, 8, 8, 8, 8, 8, 8, 8, 8, 8, 8, 8, 8, 8, 8, 8, 8, 8, 8, 8, 8, 8, 8, 8, 8, 8, 8, 8, 8, 8, 8, 8, 8, 8, 8, 8, 8, 8, 8, 8, 8, 8, 8, 8, 8, 8, 8, 8, 8, 8, 8, 8, 8, 8, 8, 8, 8, 8, 8, 8, 8, 8, 8, 8, 8, 8, 8, 8, 8, 8, 8, 8, 8, 8, 8, 8, 8, 8, 8, 8, 8, 8, 8, 8, 8, 8, 8, 8, 8, 8, 8, 8, 8, 8, 8, 8, 8, 8, 8, 8, 8, 8, 8, 8, 8, 8, 8, 8, 8, 8, 8, 8]) (IntKind.wrap .u8 s3.1) fun x5 =>
      K (iAdd .i64 s3.2 (IntKind.wrap .i64 x5))
      ) (fun j4 =>
      mIf (decide (256 ≤ s1.1)) (
        j4 ((iShr .u32 s1.1 8), (iAdd .i64 s1.2 8))
        ) (
        j4 (s1.1, s1.2)
        )
      )
    ) (fun j2 =>
    mIf (decide (65536 ≤ a0)) (
      j2 ((iShr .u32 a0 16), 16)
      ) (
      j2 (a0, 0)
      )
    )
def x_math_bits_Len32 : Cx Try.prog := ⟨tys, [], [], [], mixed⟩
def h_math_bits_Len32 : Hint := (.seq .d (.join [.slot 0 (tInt .u32), .slot 2 (tInt .i64)] 125 [] .d (.join [.slot 0 (tInt .u32), .slot 2 (tInt .i64)] 8069 [] .d .d)))
theorem w_math_bits_Len32 : ∀ (a : Den [(tInt .u32)]) (K : Den [(tInt .i64)] → HP) (h : H), m_math_bits_Len32 a K h = wpF x_math_bits_Len32 Try.f273 [(tInt .u32)] [(tInt .i64)] h_math_bits_Len32 a K h := fun a K h => by kernel_rfl
def s_math_bits_Len32 : Spec Try.prog := mkSpec x_math_bits_Len32 273 Try.f273 [(tInt .u32)] [(tInt .i64)] true h_math_bits_Len32 (fun a => m_math_bits_Len32 a) w_math_bits_Len32 callee273 rfl
/-! math/bits.Len64 -/
def m_math_bits_Len64 (a0 : Int) (K : (Int) → H → Prop) : H → Prop :=
  mJoin (fun (s1 : Int × Int) =>
    mJoin (fun (s3 : Int × Int) =>
      mJoin (fun (s5 : Int × Int) =>
        mByte (ByteArray.mk #[0, 1, 2, 2, 3, 3, 3, 3, 4, 4, 4, 4, 4, 4, 4, 4, 5, 5, 5, 5, 5, 5, 5, 5, 5, 5, 5, 5, 5, 5, 5, 5, 6, 6, 6, 6, 6, 6, 6, 6, 6, 6, 6, 6, 6, 6, 6, 6, 6, 6, 6, 6, 6, 6, 6, 6, 6, 6, 6, 6, 6, 6, 6, 6, 7, 7, 7, 7, 7, 7, 7, 7, 7, 7, 7, 7, 7, 7, 7, 7, 7, 7, 7, 7, 7, 7, 7, 7, 7, 7, 7, 7, 7, 7, 7, 7, 7, 7, 7, 7, 7, 7, 7, 7, 7, 7, 7, 7, 7, 7, 7, 7, 7, 7, 7, 7, 7, 7, 7, 7, 7, 7, 7, 7, 7, 7, 7, 7, 8, 8, 8, 8, 8, 8, 8, 8, 8, 8, 8, 8, 8, 8, 8, 8, 8, 8, 8, 8, 8, 8, 8, 8, 8, 8, 8, 8, 8, 8, 8, 8, 8, 8, 8, 8, 8, 8, 8, 8, 8, 8, 8, 8, 8, 8, 8, 8, 8, 8, 8, 8, 8, 8, 8, 8, 8, 8, 8, 8, 8, 8, 8, 8, 8, 8, 8, 8, 8, 8, 8, 8, 8, 8, 8, 8, 8, 8, 8, 8, 8, 8, 8, 8, 8, 8, 8, 8, 8, 8, 8, 8, 8, 8, 8, 8, 8, 8, 8, 8, 8, 8, 8, 8, 8, 8, 8, 8, 8, 8, 8, 8, 8, 8, 8, 8, 8, 8, 8, 8, 8, 8, 8, 8, 8, 8, 8, 8]) (IntKind.wrap .u8 s5.1) fun x7 =>
        K (iAdd .i64 s5.2 (IntKind.wrap .i64 x7))
        ) (fun j6 =>
        mIf (decide (256 ≤ s3.1)) (
          j6 ((iShr .u64 s3.1 8), (iAdd .i64 s3.2 8))
          ) (
          j6 (s3.1, s3.2)
          )
        )
      ) (fun j4 =>
      mIf (decide (65536 ≤ s1.1)) (
        j4 ((iShr .u64 s1.1 16), (iAdd .i64 s1.2 16))
        ) (
        j4 (s1.1, s1.2)
        )
      )
    ) (fun j2 =>
    mIf (decide (4294967296 ≤ a0)) (
      j2 ((iShr .u64 a0 32), 32)
      ) (
      j2 (a0, 0)
      )
    )
def x_math_bits_Len64 : Cx Try.prog := ⟨tys, [], [], [], mixed⟩
def h_math_bits_Len64 : Hint := (.seq .d (.join [.slot 0 (tInt .u64), .slot 2 (tInt .i64)] 125 [] .d (.join [.slot 0 (tInt .u64), .slot 2 (tInt .i64)] 8069 [] .d (.join [.slot 0 (tInt .u64), .slot 2 (tInt .i64)] 516101 [] .d .d))))
theorem w_math_bits_Len64 : ∀ (a : Den [(tInt .u64)]) (K : Den [(tInt .i64)] → HP) (h : H), m_math_bits_Len64 a K h = wpF x_math_bits_Len64 Try.f274 [(tInt .u64)] [(tInt .i64)] h_math_bits_Len64 a K h := fun a K h => by kernel_rfl
def s_math_bits_Len64 : Spec Try.prog := mkSpec x_math_bits_Len64 274 Try.f274 [(tInt .u64)] [(tInt .i64)] true h_math_bits_Len64 (fun a => m_math_bits_Len64 a) w_math_bits_Len64 callee274 rfl
/-! math/bits.Len -/
def m_math_bits_Len (a0 : Int) (K : (Int) → H → Prop) : H → Prop :=
  mPure (m_math_bits_Len64 a0) fun r1 =>
  K r1
def x_math_bits_Len : Cx Try.prog := ⟨tys, [s_math_bits_Len64], [], [], mixed⟩
def h_math_bits_Len : Hint := (.seq .d (.seq (.known .d .d) .d))
theorem w_math_bits_Len : ∀ (a : Den [(tInt .u64)]) (K : Den [(tInt .i64)] → HP) (h : H), m_math_bits_Len a K h = wpF x_math_bits_Len Try.f258 [(tInt .u64)] [(tInt .i64)] h_math_bits_Len a K h := fun a K h => by kernel_rfl
def s_math_bits_Len : Spec Try.prog := mkSpec x_math_bits_Len 258 Try.f258 [(tInt .u64)] [(tInt .i64)] true h_math_bits_Len (fun a => m_math_bits_Len a) w_math_bits_Len callee258 rfl
end Go.Proofs.Ytiajjcboddaenaa.K
