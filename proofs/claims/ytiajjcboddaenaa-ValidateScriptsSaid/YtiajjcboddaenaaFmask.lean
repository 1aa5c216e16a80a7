/- Functions of the program, printed by a program of mine: mask_Valid, mask_Part, mask_Has -/
import Derived.Test.YtiajjcboddaenaaT
namespace Go.Proofs.Ytiajjcboddaenaa.K
open Go Go.Proofs
/-! sesame/mask.Valid -/
def m_mask_Valid (a0 : Int) (K : (Bool) → H → Prop) : H → Prop :=
  K ((decide (1 ≤ a0)) && (decide (a0 ≤ 31)))
def x_mask_Valid : Cx Try.prog := ⟨tys, [], [], [], mixed⟩
def h_mask_Valid : Hint := (.seq .d (.seq (.reg (.run [3, 7, 11] (.sel 5 8 448 (.run [15, 19, 23] .nil) (.run [15, 19, 23] .nil) (.run [27] .nil)))) .d))
theorem w_mask_Valid : ∀ (a : Den [(tInt .i64)]) (K : Den [tBool] → HP) (h : H), m_mask_Valid a K h = wpF x_mask_Valid Try.f117 [(tInt .i64)] [tBool] h_mask_Valid a K h := fun a K h => by kernel_rfl
def s_mask_Valid : Spec Try.prog := mkSpec x_mask_Valid 117 Try.f117 [(tInt .i64)] [tBool] true h_mask_Valid (fun a => m_mask_Valid a) w_mask_Valid callee117 rfl
/-! sesame/mask.Part -/
def m_mask_Part (a0 : Int) (a1 : Int) (K : (Bool) → H → Prop) : H → Prop :=
  mPure (m_mask_Valid a0) fun r1 =>
  mIf r1 (
    mPure (m_mask_Valid a1) fun r3 =>
    K (r3 && (decide ((iAnd .i64 a0 a1) = a0)))
    ) (
    K false
    )
def x_mask_Part : Cx Try.prog := ⟨tys, [s_mask_Valid], [], [], mixed⟩
def h_mask_Part : Hint := (.seq .d (.seq (.reg (.run [3, 7, 11] (.split 7 (.run [15, 19, 23, 27] (.sel 11 17 258048 (.run [31, 35, 39, 43, 47, 51] .nil) (.run [31, 35, 39, 43, 47, 51] .nil) (.run [55] .nil))) (.run [15, 19, 23, 27, 31, 35, 39, 43, 47, 51, 55] .nil)))) .d))
theorem w_mask_Part : ∀ (a : Den [(tInt .i64), (tInt .i64)]) (K : Den [tBool] → HP) (h : H), m_mask_Part a.1 a.2 K h = wpF x_mask_Part Try.f123 [(tInt .i64), (tInt .i64)] [tBool] h_mask_Part a K h := fun a K h => by kernel_rfl
def s_mask_Part : Spec Try.prog := mkSpec x_mask_Part 123 Try.f123 [(tInt .i64), (tInt .i64)] [tBool] true h_mask_Part (fun a => m_mask_Part a.1 a.2) w_mask_Part callee123 rfl
/-! sesame/mask.Has -/
def m_mask_Has (a0 : Int) (a1 : Int) (K : (Bool) → H → Prop) : H → Prop :=
  mPure (m_mask_Part a1 a0) fun r1 =>
  K r1
def x_mask_Has : Cx Try.prog := ⟨tys, [s_mask_Part], [], [], mixed⟩
def h_mask_Has : Hint := .d
theorem w_mask_Has : ∀ (a : Den [(tInt .i64), (tInt .i64)]) (K : Den [tBool] → HP) (h : H), m_mask_Has a.1 a.2 K h = wpF x_mask_Has Try.f144 [(tInt .i64), (tInt .i64)] [tBool] h_mask_Has a K h := fun a K h => by kernel_rfl
def s_mask_Has : Spec Try.prog := mkSpec x_mask_Has 144 Try.f144 [(tInt .i64), (tInt .i64)] [tBool] true h_mask_Has (fun a => m_mask_Has a.1 a.2) w_mask_Has callee144 rfl
end Go.Proofs.Ytiajjcboddaenaa.K
