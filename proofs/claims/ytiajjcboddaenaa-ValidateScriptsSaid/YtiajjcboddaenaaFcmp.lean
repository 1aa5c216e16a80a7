/- Functions of the program, printed by a program of mine: cmp_isNaN_int, cmp_Less_int -/
import Derived.Test.YtiajjcboddaenaaT
namespace Go.Proofs.Ytiajjcboddaenaa.K
open Go Go.Proofs
/-! cmp.isNaN[int] -/
def m_cmp_isNaN_int (a0 : Int) (K : (Bool) → H → Prop) : H → Prop :=
  K (!decide (a0 = a0))
def x_cmp_isNaN_int : Cx Try.prog := ⟨tys, [], [], [], mixed⟩
def h_cmp_isNaN_int : Hint := .d
theorem w_cmp_isNaN_int : ∀ (a : Den [(tInt .i64)]) (K : Den [tBool] → HP) (h : H), m_cmp_isNaN_int a K h = wpF x_cmp_isNaN_int Try.f280 [(tInt .i64)] [tBool] h_cmp_isNaN_int a K h := fun a K h => by kernel_rfl
def s_cmp_isNaN_int : Spec Try.prog := mkSpec x_cmp_isNaN_int 280 Try.f280 [(tInt .i64)] [tBool] true h_cmp_isNaN_int (fun a => m_cmp_isNaN_int a) w_cmp_isNaN_int callee280 rfl
/-! cmp.Less[int] -/
def m_cmp_Less_int (a0 : Int) (a1 : Int) (K : (Bool) → H → Prop) : H → Prop :=
  mPure (m_cmp_isNaN_int a0) fun r1 =>
  mIf r1 (
    mPure (m_cmp_isNaN_int a1) fun r3 =>
    K ((!r3) || (decide (a0 < a1)))
    ) (
    K (decide (a0 < a1))
    )
def x_cmp_Less_int : Cx Try.prog := ⟨tys, [s_cmp_isNaN_int], [], [], mixed⟩
def h_cmp_Less_int : Hint := (.seq .d (.seq (.reg (.run [3, 7, 11] (.split 7 (.run [15, 19, 23, 27, 31] (.sel 12 16 122880 (.run [35, 39, 43, 47] .nil) (.run [35, 39, 43, 47] .nil) (.run [51] .nil))) (.run [15, 19, 23, 27, 31, 35, 39, 43, 47, 51] .nil)))) .d))
theorem w_cmp_Less_int : ∀ (a : Den [(tInt .i64), (tInt .i64)]) (K : Den [tBool] → HP) (h : H), m_cmp_Less_int a.1 a.2 K h = wpF x_cmp_Less_int Try.f270 [(tInt .i64), (tInt .i64)] [tBool] h_cmp_Less_int a K h := fun a K h => by kernel_rfl
def s_cmp_Less_int : Spec Try.prog := mkSpec x_cmp_Less_int 270 Try.f270 [(tInt .i64), (tInt .i64)] [tBool] true h_cmp_Less_int (fun a => m_cmp_Less_int a.1 a.2) w_cmp_Less_int callee270 rfl
end Go.Proofs.Ytiajjcboddaenaa.K
