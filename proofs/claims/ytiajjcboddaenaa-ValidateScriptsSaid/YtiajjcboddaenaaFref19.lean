/- Functions of the program, printed by a program of mine: ref19_Given, ref19_Named -/
import Derived.Test.YtiajjcboddaenaaT
import Derived.Test.YtiajjcboddaenaaFref11
namespace Go.Proofs.Ytiajjcboddaenaa.K
open Go Go.Proofs
/-! sesame/sesameref19.Given -/
def m_ref19_Given (a0 : Option Addr) (a1 : S_api_Cap) (a2 : Int) (K : (Int) → H → Prop) : H → Prop :=
  m_ref11_Catalogue_Find a0 a1 fun r1 =>
  mIf (!r1.2) (
    K 3
    ) (
    m_ref11_Catalogue_At a0 r1.1 fun r2 =>
    mPure (m_ref11_Part a2 r2.1.Rights) fun r3 =>
    mIf (!r3) (
      K 4
      ) (
      K 0
      )
    )
def x_ref19_Given : Cx Try.prog := ⟨tys, [s_ref11_Catalogue_Find, s_ref11_Part, s_ref11_Catalogue_At], [4, 9], [], mixed⟩
def h_ref19_Given : Hint := .d
theorem w_ref19_Given : ∀ (a : Den [tPtr, S_api_Cap.ty, (tInt .i64)]) (K : Den [(tInt .i64)] → HP) (h : H), m_ref19_Given a.1 a.2.1 a.2.2 K h = wpF x_ref19_Given Try.f67 [tPtr, S_api_Cap.ty, (tInt .i64)] [(tInt .i64)] h_ref19_Given a K h := fun a K h => by kernel_rfl
def s_ref19_Given : Spec Try.prog := mkSpec x_ref19_Given 67 Try.f67 [tPtr, S_api_Cap.ty, (tInt .i64)] [(tInt .i64)] false h_ref19_Given (fun a => m_ref19_Given a.1 a.2.1 a.2.2) w_ref19_Given callee67 rfl
/-! sesame/sesameref19.Named -/
def m_ref19_Named (a0 : Option Addr) (a1 : Int) (a2 : Int) (a3 : Sl) (K : (S_api_Cap × Int) → H → Prop) : H → Prop :=
  mLoop (fun (rec2 : (Int × Int) → H → Prop) (s1 : Int × Int) =>
    mIf (decide (s1.2 < (a3.len : Int))) (
      mIdx a3 s1.2 3 fun ad3 =>
      mLoad (cInt .i64) (ad3.add 0) fun x4 =>
      mIf (!decide (x4 = a1)) (
        rec2 (s1.1, (iAdd .i64 s1.2 1))
        ) (
        mIdx a3 s1.2 3 fun ad5 =>
        mLoad S_api_Cap.cells ad5 fun x6 =>
        m_ref19_Given a0 x6 a2 fun r7 =>
        mIf (decide (r7 = 0)) (
          mIdx a3 s1.2 3 fun ad8 =>
          mLoad S_api_Cap.cells ad8 fun x9 =>
          K (x9, 0)
          ) (
          mIf (decide (r7 = 4)) (
            rec2 (4, (iAdd .i64 s1.2 1))
            ) (
            rec2 (s1.1, (iAdd .i64 s1.2 1))
            )
          )
        )
      ) (
      K ((⟨0, ⟨0, 0⟩⟩ : S_api_Cap), s1.1)
      )
    ) (3, 0)
def x_ref19_Named : Cx Try.prog := ⟨tys, [s_ref19_Given], [8], [], mixed⟩
def h_ref19_Named : Hint := (.seq .d (.seq .d (.seq (.seq .d (.blk (.loop [.slot 10 (tInt .i64), .slot 11 (tInt .i64)] 2199023255040 [] .d))) .d)))
theorem w_ref19_Named : ∀ (a : Den [tPtr, (tInt .i64), (tInt .i64), tSl]) (K : Den [S_api_Cap.ty, (tInt .i64)] → HP) (h : H), m_ref19_Named a.1 a.2.1 a.2.2.1 a.2.2.2 K h = wpF x_ref19_Named Try.f147 [tPtr, (tInt .i64), (tInt .i64), tSl] [S_api_Cap.ty, (tInt .i64)] h_ref19_Named a K h := fun a K h => by kernel_rfl
def s_ref19_Named : Spec Try.prog := mkSpec x_ref19_Named 147 Try.f147 [tPtr, (tInt .i64), (tInt .i64), tSl] [S_api_Cap.ty, (tInt .i64)] false h_ref19_Named (fun a => m_ref19_Named a.1 a.2.1 a.2.2.1 a.2.2.2) w_ref19_Named callee147 rfl
end Go.Proofs.Ytiajjcboddaenaa.K
