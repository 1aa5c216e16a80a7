/- Functions of the program, printed by a program of mine: ref13_Draw, ref13_Words, ref13_Of -/
import Derived.Test.YtiajjcboddaenaaT
import Derived.Test.YtiajjcboddaenaaFref04
import Derived.Test.YtiajjcboddaenaaFref11
namespace Go.Proofs.Ytiajjcboddaenaa.K
open Go Go.Proofs
/-! sesame/sesameref13.Draw -/
def m_ref13_Draw (a0 : Option Addr) (a1 : Sl) (K : (S_api_Word × Int) → H → Prop) : H → Prop :=
  mLoop (fun (rec2 : Int → H → Prop) (s1 : Int) =>
    mIf (decide (s1 < 9)) (
      m_ref04_Draws_Draw a0 fun r3 =>
      mIf (!decide (r3.2 = 0)) (
        K ((⟨0, 0⟩ : S_api_Word), r3.2)
        ) (
        mLoop (fun (rec5 : (Bool × Int) → H → Prop) (s4 : Bool × Int) =>
          mIf (decide (s4.2 < (a1.len : Int))) (
            mIf s4.1 (
              rec5 (true, (iAdd .i64 s4.2 1))
              ) (
              mIdx a1 s4.2 2 fun ad8 =>
              mLoad S_api_Word.cells ad8 fun x9 =>
              rec5 (((decide (x9.Hi = r3.1.Hi)) && ((decide (x9.Lo = r3.1.Lo)) && true)), (iAdd .i64 s4.2 1))
              )
            ) (
            mIf (!s4.1) (
              K (r3.1, 0)
              ) (
              rec2 (iAdd .i64 s1 1)
              )
            )
          ) (false, 0)
        )
      ) (
      K ((⟨0, 0⟩ : S_api_Word), 12)
      )
    ) 0
def x_ref13_Draw : Cx Try.prog := ⟨tys, [s_ref04_Draws_Draw], [4, 7], [], mixed⟩
def h_ref13_Draw : Hint := (.seq .d (.seq (.seq .d (.blk (.loop [.slot 6 (tInt .i64)] 4398046511072 [] (.seq .d (.seq (.blk (.seq .d (.seq .d (.seq .d (.seq (.seq .d (.blk (.loop [.slot 9 tBool, .slot 10 (tInt .i64)] 549739038208 [] (.seq .d (.seq (.blk (.reg (.run [0, 4] (.split 31 (.run [8, 12, 16, 20, 24, 28, 32, 36] .nil) (.run [8, 12, 16, 25, 22, 28, 32, 36] .nil))))) .d))))) .d))))) .d))))) .d))
theorem w_ref13_Draw : ∀ (a : Den [tPtr, tSl]) (K : Den [S_api_Word.ty, (tInt .i64)] → HP) (h : H), m_ref13_Draw a.1 a.2 K h = wpF x_ref13_Draw Try.f127 [tPtr, tSl] [S_api_Word.ty, (tInt .i64)] h_ref13_Draw a K h := fun a K h => by kernel_rfl
def s_ref13_Draw : Spec Try.prog := mkSpec x_ref13_Draw 127 Try.f127 [tPtr, tSl] [S_api_Word.ty, (tInt .i64)] false h_ref13_Draw (fun a => m_ref13_Draw a.1 a.2) w_ref13_Draw callee127 rfl
/-! sesame/sesameref13.Words -/
def m_ref13_Words (a0 : Option Addr) (a1 : Int) (K : (Sl) → H → Prop) : H → Prop :=
  m_ref11_Catalogue_Of a0 a1 fun r1 =>
  mLoop (fun (rec3 : (Sl × Int) → H → Prop) (s2 : Sl × Int) =>
    mIf (decide (s2.2 < (r1.len : Int))) (
      mIdx r1 s2.2 5 fun ad4 =>
      mLoad S_api_Word.cells ((ad4.add 0).add 1) fun x5 =>
      mApp 37 2 16 #[(Value.int .u64 0), (Value.int .u64 0)] 1 [(Value.int .u64 x5.Hi), (Value.int .u64 x5.Lo)] s2.1 fun s6 =>
      rec3 (s6, (iAdd .i64 s2.2 1))
      ) (
      K s2.1
      )
    ) (Sl.nil, 0)
def x_ref13_Words : Cx Try.prog := ⟨tys, [s_ref11_Catalogue_Of], [24], [], mixed⟩
def h_ref13_Words : Hint := (.seq .d (.seq .d (.seq .d (.seq (.seq .d (.blk (.loop [.slot 5 tSl, .slot 7 (tInt .i64)] 67106976 [] .d))) .d))))
theorem w_ref13_Words : ∀ (a : Den [tPtr, (tInt .i64)]) (K : Den [tSl] → HP) (h : H), m_ref13_Words a.1 a.2 K h = wpF x_ref13_Words Try.f128 [tPtr, (tInt .i64)] [tSl] h_ref13_Words a K h := fun a K h => by kernel_rfl
def s_ref13_Words : Spec Try.prog := mkSpec x_ref13_Words 128 Try.f128 [tPtr, (tInt .i64)] [tSl] false h_ref13_Words (fun a => m_ref13_Words a.1 a.2) w_ref13_Words callee128 rfl
/-! sesame/sesameref13.Of -/
def m_ref13_Of (a0 : Option Addr) (a1 : Option Addr) (a2 : Int) (K : (S_api_Word × Int) → H → Prop) : H → Prop :=
  m_ref13_Words a1 a2 fun r1 =>
  m_ref13_Draw a0 r1 fun r2 =>
  K (r2.1, r2.2)
def x_ref13_Of : Cx Try.prog := ⟨tys, [s_ref13_Draw, s_ref13_Words], [6], [], mixed⟩
def h_ref13_Of : Hint := .d
theorem w_ref13_Of : ∀ (a : Den [tPtr, tPtr, (tInt .i64)]) (K : Den [S_api_Word.ty, (tInt .i64)] → HP) (h : H), m_ref13_Of a.1 a.2.1 a.2.2 K h = wpF x_ref13_Of Try.f36 [tPtr, tPtr, (tInt .i64)] [S_api_Word.ty, (tInt .i64)] h_ref13_Of a K h := fun a K h => by kernel_rfl
def s_ref13_Of : Spec Try.prog := mkSpec x_ref13_Of 36 Try.f36 [tPtr, tPtr, (tInt .i64)] [S_api_Word.ty, (tInt .i64)] false h_ref13_Of (fun a => m_ref13_Of a.1 a.2.1 a.2.2) w_ref13_Of callee36 rfl
end Go.Proofs.Ytiajjcboddaenaa.K
