/- Functions of the program, printed by a program of mine: ref04_New, ref04_Draws_Draw, ref04_Draws_Taken -/
import Derived.Test.YtiajjcboddaenaaT
import Derived.Test.YtiajjcboddaenaaFref01
namespace Go.Proofs.Ytiajjcboddaenaa.K
open Go Go.Proofs
/-! sesame/sesameref04.New -/
def m_ref04_New (a0 : Sl) (a1 : Int) (K : (Option Addr × Int) → H → Prop) : H → Prop :=
  mIf ((decide (a1 < 1)) || (decide (128 < a1))) (
    K (none, 18)
    ) (
    mIf (decide (4096 < (a0.len : Int))) (
      K (none, 23)
      ) (
      mAppend 37 2 16 #[(Value.int .u64 0), (Value.int .u64 0)] Sl.nil a0 fun s1 =>
      mNew 204 #[(Sl.val s1), (Value.int .i64 a1), (Value.int .i64 0)] fun ad2 =>
      K ((some ad2), 0)
      )
    )
def x_ref04_New : Cx Try.prog := ⟨tys, [], [], [], mixed⟩
def h_ref04_New : Hint := (.seq .d (.seq (.seq (.reg (.run [3, 7, 11] (.sel 9 12 7168 (.run [15, 19, 23] .nil) (.run [15, 19, 23] .nil) .nil))) .d) .d))
theorem w_ref04_New : ∀ (a : Den [tSl, (tInt .i64)]) (K : Den [tPtr, (tInt .i64)] → HP) (h : H), m_ref04_New a.1 a.2 K h = wpF x_ref04_New Try.f27 [tSl, (tInt .i64)] [tPtr, (tInt .i64)] h_ref04_New a K h := fun a K h => by kernel_rfl
def s_ref04_New : Spec Try.prog := mkSpec x_ref04_New 27 Try.f27 [tSl, (tInt .i64)] [tPtr, (tInt .i64)] false h_ref04_New (fun a => m_ref04_New a.1 a.2) w_ref04_New callee27 rfl
/-! (*sesame/sesameref04.Draws).Draw -/
def m_ref04_Draws_Draw (a0 : Option Addr) (K : (S_api_Word × Int) → H → Prop) : H → Prop :=
  mDeref a0 fun ad1 =>
  mDeref a0 fun ad2 =>
  mLoad (cInt .i64) (ad1.add 2) fun x3 =>
  mLoad cSl (ad2.add 0) fun x4 =>
  mIf (decide (x3 = (x4.len : Int))) (
    K ((⟨0, 0⟩ : S_api_Word), 11)
    ) (
    mDeref a0 fun ad5 =>
    mLoad (cInt .i64) (ad5.add 2) fun x6 =>
    mDeref a0 fun ad7 =>
    mStore (ad7.add 2) [(Value.int .i64 (iAdd .i64 x6 1))] <|
    mDeref a0 fun ad8 =>
    mDeref a0 fun ad9 =>
    mDeref a0 fun ad10 =>
    mLoad cSl (ad8.add 0) fun x11 =>
    mLoad (cInt .i64) (ad9.add 2) fun x12 =>
    mIdx x11 (iSub .i64 x12 1) 2 fun ad13 =>
    mLoad S_api_Word.cells ad13 fun x14 =>
    mLoad (cInt .i64) (ad10.add 1) fun x15 =>
    mPure (m_ref01_Cut x14 x15) fun r16 =>
    K (r16, 0)
    )
def x_ref04_Draws_Draw : Cx Try.prog := ⟨tys, [s_ref01_Cut], [2], [], mixed⟩
def h_ref04_Draws_Draw : Hint := (.seq .d (.seq (.seq (.reg (.run [0, 4, 8, 16, 20, 24, 14, 30, 32, 36] .nil)) .d) (.seq .d (.seq (.reg (.run [0, 4, 8, 16, 20, 24, 44, 48, 52, 14, 30, 32, 36, 42, 58, 60, 67, 68] .nil)) .d))))
theorem w_ref04_Draws_Draw : ∀ (a : Den [tPtr]) (K : Den [S_api_Word.ty, (tInt .i64)] → HP) (h : H), m_ref04_Draws_Draw a K h = wpF x_ref04_Draws_Draw Try.f202 [tPtr] [S_api_Word.ty, (tInt .i64)] h_ref04_Draws_Draw a K h := fun a K h => by kernel_rfl
def s_ref04_Draws_Draw : Spec Try.prog := mkSpec x_ref04_Draws_Draw 202 Try.f202 [tPtr] [S_api_Word.ty, (tInt .i64)] false h_ref04_Draws_Draw (fun a => m_ref04_Draws_Draw a) w_ref04_Draws_Draw callee202 rfl
/-! (*sesame/sesameref04.Draws).Taken -/
def m_ref04_Draws_Taken (a0 : Option Addr) (K : (Int) → H → Prop) : H → Prop :=
  mDeref a0 fun ad1 =>
  mLoad (cInt .i64) (ad1.add 2) fun x2 =>
  K x2
def x_ref04_Draws_Taken : Cx Try.prog := ⟨tys, [], [], [], mixed⟩
def h_ref04_Draws_Taken : Hint := .d
theorem w_ref04_Draws_Taken : ∀ (a : Den [tPtr]) (K : Den [(tInt .i64)] → HP) (h : H), m_ref04_Draws_Taken a K h = wpF x_ref04_Draws_Taken Try.f39 [tPtr] [(tInt .i64)] h_ref04_Draws_Taken a K h := fun a K h => by kernel_rfl
def s_ref04_Draws_Taken : Spec Try.prog := mkSpec x_ref04_Draws_Taken 39 Try.f39 [tPtr] [(tInt .i64)] false h_ref04_Draws_Taken (fun a => m_ref04_Draws_Taken a) w_ref04_Draws_Taken callee39 rfl
end Go.Proofs.Ytiajjcboddaenaa.K
