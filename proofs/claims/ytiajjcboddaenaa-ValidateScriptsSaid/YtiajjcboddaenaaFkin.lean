/- Functions of the program, printed by a program of mine: kin_New, kin_Tree_number, kin_Tree_Has, kin_Tree_at, kin_Tree_add, kin_Tree_Root, kin_Tree_Child, kin_Tree_Children, kin_Tree_Cut -/
import Derived.Test.YtiajjcboddaenaaT
import Derived.Test.YtiajjcboddaenaaFslices
namespace Go.Proofs.Ytiajjcboddaenaa.K
open Go Go.Proofs
/-! sesame/kin.New -/
def m_kin_New (a0 : Int) (K : (Option Addr × Int) → H → Prop) : H → Prop :=
  mIf ((decide (a0 < 0)) || (decide (1024 < a0))) (
    K (none, 16)
    ) (
    mMake 312 40 #[(Value.bool false), (Value.int .i64 0), (Sl.val Sl.nil)] a0 a0 fun s1 =>
    mNew 297 #[(Sl.val s1)] fun ad2 =>
    K ((some ad2), 0)
    )
def x_kin_New : Cx Try.prog := ⟨tys, [], [], [], mixed⟩
def h_kin_New : Hint := (.seq .d (.seq (.seq (.reg (.run [3, 7, 11] (.sel 6 9 896 (.run [15, 19, 23] .nil) (.run [15, 19, 23] .nil) .nil))) .d) .d))
theorem w_kin_New : ∀ (a : Den [(tInt .i64)]) (K : Den [tPtr, (tInt .i64)] → HP) (h : H), m_kin_New a K h = wpF x_kin_New Try.f114 [(tInt .i64)] [tPtr, (tInt .i64)] h_kin_New a K h := fun a K h => by kernel_rfl
def s_kin_New : Spec Try.prog := mkSpec x_kin_New 114 Try.f114 [(tInt .i64)] [tPtr, (tInt .i64)] false h_kin_New (fun a => m_kin_New a) w_kin_New callee114 rfl
/-! (*sesame/kin.Tree).number -/
def m_kin_Tree_number (a0 : Option Addr) (a1 : Int) (K : (Bool) → H → Prop) : H → Prop :=
  mIf (decide (0 ≤ a1)) (
    mDeref a0 fun ad3 =>
    mLoad cSl (ad3.add 0) fun x4 =>
    K (decide (a1 < (x4.len : Int)))
    ) (
    K false
    )
def x_kin_Tree_number : Cx Try.prog := ⟨tys, [], [], [], mixed⟩
def h_kin_Tree_number : Hint := (.seq .d (.seq (.reg (.run [3, 7, 11] (.split 7 (.run [15, 19, 23, 27, 31, 35, 39, 43, 47] .nil) (.run [15, 19, 23, 27, 31, 35, 39, 43, 47] .nil)))) .d))
theorem w_kin_Tree_number : ∀ (a : Den [tPtr, (tInt .i64)]) (K : Den [tBool] → HP) (h : H), m_kin_Tree_number a.1 a.2 K h = wpF x_kin_Tree_number Try.f197 [tPtr, (tInt .i64)] [tBool] h_kin_Tree_number a K h := fun a K h => by kernel_rfl
def s_kin_Tree_number : Spec Try.prog := mkSpec x_kin_Tree_number 197 Try.f197 [tPtr, (tInt .i64)] [tBool] false h_kin_Tree_number (fun a => m_kin_Tree_number a.1 a.2) w_kin_Tree_number callee197 rfl
/-! (*sesame/kin.Tree).Has -/
def m_kin_Tree_Has (a0 : Option Addr) (a1 : Int) (K : (Bool) → H → Prop) : H → Prop :=
  m_kin_Tree_number a0 a1 fun r1 =>
  mIf r1 (
    mDeref a0 fun ad6 =>
    mLoad cSl (ad6.add 0) fun x7 =>
    mIdx x7 a1 3 fun ad8 =>
    mLoad cBool (ad8.add 0) fun x9 =>
    K x9
    ) (
    K false
    )
def x_kin_Tree_Has : Cx Try.prog := ⟨tys, [s_kin_Tree_number], [], [], mixed⟩
def h_kin_Tree_Has : Hint := (.seq .d (.seq (.reg (.run [3, 7, 11, 15] (.split 8 (.run [19, 23, 27, 31, 35, 39, 43, 47, 51, 55] .nil) (.run [19, 23, 27, 31, 35, 39, 43, 47, 51, 55] .nil)))) .d))
theorem w_kin_Tree_Has : ∀ (a : Den [tPtr, (tInt .i64)]) (K : Den [tBool] → HP) (h : H), m_kin_Tree_Has a.1 a.2 K h = wpF x_kin_Tree_Has Try.f201 [tPtr, (tInt .i64)] [tBool] h_kin_Tree_Has a K h := fun a K h => by kernel_rfl
def s_kin_Tree_Has : Spec Try.prog := mkSpec x_kin_Tree_Has 201 Try.f201 [tPtr, (tInt .i64)] [tBool] false h_kin_Tree_Has (fun a => m_kin_Tree_Has a.1 a.2) w_kin_Tree_Has callee201 rfl
/-! (*sesame/kin.Tree).at -/
def m_kin_Tree_at (a0 : Option Addr) (a1 : Int) (K : (Option Addr) → H → Prop) : H → Prop :=
  mDeref a0 fun ad1 =>
  mLoad cSl (ad1.add 0) fun x2 =>
  mIdx x2 a1 3 fun ad3 =>
  K (some ad3)
def x_kin_Tree_at : Cx Try.prog := ⟨tys, [], [], [], mixed⟩
def h_kin_Tree_at : Hint := .d
theorem w_kin_Tree_at : ∀ (a : Den [tPtr, (tInt .i64)]) (K : Den [tPtr] → HP) (h : H), m_kin_Tree_at a.1 a.2 K h = wpF x_kin_Tree_at Try.f209 [tPtr, (tInt .i64)] [tPtr] h_kin_Tree_at a K h := fun a K h => by kernel_rfl
def s_kin_Tree_at : Spec Try.prog := mkSpec x_kin_Tree_at 209 Try.f209 [tPtr, (tInt .i64)] [tPtr] false h_kin_Tree_at (fun a => m_kin_Tree_at a.1 a.2) w_kin_Tree_at callee209 rfl
/-! (*sesame/kin.Tree).add -/
def m_kin_Tree_add (a0 : Option Addr) (a1 : Int) (a2 : Int) (K : (Int) → H → Prop) : H → Prop :=
  m_kin_Tree_Has a0 a1 fun r1 =>
  mIf r1 (
    K 19
    ) (
    mCallV (T := Option Addr) Try.prog (fun r => (Value.pointer r)) (⟨Value.func (.func 209) #[(Value.pointer a0)] #[], rfl, rfl⟩ : PV).1 [(Value.int .i64 a1)] fun r2 =>
    mDeref r2 fun ad3 =>
    mStore ad3 [(Value.bool true), (Value.int .i64 a2), (Sl.val Sl.nil)] <|
    mIf (decide (0 ≤ a2)) (
      mCallV (T := Option Addr) Try.prog (fun r => (Value.pointer r)) (⟨Value.func (.func 209) #[(Value.pointer a0)] #[], rfl, rfl⟩ : PV).1 [(Value.int .i64 a2)] fun r4 =>
      mDeref r4 fun ad5 =>
      mLoad cSl (ad5.add 2) fun x6 =>
      mApp 3 1 8 #[(Value.int .i64 0)] 1 [(Value.int .i64 a1)] x6 fun s7 =>
      mDeref r4 fun ad8 =>
      mStore (ad8.add 2) [(Sl.val s7)] <|
      K 0
      ) (
      K 0
      )
    )
def x_kin_Tree_add : Cx Try.prog := ⟨tys, [s_kin_Tree_Has], [31], [], mixed⟩
def h_kin_Tree_add : Hint := .d
theorem w_kin_Tree_add : ∀ (a : Den [tPtr, (tInt .i64), (tInt .i64)]) (K : Den [(tInt .i64)] → HP) (h : H), m_kin_Tree_add a.1 a.2.1 a.2.2 K h = wpF x_kin_Tree_add Try.f198 [tPtr, (tInt .i64), (tInt .i64)] [(tInt .i64)] h_kin_Tree_add a K h := fun a K h => by kernel_rfl
def s_kin_Tree_add : Spec Try.prog := mkSpec x_kin_Tree_add 198 Try.f198 [tPtr, (tInt .i64), (tInt .i64)] [(tInt .i64)] false h_kin_Tree_add (fun a => m_kin_Tree_add a.1 a.2.1 a.2.2) w_kin_Tree_add callee198 rfl
/-! (*sesame/kin.Tree).Root -/
def m_kin_Tree_Root (a0 : Option Addr) (a1 : Int) (K : (Int) → H → Prop) : H → Prop :=
  m_kin_Tree_number a0 a1 fun r1 =>
  mIf (!r1) (
    K 20
    ) (
    m_kin_Tree_add a0 a1 (-1) fun r2 =>
    K r2
    )
def x_kin_Tree_Root : Cx Try.prog := ⟨tys, [s_kin_Tree_number, s_kin_Tree_add], [], [], mixed⟩
def h_kin_Tree_Root : Hint := .d
theorem w_kin_Tree_Root : ∀ (a : Den [tPtr, (tInt .i64)]) (K : Den [(tInt .i64)] → HP) (h : H), m_kin_Tree_Root a.1 a.2 K h = wpF x_kin_Tree_Root Try.f118 [tPtr, (tInt .i64)] [(tInt .i64)] h_kin_Tree_Root a K h := fun a K h => by kernel_rfl
def s_kin_Tree_Root : Spec Try.prog := mkSpec x_kin_Tree_Root 118 Try.f118 [tPtr, (tInt .i64)] [(tInt .i64)] false h_kin_Tree_Root (fun a => m_kin_Tree_Root a.1 a.2) w_kin_Tree_Root callee118 rfl
/-! (*sesame/kin.Tree).Child -/
def m_kin_Tree_Child (a0 : Option Addr) (a1 : Int) (a2 : Int) (K : (Int) → H → Prop) : H → Prop :=
  m_kin_Tree_number a0 a2 fun r1 =>
  mJoin (fun (s3 : Bool) =>
    mIf s3 (
      K 20
      ) (
      m_kin_Tree_add a0 a2 a1 fun r5 =>
      K r5
      )
    ) (fun j4 =>
    mIf (!r1) (
      j4 true
      ) (
      m_kin_Tree_Has a0 a1 fun r6 =>
      j4 (!r6)
      ))
def x_kin_Tree_Child : Cx Try.prog := ⟨tys, [s_kin_Tree_number, s_kin_Tree_add, s_kin_Tree_Has], [], [], mixed⟩
def h_kin_Tree_Child : Hint := (.seq .d (.seq (.seq (.reg (.run [3, 7, 11, 15, 19] (.join [.slot 16 tBool] 126976 [] (.split 11 (.run [23, 27, 31, 35, 39] .nil) (.run [23, 27, 31, 35, 39] .nil)) .nil))) .d) .d))
theorem w_kin_Tree_Child : ∀ (a : Den [tPtr, (tInt .i64), (tInt .i64)]) (K : Den [(tInt .i64)] → HP) (h : H), m_kin_Tree_Child a.1 a.2.1 a.2.2 K h = wpF x_kin_Tree_Child Try.f124 [tPtr, (tInt .i64), (tInt .i64)] [(tInt .i64)] h_kin_Tree_Child a K h := fun a K h => by kernel_rfl
def s_kin_Tree_Child : Spec Try.prog := mkSpec x_kin_Tree_Child 124 Try.f124 [tPtr, (tInt .i64), (tInt .i64)] [(tInt .i64)] false h_kin_Tree_Child (fun a => m_kin_Tree_Child a.1 a.2.1 a.2.2) w_kin_Tree_Child callee124 rfl
/-! (*sesame/kin.Tree).Children -/
def m_kin_Tree_Children (a0 : Option Addr) (a1 : Int) (K : (Sl) → H → Prop) : H → Prop :=
  m_kin_Tree_Has a0 a1 fun r1 =>
  mIf (!r1) (
    K Sl.nil
    ) (
    m_kin_Tree_at a0 a1 fun r2 =>
    mDeref r2 fun ad3 =>
    mLoad cSl (ad3.add 2) fun x4 =>
    m_slices_Clone_int_int x4 fun r5 =>
    K r5
    )
def x_kin_Tree_Children : Cx Try.prog := ⟨tys, [s_kin_Tree_Has, s_kin_Tree_at, s_slices_Clone_int_int], [], [], mixed⟩
def h_kin_Tree_Children : Hint := .d
theorem w_kin_Tree_Children : ∀ (a : Den [tPtr, (tInt .i64)]) (K : Den [tSl] → HP) (h : H), m_kin_Tree_Children a.1 a.2 K h = wpF x_kin_Tree_Children Try.f248 [tPtr, (tInt .i64)] [tSl] h_kin_Tree_Children a K h := fun a K h => by kernel_rfl
def s_kin_Tree_Children : Spec Try.prog := mkSpec x_kin_Tree_Children 248 Try.f248 [tPtr, (tInt .i64)] [tSl] false h_kin_Tree_Children (fun a => m_kin_Tree_Children a.1 a.2) w_kin_Tree_Children callee248 rfl
/-! (*sesame/kin.Tree).Cut -/
def m_kin_Tree_Cut (a0 : Option Addr) (a1 : Int) (K : (Int) → H → Prop) : H → Prop :=
  m_kin_Tree_Has a0 a1 fun r1 =>
  mIf (!r1) (
    K 20
    ) (
    mCallV (T := Option Addr) Try.prog (fun r => (Value.pointer r)) (⟨Value.func (.func 209) #[(Value.pointer a0)] #[], rfl, rfl⟩ : PV).1 [(Value.int .i64 a1)] fun r2 =>
    mDeref r2 fun ad3 =>
    mLoad cSl (ad3.add 2) fun x4 =>
    mIf (decide (0 < (x4.len : Int))) (
      K 19
      ) (
      mJoin (fun (_s5 : Unit) =>
        mCallV (T := Option Addr) Try.prog (fun r => (Value.pointer r)) (⟨Value.func (.func 209) #[(Value.pointer a0)] #[], rfl, rfl⟩ : PV).1 [(Value.int .i64 a1)] fun r7 =>
        mDeref r7 fun ad8 =>
        mStore ad8 [(Value.bool false), (Value.int .i64 0), (Sl.val Sl.nil)] <|
        K 0
        ) (fun j6 =>
        mCallV (T := Option Addr) Try.prog (fun r => (Value.pointer r)) (⟨Value.func (.func 209) #[(Value.pointer a0)] #[], rfl, rfl⟩ : PV).1 [(Value.int .i64 a1)] fun r9 =>
        mDeref r9 fun ad10 =>
        mLoad (cInt .i64) (ad10.add 1) fun x11 =>
        mIf (decide (0 ≤ x11)) (
          mCallV (T := Option Addr) Try.prog (fun r => (Value.pointer r)) (⟨Value.func (.func 209) #[(Value.pointer a0)] #[], rfl, rfl⟩ : PV).1 [(Value.int .i64 x11)] fun r12 =>
          mDeref r12 fun ad13 =>
          mLoad cSl (ad13.add 2) fun x14 =>
          m_slices_Index_int_int x14 a1 fun r15 =>
          mDeref r12 fun ad16 =>
          mLoad cSl (ad16.add 2) fun x17 =>
          m_slices_Delete_int_int x17 r15 (iAdd .i64 r15 1) fun r18 =>
          mDeref r12 fun ad19 =>
          mStore (ad19.add 2) [(Sl.val r18)] <|
          j6 ()
          ) (
          j6 ()
          )
        )
      )
    )
def x_kin_Tree_Cut : Cx Try.prog := ⟨tys, [s_kin_Tree_Has, s_slices_Index_int_int, s_slices_Delete_int_int], [], [], mixed⟩
def h_kin_Tree_Cut : Hint := (.seq .d (.seq .d (.seq .d (.join [] 9007199221187008 [] .d .d))))
theorem w_kin_Tree_Cut : ∀ (a : Den [tPtr, (tInt .i64)]) (K : Den [(tInt .i64)] → HP) (h : H), m_kin_Tree_Cut a.1 a.2 K h = wpF x_kin_Tree_Cut Try.f137 [tPtr, (tInt .i64)] [(tInt .i64)] h_kin_Tree_Cut a K h := fun a K h => by kernel_rfl
def s_kin_Tree_Cut : Spec Try.prog := mkSpec x_kin_Tree_Cut 137 Try.f137 [tPtr, (tInt .i64)] [(tInt .i64)] false h_kin_Tree_Cut (fun a => m_kin_Tree_Cut a.1 a.2) w_kin_Tree_Cut callee137 rfl
end Go.Proofs.Ytiajjcboddaenaa.K
