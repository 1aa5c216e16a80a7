/- Functions of the program, printed by a program of mine: walk_told_1, walk_told, walk_down, walk_Down_1, walk_Down, walk_Fall -/
import Derived.Test.YtiajjcboddaenaaT
import Derived.Test.YtiajjcboddaenaaFkin
import Derived.Test.YtiajjcboddaenaaFslices
namespace Go.Proofs.Ytiajjcboddaenaa.K
open Go Go.Proofs
/-! sesame/walk.told$1 -/
def m_walk_told_1 (a0 : PV) (a1 : Addr) (K : (Unit) → H → Prop) : H → Prop :=
  mLoad cPV a1 fun x1 =>
  mCallV (T := Sl) Try.prog (fun r => (Sl.val r)) x1.1 [] fun r2 =>
  mLoop (fun (rec4 : Int → H → Prop) (s3 : Int) =>
    mIf (decide (s3 < (r2.len : Int))) (
      mIdx r2 s3 1 fun ad5 =>
      mLoad (cInt .i64) ad5 fun x6 =>
      mCallV (T := Bool) Try.prog (fun r => (Value.bool r)) a0.1 [(Value.int .i64 x6)] fun r7 =>
      mIf (!r7) (
        K ()
        ) (
        rec4 (iAdd .i64 s3 1)
        )
      ) (
      K ()
      )
    ) 0
def x_walk_told_1 : Cx Try.prog := ⟨tys, [], [], [], mixed⟩
def h_walk_told_1 : Hint := (.seq .d (.blk (.loop [.slot 8 (tInt .i64)] 130832 [] .d)))
theorem w_walk_told_1 : ∀ (a : Den [tPV, tAdr]) (K : Den [] → HP) (h : H), m_walk_told_1 a.1 a.2 K h = wpF x_walk_told_1 Try.f247 [tPV, tAdr] [] h_walk_told_1 a K h := fun a K h => by kernel_rfl
def s_walk_told_1 : Spec Try.prog := mkSpec x_walk_told_1 247 Try.f247 [tPV, tAdr] [] false h_walk_told_1 (fun a => m_walk_told_1 a.1 a.2) w_walk_told_1 callee247 rfl
/-! sesame/walk.told -/
def m_walk_told (a0 : PV) (K : (PV) → H → Prop) : H → Prop :=
  mNew 308 #[a0.1] fun ad1 =>
  K (⟨Value.func (.func 247) #[] #[(Value.pointer (some ad1))], rfl, rfl⟩ : PV)
def x_walk_told : Cx Try.prog := ⟨tys, [], [], [], mixed⟩
def h_walk_told : Hint := .d
theorem w_walk_told : ∀ (a : Den [tPV]) (K : Den [tPV] → HP) (h : H), m_walk_told a K h = wpF x_walk_told Try.f205 [tPV] [tPV] h_walk_told a K h := fun a K h => by kernel_rfl
def s_walk_told : Spec Try.prog := mkSpec x_walk_told 205 Try.f205 [tPV] [tPV] false h_walk_told (fun a => m_walk_told a) w_walk_told callee205 rfl
/-! sesame/walk.down -/
def m_walk_down (a0 : Option Addr) (a1 : Int) (a2 : Bool) (K : (Sl) → H → Prop) : H → Prop :=
  m_kin_Tree_Has a0 a1 fun r1 =>
  mIf (!r1) (
    K Sl.nil
    ) (
    mNew 3 #[(Value.int .i64 a1)] fun ad2 =>
    mLoop (fun (rec4 : (Sl × Sl) → H → Prop) (s3 : Sl × Sl) =>
      mIf (decide (0 < (s3.2.len : Int))) (
        mIdx s3.2 (iSub .i64 (s3.2.len : Int) 1) 1 fun ad5 =>
        mLoad (cInt .i64) ad5 fun x6 =>
        mCut s3.2 0 (iSub .i64 (s3.2.len : Int) 1) 1 fun s7 =>
        mApp 3 1 8 #[(Value.int .i64 0)] 1 [(Value.int .i64 x6)] s3.1 fun s8 =>
        m_kin_Tree_Children a0 x6 fun r9 =>
        mJoin (fun (_s10 : Unit) =>
          mAppend 3 1 8 #[(Value.int .i64 0)] s7 r9 fun s12 =>
          rec4 (s8, s12)
          ) (fun j11 =>
          mIf (!a2) (
            m_slices_Reverse_int_int r9 fun _ =>
            j11 ()
            ) (
            j11 ()
            )
          )
        ) (
        K s3.1
        )
      ) (Sl.nil, (⟨some ad2, 1, 1⟩ : Sl))
    )
def x_walk_down : Cx Try.prog := ⟨tys, [s_kin_Tree_Has, s_slices_Reverse_int_int, s_kin_Tree_Children], [33], [], mixed⟩
def h_walk_down : Hint := (.seq .d (.seq .d (.seq .d (.seq .d (.seq (.blk (.loop [.slot 7 tSl, .slot 8 tSl] 35184371830656 [] (.seq .d (.blk (.seq .d (.seq .d (.seq .d (.seq .d (.seq .d (.join [] 4123168604160 [] .d .d)))))))))) .d)))))
theorem w_walk_down : ∀ (a : Den [tPtr, (tInt .i64), tBool]) (K : Den [tSl] → HP) (h : H), m_walk_down a.1 a.2.1 a.2.2 K h = wpF x_walk_down Try.f207 [tPtr, (tInt .i64), tBool] [tSl] h_walk_down a K h := fun a K h => by kernel_rfl
def s_walk_down : Spec Try.prog := mkSpec x_walk_down 207 Try.f207 [tPtr, (tInt .i64), tBool] [tSl] false h_walk_down (fun a => m_walk_down a.1 a.2.1 a.2.2) w_walk_down callee207 rfl
/-! sesame/walk.Down$1 -/
def m_walk_Down_1 (a0 : Addr) (a1 : Addr) (K : (Sl) → H → Prop) : H → Prop :=
  mLoad cPtr a0 fun x1 =>
  mLoad (cInt .i64) a1 fun x2 =>
  m_walk_down x1 x2 false fun r3 =>
  K r3
def x_walk_Down_1 : Cx Try.prog := ⟨tys, [s_walk_down], [], [], mixed⟩
def h_walk_Down_1 : Hint := .d
theorem w_walk_Down_1 : ∀ (a : Den [tAdr, tAdr]) (K : Den [tSl] → HP) (h : H), m_walk_Down_1 a.1 a.2 K h = wpF x_walk_Down_1 Try.f206 [tAdr, tAdr] [tSl] h_walk_Down_1 a K h := fun a K h => by kernel_rfl
def s_walk_Down_1 : Spec Try.prog := mkSpec x_walk_Down_1 206 Try.f206 [tAdr, tAdr] [tSl] false h_walk_Down_1 (fun a => m_walk_Down_1 a.1 a.2) w_walk_Down_1 callee206 rfl
/-! sesame/walk.Down -/
def m_walk_Down (a0 : Option Addr) (a1 : Int) (K : (PV) → H → Prop) : H → Prop :=
  mNew 211 #[(Value.pointer a0)] fun ad1 =>
  mNew 3 #[(Value.int .i64 a1)] fun ad2 =>
  m_walk_told (⟨Value.func (.func 206) #[] #[(Value.pointer (some ad1)), (Value.pointer (some ad2))], rfl, rfl⟩ : PV) fun r3 =>
  K r3
def x_walk_Down : Cx Try.prog := ⟨tys, [s_walk_told], [], [], mixed⟩
def h_walk_Down : Hint := .d
theorem w_walk_Down : ∀ (a : Den [tPtr, (tInt .i64)]) (K : Den [tPV] → HP) (h : H), m_walk_Down a.1 a.2 K h = wpF x_walk_Down Try.f135 [tPtr, (tInt .i64)] [tPV] h_walk_Down a K h := fun a K h => by kernel_rfl
def s_walk_Down : Spec Try.prog := mkSpec x_walk_Down 135 Try.f135 [tPtr, (tInt .i64)] [tPV] false h_walk_Down (fun a => m_walk_Down a.1 a.2) w_walk_Down callee135 rfl
/-! sesame/walk.Fall -/
def m_walk_Fall (a0 : Option Addr) (a1 : Int) (K : (Sl) → H → Prop) : H → Prop :=
  m_walk_down a0 a1 true fun r1 =>
  m_slices_Reverse_int_int r1 fun _ =>
  K r1
def x_walk_Fall : Cx Try.prog := ⟨tys, [s_walk_down, s_slices_Reverse_int_int], [], [], mixed⟩
def h_walk_Fall : Hint := .d
theorem w_walk_Fall : ∀ (a : Den [tPtr, (tInt .i64)]) (K : Den [tSl] → HP) (h : H), m_walk_Fall a.1 a.2 K h = wpF x_walk_Fall Try.f136 [tPtr, (tInt .i64)] [tSl] h_walk_Fall a K h := fun a K h => by kernel_rfl
def s_walk_Fall : Spec Try.prog := mkSpec x_walk_Fall 136 Try.f136 [tPtr, (tInt .i64)] [tSl] false h_walk_Fall (fun a => m_walk_Fall a.1 a.2) w_walk_Fall callee136 rfl
end Go.Proofs.Ytiajjcboddaenaa.K
