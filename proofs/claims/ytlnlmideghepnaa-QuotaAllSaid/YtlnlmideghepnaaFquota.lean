/- Functions of the program, printed by a program of mine: quota_New, quota_Quota_All, quota_Quota_Of, quota_Quota_May, quota_Quota_Add, quota_Quota_Objects, quota_Quota_Sub -/
import Derived.Test.YtlnlmideghepnaaT
import Derived.Test.YtlnlmideghepnaaFslicesx2
namespace Go.Proofs.Ytlnlmideghepnaa.K
open Go Go.Proofs
/-! sesame/quota.New -/
def m_quota_New (a0 : Int) (a1 : Int) (K : (Option Addr × Int) → H → Prop) : H → Prop :=
  mIf ((((decide (a0 < 1)) || (decide (256 < a0))) || (decide (a1 < 1))) || (decide (256 < a1))) (
    K (none, 16)
    ) (
    mMakeMap fun m1 =>
    mNew 238 #[(Value.int .i64 a0), (Value.int .i64 a1), (Value.map m1)] fun ad2 =>
    K ((some ad2), 0)
    )
def x_quota_New : Cx Try.prog := ⟨tys, [], [], [], mixed⟩
def h_quota_New : Hint := (.seq .d (.seq (.seq (.reg (.run [3, 7, 11] (.sel 8 11 3584 (.run [15, 19, 23] .nil) (.run [15, 19, 23] .nil) (.run [27] (.sel 12 15 57344 (.run [31, 35, 39] .nil) (.run [31, 35, 39] .nil) (.run [43] (.sel 16 19 917504 (.run [47, 51, 55] .nil) (.run [47, 51, 55] .nil) .nil))))))) .d) .d))
theorem w_quota_New : ∀ (a : Den [(tInt .i64), (tInt .i64)]) (K : Den [tPtr, (tInt .i64)] → HP) (h : H), m_quota_New a.1 a.2 K h = wpF x_quota_New Try.f64 [(tInt .i64), (tInt .i64)] [tPtr, (tInt .i64)] h_quota_New a K h := fun a K h => by kernel_rfl
def s_quota_New : Spec Try.prog := mkSpec x_quota_New 64 Try.f64 [(tInt .i64), (tInt .i64)] [tPtr, (tInt .i64)] false h_quota_New (fun a => m_quota_New a.1 a.2) w_quota_New callee64 rfl
/-! (*sesame/quota.Quota).All -/
def m_quota_Quota_All (a0 : Option Addr) (K : (Int) → H → Prop) : H → Prop :=
  mDeref a0 fun ad1 =>
  mLoad cMap (ad1.add 2) fun x2 =>
  mRange x2 fun it3 =>
  mLoop (fun (rec5 : Int → H → Prop) (s4 : Int) =>
    mNext it3 fun n6 =>
    mIf n6.1 (
      mEntry (Value.int .i64) (Value.int .i64) it3 fun e7 =>
      rec5 (iAdd .i64 s4 e7.2)
      ) (
      K s4
      )
    ) 0
def x_quota_Quota_All : Cx Try.prog := ⟨tys, [], [], [(13, 3, 3)], mixed⟩
def h_quota_Quota_All : Hint := (.seq .d (.seq .d (.seq (.seq .d (.blk (.loop [.slot 3 (tInt .i64)] 260136 [] .d))) .d)))
theorem w_quota_Quota_All : ∀ (a : Den [tPtr]) (K : Den [(tInt .i64)] → HP) (h : H), m_quota_Quota_All a K h = wpF x_quota_Quota_All Try.f72 [tPtr] [(tInt .i64)] h_quota_Quota_All a K h := fun a K h => by kernel_rfl
def s_quota_Quota_All : Spec Try.prog := mkSpec x_quota_Quota_All 72 Try.f72 [tPtr] [(tInt .i64)] false h_quota_Quota_All (fun a => m_quota_Quota_All a) w_quota_Quota_All callee72 rfl
/-! (*sesame/quota.Quota).Of -/
def m_quota_Quota_Of (a0 : Option Addr) (a1 : Int) (K : (Int) → H → Prop) : H → Prop :=
  mDeref a0 fun ad1 =>
  mLoad cMap (ad1.add 2) fun x2 =>
  mLookup (eqV Try.prog 40 3) (Value.int .i64) 0 x2 (Value.int .i64 a1) fun r3 =>
  K r3.1
def x_quota_Quota_Of : Cx Try.prog := ⟨tys, [], [], [], mixed⟩
def h_quota_Quota_Of : Hint := .d
theorem w_quota_Quota_Of : ∀ (a : Den [tPtr, (tInt .i64)]) (K : Den [(tInt .i64)] → HP) (h : H), m_quota_Quota_Of a.1 a.2 K h = wpF x_quota_Quota_Of Try.f77 [tPtr, (tInt .i64)] [(tInt .i64)] h_quota_Quota_Of a K h := fun a K h => by kernel_rfl
def s_quota_Quota_Of : Spec Try.prog := mkSpec x_quota_Quota_Of 77 Try.f77 [tPtr, (tInt .i64)] [(tInt .i64)] false h_quota_Quota_Of (fun a => m_quota_Quota_Of a.1 a.2) w_quota_Quota_Of callee77 rfl
/-! (*sesame/quota.Quota).May -/
def m_quota_Quota_May (a0 : Option Addr) (a1 : Int) (K : (Int) → H → Prop) : H → Prop :=
  mDeref a0 fun ad1 =>
  mJoin (fun (s2 : Int × Int) =>
    mIf (decide (s2.2 ≤ s2.1)) (
      K 9
      ) (
      mDeref a0 fun ad8 =>
      mJoin (fun (s9 : Int × Int) =>
        mIf (decide (s9.2 ≤ s9.1)) (
          K 10
          ) (
          K 0
          )
        ) (fun j10 =>
        mBoth (
          m_quota_Quota_All a0 fun r11 =>
          mLoad (cInt .i64) (ad8.add 1) fun x12 =>
          j10 (r11, x12)
          ) (
          mLoad (cInt .i64) (ad8.add 1) fun x13 =>
          m_quota_Quota_All a0 fun r14 =>
          j10 (r14, x13)
          ))
      )
    ) (fun j3 =>
    mBoth (
      m_quota_Quota_Of a0 a1 fun r4 =>
      mLoad (cInt .i64) (ad1.add 0) fun x5 =>
      j3 (r4, x5)
      ) (
      mLoad (cInt .i64) (ad1.add 0) fun x6 =>
      m_quota_Quota_Of a0 a1 fun r7 =>
      j3 (r7, x6)
      ))
def x_quota_Quota_May : Cx Try.prog := ⟨tys, [s_quota_Quota_All, s_quota_Quota_Of], [], [], mixed⟩
def h_quota_Quota_May : Hint := (.seq .d (.seq (.blk (.seq (.reg (.run [0, 4, 12, 16, 20] (.join [.slot 8 (tInt .i64), .slot 12 (tInt .i64)] 4352 [] (.both 2 6 (.run [26] .nil) (.run [11] .nil)) (.run [28, 32] .nil)))) (.cond .d (.seq (.reg (.run [0, 8, 12, 16] (.join [.slot 16 (tInt .i64), .slot 20 (tInt .i64)] 1114112 [] (.both 1 5 (.run [22] .nil) (.run [7] .nil)) (.run [24, 28] .nil)))) .d)))) .d))
theorem w_quota_Quota_May : ∀ (a : Den [tPtr, (tInt .i64)]) (K : Den [(tInt .i64)] → HP) (h : H), m_quota_Quota_May a.1 a.2 K h = wpF x_quota_Quota_May Try.f75 [tPtr, (tInt .i64)] [(tInt .i64)] h_quota_Quota_May a K h := fun a K h => by kernel_rfl
def s_quota_Quota_May : Spec Try.prog := mkSpec x_quota_Quota_May 75 Try.f75 [tPtr, (tInt .i64)] [(tInt .i64)] false h_quota_Quota_May (fun a => m_quota_Quota_May a.1 a.2) w_quota_Quota_May callee75 rfl
/-! (*sesame/quota.Quota).Add -/
def m_quota_Quota_Add (a0 : Option Addr) (a1 : Int) (K : (Int) → H → Prop) : H → Prop :=
  m_quota_Quota_May a0 a1 fun r1 =>
  mIf (decide (r1 = 0)) (
    mDeref a0 fun ad2 =>
    mLoad cMap (ad2.add 2) fun x3 =>
    mLookup (eqV Try.prog 40 3) (Value.int .i64) 0 x3 (Value.int .i64 a1) fun r4 =>
    mMapSet (eqV Try.prog 40 3) x3 (Value.int .i64 a1) (Value.int .i64 (iAdd .i64 r4.1 1)) <|
    K r1
    ) (
    K r1
    )
def x_quota_Quota_Add : Cx Try.prog := ⟨tys, [s_quota_Quota_May], [], [], mixed⟩
def h_quota_Quota_Add : Hint := .d
theorem w_quota_Quota_Add : ∀ (a : Den [tPtr, (tInt .i64)]) (K : Den [(tInt .i64)] → HP) (h : H), m_quota_Quota_Add a.1 a.2 K h = wpF x_quota_Quota_Add Try.f67 [tPtr, (tInt .i64)] [(tInt .i64)] h_quota_Quota_Add a K h := fun a K h => by kernel_rfl
def s_quota_Quota_Add : Spec Try.prog := mkSpec x_quota_Quota_Add 67 Try.f67 [tPtr, (tInt .i64)] [(tInt .i64)] false h_quota_Quota_Add (fun a => m_quota_Quota_Add a.1 a.2) w_quota_Quota_Add callee67 rfl
/-! (*sesame/quota.Quota).Objects -/
def m_quota_Quota_Objects (a0 : Option Addr) (K : (Sl) → H → Prop) : H → Prop :=
  mDeref a0 fun ad1 =>
  mLoad cMap (ad1.add 2) fun x2 =>
  mRange x2 fun it3 =>
  mLoop (fun (rec5 : Sl → H → Prop) (s4 : Sl) =>
    mNext it3 fun n6 =>
    mIf n6.1 (
      mEntry (Value.int .i64) (Value.int .i64) it3 fun e7 =>
      mApp 3 1 8 #[(Value.int .i64 0)] 1 [(Value.int .i64 e7.1)] s4 fun s8 =>
      rec5 s8
      ) (
      m_slices_Sort_int_int s4 fun _ =>
      K s4
      )
    ) Sl.nil
def x_quota_Quota_Objects : Cx Try.prog := ⟨tys, [s_slices_Sort_int_int], [16], [(12, 3, 3)], mixed⟩
def h_quota_Quota_Objects : Hint := (.seq .d (.seq .d (.seq (.seq .d (.blk (.loop [.slot 3 tSl] 261144 [] .d))) .d)))
theorem w_quota_Quota_Objects : ∀ (a : Den [tPtr]) (K : Den [tSl] → HP) (h : H), m_quota_Quota_Objects a K h = wpF x_quota_Quota_Objects Try.f70 [tPtr] [tSl] h_quota_Quota_Objects a K h := fun a K h => by kernel_rfl
def s_quota_Quota_Objects : Spec Try.prog := mkSpec x_quota_Quota_Objects 70 Try.f70 [tPtr] [tSl] false h_quota_Quota_Objects (fun a => m_quota_Quota_Objects a) w_quota_Quota_Objects callee70 rfl
/-! (*sesame/quota.Quota).Sub -/
def m_quota_Quota_Sub (a0 : Option Addr) (a1 : Int) (a2 : Int) (K : (Int) → H → Prop) : H → Prop :=
  mJoin (fun (s2 : Bool) =>
    mIf s2 (
      K 20
      ) (
      mDeref a0 fun ad4 =>
      mLoad cMap (ad4.add 2) fun x5 =>
      mLookup (eqV Try.prog 40 3) (Value.int .i64) 0 x5 (Value.int .i64 a1) fun r6 =>
      mMapSet (eqV Try.prog 40 3) x5 (Value.int .i64 a1) (Value.int .i64 (iSub .i64 r6.1 a2)) <|
      mDeref a0 fun ad7 =>
      mLoad cMap (ad7.add 2) fun x8 =>
      mLookup (eqV Try.prog 40 3) (Value.int .i64) 0 x8 (Value.int .i64 a1) fun r9 =>
      mIf (decide (r9.1 = 0)) (
        mDeref a0 fun ad10 =>
        mLoad cMap (ad10.add 2) fun x11 =>
        mMapDel (eqV Try.prog 40 3) x11 (Value.int .i64 a1) <|
        K 0
        ) (
        K 0
        )
      )
    ) (fun j3 =>
    mIf (decide (a2 < 0)) (
      j3 true
      ) (
      m_quota_Quota_Of a0 a1 fun r12 =>
      j3 (decide (r12 < a2))
      ))
def x_quota_Quota_Sub : Cx Try.prog := ⟨tys, [s_quota_Quota_Of], [], [], mixed⟩
def h_quota_Quota_Sub : Hint := (.seq .d (.seq (.seq (.reg (.run [3, 7, 11] (.join [.slot 15 tBool] 64512 [] (.split 9 (.run [15, 19, 23, 27, 31, 35] .nil) (.run [15, 19, 23, 27, 31, 35] .nil)) .nil))) .d) .d))
theorem w_quota_Quota_Sub : ∀ (a : Den [tPtr, (tInt .i64), (tInt .i64)]) (K : Den [(tInt .i64)] → HP) (h : H), m_quota_Quota_Sub a.1 a.2.1 a.2.2 K h = wpF x_quota_Quota_Sub Try.f73 [tPtr, (tInt .i64), (tInt .i64)] [(tInt .i64)] h_quota_Quota_Sub a K h := fun a K h => by kernel_rfl
def s_quota_Quota_Sub : Spec Try.prog := mkSpec x_quota_Quota_Sub 73 Try.f73 [tPtr, (tInt .i64), (tInt .i64)] [(tInt .i64)] false h_quota_Quota_Sub (fun a => m_quota_Quota_Sub a.1 a.2.1 a.2.2) w_quota_Quota_Sub callee73 rfl
end Go.Proofs.Ytlnlmideghepnaa.K
