/- Functions of the program, printed by a program of mine: ref12_New, ref12_Quota_Of, ref12_Quota_May, ref12_Quota_Add, ref12_Quota_Objects, ref12_Quota_Sub -/
import Derived.Test.YtlnlmideghepnaaT
namespace Go.Proofs.Ytlnlmideghepnaa.K
open Go Go.Proofs
/-! sesame/sesameref12.New -/
def m_ref12_New (a0 : Int) (a1 : Int) (K : (Option Addr × Int) → H → Prop) : H → Prop :=
  mIf ((((decide (a0 < 1)) || (decide (256 < a0))) || (decide (a1 < 1))) || (decide (256 < a1))) (
    K (none, 16)
    ) (
    mNew 136 #[(Value.int .i64 a0), (Value.int .i64 a1), (Sl.val Sl.nil)] fun ad1 =>
    K ((some ad1), 0)
    )
def x_ref12_New : Cx Try.prog := ⟨tys, [], [], [], mixed⟩
def h_ref12_New : Hint := (.seq .d (.seq (.seq (.reg (.run [3, 7, 11] (.sel 8 11 3584 (.run [15, 19, 23] .nil) (.run [15, 19, 23] .nil) (.run [27] (.sel 12 15 57344 (.run [31, 35, 39] .nil) (.run [31, 35, 39] .nil) (.run [43] (.sel 16 19 917504 (.run [47, 51, 55] .nil) (.run [47, 51, 55] .nil) .nil))))))) .d) .d))
theorem w_ref12_New : ∀ (a : Den [(tInt .i64), (tInt .i64)]) (K : Den [tPtr, (tInt .i64)] → HP) (h : H), m_ref12_New a.1 a.2 K h = wpF x_ref12_New Try.f65 [(tInt .i64), (tInt .i64)] [tPtr, (tInt .i64)] h_ref12_New a K h := fun a K h => by kernel_rfl
def s_ref12_New : Spec Try.prog := mkSpec x_ref12_New 65 Try.f65 [(tInt .i64), (tInt .i64)] [tPtr, (tInt .i64)] false h_ref12_New (fun a => m_ref12_New a.1 a.2) w_ref12_New callee65 rfl
/-! (*sesame/sesameref12.Quota).Of -/
def m_ref12_Quota_Of (a0 : Option Addr) (a1 : Int) (K : (Int) → H → Prop) : H → Prop :=
  mLoop (fun (rec2 : (Int × Int) → H → Prop) (s1 : Int × Int) =>
    mDeref a0 fun ad3 =>
    mLoad cSl (ad3.add 2) fun x4 =>
    mIf (decide (s1.2 < (x4.len : Int))) (
      mDeref a0 fun ad5 =>
      mLoad cSl (ad5.add 2) fun x6 =>
      mIdx x6 s1.2 1 fun ad7 =>
      mLoad (cInt .i64) ad7 fun x8 =>
      mIf (decide (x8 = a1)) (
        rec2 ((iAdd .i64 s1.1 1), (iAdd .i64 s1.2 1))
        ) (
        rec2 (s1.1, (iAdd .i64 s1.2 1))
        )
      ) (
      K s1.1
      )
    ) (0, 0)
def x_ref12_Quota_Of : Cx Try.prog := ⟨tys, [], [], [], mixed⟩
def h_ref12_Quota_Of : Hint := (.seq .d (.seq .d (.seq (.seq .d (.blk (.loop [.slot 5 (tInt .i64), .slot 6 (tInt .i64)] 134217696 [] .d))) .d)))
theorem w_ref12_Quota_Of : ∀ (a : Den [tPtr, (tInt .i64)]) (K : Den [(tInt .i64)] → HP) (h : H), m_ref12_Quota_Of a.1 a.2 K h = wpF x_ref12_Quota_Of Try.f78 [tPtr, (tInt .i64)] [(tInt .i64)] h_ref12_Quota_Of a K h := fun a K h => by kernel_rfl
def s_ref12_Quota_Of : Spec Try.prog := mkSpec x_ref12_Quota_Of 78 Try.f78 [tPtr, (tInt .i64)] [(tInt .i64)] false h_ref12_Quota_Of (fun a => m_ref12_Quota_Of a.1 a.2) w_ref12_Quota_Of callee78 rfl
/-! (*sesame/sesameref12.Quota).May -/
def m_ref12_Quota_May (a0 : Option Addr) (a1 : Int) (K : (Int) → H → Prop) : H → Prop :=
  mDeref a0 fun ad1 =>
  mJoin (fun (s2 : Int × Int) =>
    mIf (decide (s2.2 ≤ s2.1)) (
      K 9
      ) (
      mDeref a0 fun ad8 =>
      mDeref a0 fun ad9 =>
      mLoad cSl (ad8.add 2) fun x10 =>
      mLoad (cInt .i64) (ad9.add 1) fun x11 =>
      mIf (decide (x11 ≤ (x10.len : Int))) (
        K 10
        ) (
        K 0
        )
      )
    ) (fun j3 =>
    mBoth (
      m_ref12_Quota_Of a0 a1 fun r4 =>
      mLoad (cInt .i64) (ad1.add 0) fun x5 =>
      j3 (r4, x5)
      ) (
      mLoad (cInt .i64) (ad1.add 0) fun x6 =>
      m_ref12_Quota_Of a0 a1 fun r7 =>
      j3 (r7, x6)
      ))
def x_ref12_Quota_May : Cx Try.prog := ⟨tys, [s_ref12_Quota_Of], [], [], mixed⟩
def h_ref12_Quota_May : Hint := (.seq .d (.seq (.seq (.reg (.run [0, 4, 12, 16, 20] (.join [.slot 7 (tInt .i64), .slot 11 (tInt .i64)] 2176 [] (.both 2 6 (.run [26] .nil) (.run [11] .nil)) (.run [28] .nil)))) .d) (.seq (.seq (.reg (.run [0, 4, 8, 20, 24, 28, 14, 16, 34, 36] .nil)) .d) .d)))
theorem w_ref12_Quota_May : ∀ (a : Den [tPtr, (tInt .i64)]) (K : Den [(tInt .i64)] → HP) (h : H), m_ref12_Quota_May a.1 a.2 K h = wpF x_ref12_Quota_May Try.f76 [tPtr, (tInt .i64)] [(tInt .i64)] h_ref12_Quota_May a K h := fun a K h => by kernel_rfl
def s_ref12_Quota_May : Spec Try.prog := mkSpec x_ref12_Quota_May 76 Try.f76 [tPtr, (tInt .i64)] [(tInt .i64)] false h_ref12_Quota_May (fun a => m_ref12_Quota_May a.1 a.2) w_ref12_Quota_May callee76 rfl
/-! (*sesame/sesameref12.Quota).Add -/
def m_ref12_Quota_Add (a0 : Option Addr) (a1 : Int) (K : (Int) → H → Prop) : H → Prop :=
  m_ref12_Quota_May a0 a1 fun r1 =>
  mIf (decide (r1 = 0)) (
    mDeref a0 fun ad2 =>
    mLoad cSl (ad2.add 2) fun x3 =>
    mApp 3 1 8 #[(Value.int .i64 0)] 1 [(Value.int .i64 a1)] x3 fun s4 =>
    mDeref a0 fun ad5 =>
    mStore (ad5.add 2) [(Sl.val s4)] <|
    K r1
    ) (
    K r1
    )
def x_ref12_Quota_Add : Cx Try.prog := ⟨tys, [s_ref12_Quota_May], [17], [], mixed⟩
def h_ref12_Quota_Add : Hint := .d
theorem w_ref12_Quota_Add : ∀ (a : Den [tPtr, (tInt .i64)]) (K : Den [(tInt .i64)] → HP) (h : H), m_ref12_Quota_Add a.1 a.2 K h = wpF x_ref12_Quota_Add Try.f68 [tPtr, (tInt .i64)] [(tInt .i64)] h_ref12_Quota_Add a K h := fun a K h => by kernel_rfl
def s_ref12_Quota_Add : Spec Try.prog := mkSpec x_ref12_Quota_Add 68 Try.f68 [tPtr, (tInt .i64)] [(tInt .i64)] false h_ref12_Quota_Add (fun a => m_ref12_Quota_Add a.1 a.2) w_ref12_Quota_Add callee68 rfl
/-! (*sesame/sesameref12.Quota).Objects -/
def m_ref12_Quota_Objects (a0 : Option Addr) (K : (Sl) → H → Prop) : H → Prop :=
  mLoop (fun (rec2 : Sl → H → Prop) (s1 : Sl) =>
    mLoop (fun (rec4 : (Bool × Int × Int) → H → Prop) (s3 : Bool × Int × Int) =>
      mDeref a0 fun ad5 =>
      mLoad cSl (ad5.add 2) fun x6 =>
      mIf (decide (s3.2.2 < (x6.len : Int))) (
        mJoin (fun (s13 : Bool) =>
          mJoin (fun (s25 : Bool) =>
            mIf s25 (
              mDeref a0 fun ad27 =>
              mLoad cSl (ad27.add 2) fun x28 =>
              mIdx x28 s3.2.2 1 fun ad29 =>
              mLoad (cInt .i64) ad29 fun x30 =>
              rec4 (true, x30, (iAdd .i64 s3.2.2 1))
              ) (
              rec4 (s3.1, s3.2.1, (iAdd .i64 s3.2.2 1))
              )
            ) (fun j26 =>
            mIf s13 (
              mIf (!s3.1) (
                j26 true
                ) (
                mDeref a0 fun ad35 =>
                mLoad cSl (ad35.add 2) fun x36 =>
                mIdx x36 s3.2.2 1 fun ad37 =>
                mLoad (cInt .i64) ad37 fun x38 =>
                j26 (decide (x38 < s3.2.1))
                )
              ) (
              j26 false
              ))
          ) (fun j14 =>
          mIf (decide ((s1.len : Int) = 0)) (
            j14 true
            ) (
            mDeref a0 fun ad39 =>
            mIdx s1 (iSub .i64 (s1.len : Int) 1) 1 fun ad40 =>
            mLoad cSl (ad39.add 2) fun x41 =>
            mIdx x41 s3.2.2 1 fun ad42 =>
            mLoad (cInt .i64) ad42 fun x43 =>
            mLoad (cInt .i64) ad40 fun x44 =>
            j14 (decide (x44 < x43))
            ))
        ) (
        mIf (!s3.1) (
          K s1
          ) (
          mApp 3 1 8 #[(Value.int .i64 0)] 1 [(Value.int .i64 s3.2.1)] s1 fun s45 =>
          rec2 s45
          )
        )
      ) (false, 0, 0)
    ) Sl.nil
def x_ref12_Quota_Objects : Cx Try.prog := ⟨tys, [], [62], [], mixed⟩
def h_ref12_Quota_Objects : Hint := (.seq .d (.seq .d (.blk (.loop [.slot 3 tSl] 18446744073709551612 [] (.blk (.seq .d (.seq .d (.seq (.seq .d (.blk (.loop [.slot 4 tBool, .slot 5 (tInt .i64), .slot 6 (tInt .i64)] 144115188075855856 [] (.seq .d (.seq (.blk (.seq (.reg (.run [0, 4, 8, 12] (.join [.slot 34 tBool] 34358689792 [] (.split 19 (.run [16, 20, 24, 28, 32, 36, 40, 44, 48, 52, 56, 60, 64, 68, 72] .nil) (.run [16, 20, 24, 32, 44, 48, 52, 56, 60, 30, 36, 42, 66, 68, 72] .nil)) (.run [76] (.join [.slot 49 tBool] 1125831187365888 [] (.split 35 (.run [80, 84, 88] (.split 38 (.run [92, 96, 100, 104, 108, 112, 116, 120, 124, 128, 132] .nil) (.run [92, 96, 100, 108, 120, 106, 112, 118, 124, 128, 132] .nil))) (.run [80, 84, 88, 92, 96, 100, 104, 108, 112, 116, 120, 124, 128, 132] .nil)) .nil))))) .d)) .d))))) .d))))))))
theorem w_ref12_Quota_Objects : ∀ (a : Den [tPtr]) (K : Den [tSl] → HP) (h : H), m_ref12_Quota_Objects a K h = wpF x_ref12_Quota_Objects Try.f69 [tPtr] [tSl] h_ref12_Quota_Objects a K h := fun a K h => by kernel_rfl
def s_ref12_Quota_Objects : Spec Try.prog := mkSpec x_ref12_Quota_Objects 69 Try.f69 [tPtr] [tSl] false h_ref12_Quota_Objects (fun a => m_ref12_Quota_Objects a) w_ref12_Quota_Objects callee69 rfl
/-! (*sesame/sesameref12.Quota).Sub -/
def m_ref12_Quota_Sub (a0 : Option Addr) (a1 : Int) (a2 : Int) (K : (Int) → H → Prop) : H → Prop :=
  mJoin (fun (s2 : Bool) =>
    mIf s2 (
      K 20
      ) (
      mLoop (fun (rec5 : (Int × Sl × Int) → H → Prop) (s4 : Int × Sl × Int) =>
        mDeref a0 fun ad6 =>
        mLoad cSl (ad6.add 2) fun x7 =>
        mIf (decide (s4.2.2 < (x7.len : Int))) (
          mDeref a0 fun ad8 =>
          mLoad cSl (ad8.add 2) fun x9 =>
          mIdx x9 s4.2.2 1 fun ad10 =>
          mLoad (cInt .i64) ad10 fun x11 =>
          mIf ((decide (x11 = a1)) && (decide (0 < s4.1))) (
            rec5 ((iSub .i64 s4.1 1), s4.2.1, (iAdd .i64 s4.2.2 1))
            ) (
            mDeref a0 fun ad12 =>
            mLoad cSl (ad12.add 2) fun x13 =>
            mIdx x13 s4.2.2 1 fun ad14 =>
            mLoad (cInt .i64) ad14 fun x15 =>
            mApp 3 1 8 #[(Value.int .i64 0)] 1 [(Value.int .i64 x15)] s4.2.1 fun s16 =>
            rec5 (s4.1, s16, (iAdd .i64 s4.2.2 1))
            )
          ) (
          mDeref a0 fun ad17 =>
          mStore (ad17.add 2) [(Sl.val s4.2.1)] <|
          K 0
          )
        ) (a2, Sl.nil, 0)
      )
    ) (fun j3 =>
    mIf (decide (a2 < 0)) (
      j3 true
      ) (
      m_ref12_Quota_Of a0 a1 fun r18 =>
      j3 (decide (r18 < a2))
      ))
def x_ref12_Quota_Sub : Cx Try.prog := ⟨tys, [s_ref12_Quota_Of], [50], [], mixed⟩
def h_ref12_Quota_Sub : Hint := (.seq .d (.seq (.seq (.reg (.run [3, 7, 11] (.join [.slot 17 tBool] 258048 [] (.split 11 (.run [15, 19, 23, 27, 31, 35] .nil) (.run [15, 19, 23, 27, 31, 35] .nil)) .nil))) .d) (.seq .d (.seq (.seq .d (.blk (.loop [.slot 2 (tInt .i64), .slot 7 tSl, .slot 8 (tInt .i64)] 4503599627108740 [] (.seq .d (.seq (.blk (.seq (.reg (.run [3, 7, 11, 15, 19, 23, 27, 31, 35, 39] (.sel 36 39 962072674304 (.run [43, 47, 51] .nil) (.run [43, 47, 51] .nil) .nil))) .d)) .d))))) .d))))
theorem w_ref12_Quota_Sub : ∀ (a : Den [tPtr, (tInt .i64), (tInt .i64)]) (K : Den [(tInt .i64)] → HP) (h : H), m_ref12_Quota_Sub a.1 a.2.1 a.2.2 K h = wpF x_ref12_Quota_Sub Try.f74 [tPtr, (tInt .i64), (tInt .i64)] [(tInt .i64)] h_ref12_Quota_Sub a K h := fun a K h => by kernel_rfl
def s_ref12_Quota_Sub : Spec Try.prog := mkSpec x_ref12_Quota_Sub 74 Try.f74 [tPtr, (tInt .i64), (tInt .i64)] [(tInt .i64)] false h_ref12_Quota_Sub (fun a => m_ref12_Quota_Sub a.1 a.2.1 a.2.2) w_ref12_Quota_Sub callee74 rfl
end Go.Proofs.Ytlnlmideghepnaa.K
