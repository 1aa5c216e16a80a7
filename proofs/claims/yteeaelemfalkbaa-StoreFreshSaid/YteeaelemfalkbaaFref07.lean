/- Functions of the program, printed by a program of mine: ref07_New, ref07_Store_at, ref07_within, ref07_Store_Read, ref07_Store_Free, ref07_Store_May, ref07_Store_Create, ref07_Store_Destroy, ref07_Store_Write, ref07_Store_SetNext, ref07_Store_Ids, ref07_Store_Size -/
import Derived.Test.YteeaelemfalkbaaT
namespace Go.Proofs.Yteeaelemfalkbaa.K
open Go Go.Proofs
/-! sesame/sesameref07.New -/
def m_ref07_New (a0 : Int) (a1 : Int) (K : (Option Addr × Int) → H → Prop) : H → Prop :=
  mIf ((((decide (a0 < 1)) || (decide (64 < a0))) || (decide (a1 < 1))) || (decide (256 < a1))) (
    K (none, 16)
    ) (
    mNew 144 #[(Value.int .i64 a0), (Value.int .i64 a1), (Sl.val Sl.nil), (Value.int .i64 1)] fun ad1 =>
    K ((some ad1), 0)
    )
def x_ref07_New : Cx Try.prog := ⟨tys, [], [], [], mixed⟩
def h_ref07_New : Hint := (.seq .d (.seq (.seq (.reg (.run [3, 7, 11] (.sel 8 11 3584 (.run [15, 19, 23] .nil) (.run [15, 19, 23] .nil) (.run [27] (.sel 12 15 57344 (.run [31, 35, 39] .nil) (.run [31, 35, 39] .nil) (.run [43] (.sel 16 19 917504 (.run [47, 51, 55] .nil) (.run [47, 51, 55] .nil) .nil))))))) .d) .d))
theorem w_ref07_New : ∀ (a : Den [(tInt .i64), (tInt .i64)]) (K : Den [tPtr, (tInt .i64)] → HP) (h : H), m_ref07_New a.1 a.2 K h = wpF x_ref07_New Try.f80 [(tInt .i64), (tInt .i64)] [tPtr, (tInt .i64)] h_ref07_New a K h := fun a K h => by kernel_rfl
def s_ref07_New : Spec Try.prog := mkSpec x_ref07_New 80 Try.f80 [(tInt .i64), (tInt .i64)] [tPtr, (tInt .i64)] false h_ref07_New (fun a => m_ref07_New a.1 a.2) w_ref07_New callee80 rfl
/-! (*sesame/sesameref07.Store).at -/
def m_ref07_Store_at (a0 : Option Addr) (a1 : Int) (K : (Int) → H → Prop) : H → Prop :=
  mLoop (fun (rec2 : Int → H → Prop) (s1 : Int) =>
    mDeref a0 fun ad3 =>
    mLoad cSl (ad3.add 2) fun x4 =>
    mIf (decide (s1 < (x4.len : Int))) (
      mDeref a0 fun ad5 =>
      mLoad cSl (ad5.add 2) fun x6 =>
      mIdx x6 s1 2 fun ad7 =>
      mLoad (cInt .i64) (ad7.add 0) fun x8 =>
      mIf (decide (x8 = a1)) (
        K s1
        ) (
        rec2 (iAdd .i64 s1 1)
        )
      ) (
      K (-1)
      )
    ) 0
def x_ref07_Store_at : Cx Try.prog := ⟨tys, [], [], [], mixed⟩
def h_ref07_Store_at : Hint := (.seq .d (.seq (.seq .d (.blk (.loop [.slot 5 (tInt .i64)] 67108848 [] .d))) .d))
theorem w_ref07_Store_at : ∀ (a : Den [tPtr, (tInt .i64)]) (K : Den [(tInt .i64)] → HP) (h : H), m_ref07_Store_at a.1 a.2 K h = wpF x_ref07_Store_at Try.f88 [tPtr, (tInt .i64)] [(tInt .i64)] h_ref07_Store_at a K h := fun a K h => by kernel_rfl
def s_ref07_Store_at : Spec Try.prog := mkSpec x_ref07_Store_at 88 Try.f88 [tPtr, (tInt .i64)] [(tInt .i64)] false h_ref07_Store_at (fun a => m_ref07_Store_at a.1 a.2) w_ref07_Store_at callee88 rfl
/-! sesame/sesameref07.within -/
def m_ref07_within (a0 : Int) (a1 : Int) (a2 : Int) (K : (Bool) → H → Prop) : H → Prop :=
  K (((((decide (0 ≤ a0)) && (decide (0 ≤ a1))) && (decide (a1 ≤ 1024))) && (decide (a0 ≤ a2))) && (decide (a1 ≤ (iSub .i64 a2 a0))))
def x_ref07_within : Cx Try.prog := ⟨tys, [], [], [], mixed⟩
def h_ref07_within : Hint := (.seq .d (.seq (.reg (.run [3, 7, 11] (.sel 9 12 7168 (.run [15, 19, 23] .nil) (.run [15, 19, 23] .nil) (.run [27] (.sel 13 16 114688 (.run [31, 35, 39] .nil) (.run [31, 35, 39] .nil) (.run [43] (.sel 17 21 3932160 (.run [47, 51, 55, 59] .nil) (.run [47, 51, 55, 59] .nil) (.run [63] (.sel 22 28 528482304 (.run [67, 71, 75, 79, 83, 87] .nil) (.run [67, 71, 75, 79, 83, 87] .nil) (.run [91] .nil)))))))))) .d))
theorem w_ref07_within : ∀ (a : Den [(tInt .i64), (tInt .i64), (tInt .i64)]) (K : Den [tBool] → HP) (h : H), m_ref07_within a.1 a.2.1 a.2.2 K h = wpF x_ref07_within Try.f89 [(tInt .i64), (tInt .i64), (tInt .i64)] [tBool] h_ref07_within a K h := fun a K h => by kernel_rfl
def s_ref07_within : Spec Try.prog := mkSpec x_ref07_within 89 Try.f89 [(tInt .i64), (tInt .i64), (tInt .i64)] [tBool] true h_ref07_within (fun a => m_ref07_within a.1 a.2.1 a.2.2) w_ref07_within callee89 rfl
/-! (*sesame/sesameref07.Store).Read -/
def m_ref07_Store_Read (a0 : Option Addr) (a1 : Int) (a2 : Int) (a3 : Int) (K : (Sl × Int) → H → Prop) : H → Prop :=
  m_ref07_Store_at a0 a1 fun r1 =>
  mIf (decide (r1 < 0)) (
    K (Sl.nil, 20)
    ) (
    mDeref a0 fun ad2 =>
    mLoad cSl (ad2.add 2) fun x3 =>
    mIdx x3 r1 2 fun ad4 =>
    mLoad cSl (ad4.add 1) fun x5 =>
    mPure (m_ref07_within a2 a3 (x5.len : Int)) fun r6 =>
    mIf (!r6) (
      K (Sl.nil, 5)
      ) (
      mDeref a0 fun ad7 =>
      mLoad cSl (ad7.add 2) fun x8 =>
      mIdx x8 r1 2 fun ad9 =>
      mLoad cSl (ad9.add 1) fun x10 =>
      mCut x10 a2 (iAdd .i64 a2 a3) 1 fun s11 =>
      mAppend 5 1 1 #[(Value.int .u8 0)] Sl.nil s11 fun s12 =>
      K (s12, 0)
      )
    )
def x_ref07_Store_Read : Cx Try.prog := ⟨tys, [s_ref07_Store_at, s_ref07_within], [], [], mixed⟩
def h_ref07_Store_Read : Hint := .d
theorem w_ref07_Store_Read : ∀ (a : Den [tPtr, (tInt .i64), (tInt .i64), (tInt .i64)]) (K : Den [tSl, (tInt .i64)] → HP) (h : H), m_ref07_Store_Read a.1 a.2.1 a.2.2.1 a.2.2.2 K h = wpF x_ref07_Store_Read Try.f28 [tPtr, (tInt .i64), (tInt .i64), (tInt .i64)] [tSl, (tInt .i64)] h_ref07_Store_Read a K h := fun a K h => by kernel_rfl
def s_ref07_Store_Read : Spec Try.prog := mkSpec x_ref07_Store_Read 28 Try.f28 [tPtr, (tInt .i64), (tInt .i64), (tInt .i64)] [tSl, (tInt .i64)] false h_ref07_Store_Read (fun a => m_ref07_Store_Read a.1 a.2.1 a.2.2.1 a.2.2.2) w_ref07_Store_Read callee28 rfl
/-! (*sesame/sesameref07.Store).Free -/
def m_ref07_Store_Free (a0 : Option Addr) (K : (Int) → H → Prop) : H → Prop :=
  mDeref a0 fun ad1 =>
  mLoad (cInt .i64) (ad1.add 1) fun x2 =>
  mLoop (fun (rec4 : (Int × Int) → H → Prop) (s3 : Int × Int) =>
    mDeref a0 fun ad5 =>
    mLoad cSl (ad5.add 2) fun x6 =>
    mIf (decide (s3.2 < (x6.len : Int))) (
      mDeref a0 fun ad7 =>
      mLoad cSl (ad7.add 2) fun x8 =>
      mIdx x8 s3.2 2 fun ad9 =>
      mLoad cSl (ad9.add 1) fun x10 =>
      rec4 ((iSub .i64 s3.1 (iQuo .i64 (iAdd .i64 (x10.len : Int) 63) 64)), (iAdd .i64 s3.2 1))
      ) (
      K s3.1
      )
    ) (x2, 0)
def x_ref07_Store_Free : Cx Try.prog := ⟨tys, [], [], [], mixed⟩
def h_ref07_Store_Free : Hint := (.seq .d (.seq .d (.seq (.seq .d (.blk (.loop [.slot 3 (tInt .i64), .slot 4 (tInt .i64)] 2147483160 [] .d))) .d)))
theorem w_ref07_Store_Free : ∀ (a : Den [tPtr]) (K : Den [(tInt .i64)] → HP) (h : H), m_ref07_Store_Free a K h = wpF x_ref07_Store_Free Try.f92 [tPtr] [(tInt .i64)] h_ref07_Store_Free a K h := fun a K h => by kernel_rfl
def s_ref07_Store_Free : Spec Try.prog := mkSpec x_ref07_Store_Free 92 Try.f92 [tPtr] [(tInt .i64)] false h_ref07_Store_Free (fun a => m_ref07_Store_Free a) w_ref07_Store_Free callee92 rfl
/-! (*sesame/sesameref07.Store).May -/
def m_ref07_Store_May (a0 : Option Addr) (a1 : Int) (K : (Int) → H → Prop) : H → Prop :=
  mIf ((decide (a1 < 0)) || (decide (4096 < a1))) (
    K 6
    ) (
    mDeref a0 fun ad1 =>
    mDeref a0 fun ad2 =>
    mLoad cSl (ad1.add 2) fun x3 =>
    mLoad (cInt .i64) (ad2.add 0) fun x4 =>
    mJoin (fun (s7 : Bool) =>
      mIf s7 (
        K 7
        ) (
        m_ref07_Store_Free a0 fun r9 =>
        mIf (decide (r9 < (iQuo .i64 (iAdd .i64 a1 63) 64))) (
          K 8
          ) (
          K 0
          )
        )
      ) (fun j8 =>
      mIf (decide (x4 ≤ (x3.len : Int))) (
        j8 true
        ) (
        mDeref a0 fun ad10 =>
        mLoad (cInt .i64) (ad10.add 3) fun x11 =>
        j8 (decide (4611686018427387904 < x11))
        ))
    )
def x_ref07_Store_May : Cx Try.prog := ⟨tys, [s_ref07_Store_Free], [], [], mixed⟩
def h_ref07_Store_May : Hint := (.seq .d (.seq (.seq (.reg (.run [3, 7, 11] (.sel 7 10 1792 (.run [15, 19, 23] .nil) (.run [15, 19, 23] .nil) .nil))) .d) (.seq (.seq (.reg (.run [0, 4, 8, 20, 24, 28, 14, 16, 34, 36, 40] (.join [.slot 27 tBool] 264241152 [] (.split 21 (.run [44, 48, 52, 56, 60, 64] .nil) (.run [44, 48, 52, 58, 60, 64] .nil)) .nil))) .d) .d)))
theorem w_ref07_Store_May : ∀ (a : Den [tPtr, (tInt .i64)]) (K : Den [(tInt .i64)] → HP) (h : H), m_ref07_Store_May a.1 a.2 K h = wpF x_ref07_Store_May Try.f87 [tPtr, (tInt .i64)] [(tInt .i64)] h_ref07_Store_May a K h := fun a K h => by kernel_rfl
def s_ref07_Store_May : Spec Try.prog := mkSpec x_ref07_Store_May 87 Try.f87 [tPtr, (tInt .i64)] [(tInt .i64)] false h_ref07_Store_May (fun a => m_ref07_Store_May a.1 a.2) w_ref07_Store_May callee87 rfl
/-! (*sesame/sesameref07.Store).Create -/
def m_ref07_Store_Create (a0 : Option Addr) (a1 : Int) (K : (Int × Int) → H → Prop) : H → Prop :=
  m_ref07_Store_May a0 a1 fun r1 =>
  mIf (!decide (r1 = 0)) (
    K (0, r1)
    ) (
    mDeref a0 fun ad2 =>
    mDeref a0 fun ad3 =>
    mJoin (fun (s4 : Sl × Sl) =>
      mAppend 146 2 32 #[(Value.int .i64 0), (Sl.val Sl.nil)] s4.1 s4.2 fun s24 =>
      mDeref a0 fun ad25 =>
      mStore (ad25.add 2) [(Sl.val s24)] <|
      mDeref a0 fun ad26 =>
      mLoad (cInt .i64) (ad26.add 3) fun x27 =>
      mDeref a0 fun ad28 =>
      mStore (ad28.add 3) [(Value.int .i64 (iAdd .i64 x27 1))] <|
      mDeref a0 fun ad29 =>
      mLoad (cInt .i64) (ad29.add 3) fun x30 =>
      K ((iSub .i64 x30 1), 0)
      ) (fun j5 =>
      mBoth (
        mLoad cSl (ad2.add 2) fun x6 =>
        mBoth (
          mLoad (cInt .i64) (ad3.add 3) fun x7 =>
          mMake 5 1 #[(Value.int .u8 0)] a1 a1 fun s8 =>
          mNew 146 #[(Value.int .i64 x7), (Sl.val s8)] fun ad9 =>
          j5 (x6, (⟨some ad9, 1, 1⟩ : Sl))
          ) (
          mMake 5 1 #[(Value.int .u8 0)] a1 a1 fun s10 =>
          mLoad (cInt .i64) (ad3.add 3) fun x11 =>
          mNew 146 #[(Value.int .i64 x11), (Sl.val s10)] fun ad12 =>
          j5 (x6, (⟨some ad12, 1, 1⟩ : Sl))
          )
        ) (
        mBoth (
          mLoad (cInt .i64) (ad3.add 3) fun x13 =>
          mBoth (
            mLoad cSl (ad2.add 2) fun x14 =>
            mMake 5 1 #[(Value.int .u8 0)] a1 a1 fun s15 =>
            mNew 146 #[(Value.int .i64 x13), (Sl.val s15)] fun ad16 =>
            j5 (x14, (⟨some ad16, 1, 1⟩ : Sl))
            ) (
            mMake 5 1 #[(Value.int .u8 0)] a1 a1 fun s17 =>
            mLoad cSl (ad2.add 2) fun x18 =>
            mNew 146 #[(Value.int .i64 x13), (Sl.val s17)] fun ad19 =>
            j5 (x18, (⟨some ad19, 1, 1⟩ : Sl))
            )
          ) (
          mMake 5 1 #[(Value.int .u8 0)] a1 a1 fun s20 =>
          mLoad cSl (ad2.add 2) fun x21 =>
          mLoad (cInt .i64) (ad3.add 3) fun x22 =>
          mNew 146 #[(Value.int .i64 x22), (Sl.val s20)] fun ad23 =>
          j5 (x21, (⟨some ad23, 1, 1⟩ : Sl))
          )
        ))
    )
def x_ref07_Store_Create : Cx Try.prog := ⟨tys, [s_ref07_Store_May], [], [], mixed⟩
def h_ref07_Store_Create : Hint := (.seq .d (.seq .d (.seq .d (.seq (.reg (.run [0, 4, 8, 12, 20, 24, 28, 36] (.join [.slot 17 tSl, .slot 25 tSl] 60948480 [] (.alt 4 (.both 8 10 (.run [43, 44, 50] .nil) (.run [34, 44, 50] .nil)) (.both 8 10 (.both 4 10 (.run [43, 44, 50] .nil) (.run [44, 18, 50] .nil)) (.run [18, 34, 44, 50] .nil))) (.run [55, 56, 60, 67] .nil)))) .d))))
theorem w_ref07_Store_Create : ∀ (a : Den [tPtr, (tInt .i64)]) (K : Den [(tInt .i64), (tInt .i64)] → HP) (h : H), m_ref07_Store_Create a.1 a.2 K h = wpF x_ref07_Store_Create Try.f81 [tPtr, (tInt .i64)] [(tInt .i64), (tInt .i64)] h_ref07_Store_Create a K h := fun a K h => by kernel_rfl
def s_ref07_Store_Create : Spec Try.prog := mkSpec x_ref07_Store_Create 81 Try.f81 [tPtr, (tInt .i64)] [(tInt .i64), (tInt .i64)] false h_ref07_Store_Create (fun a => m_ref07_Store_Create a.1 a.2) w_ref07_Store_Create callee81 rfl
/-! (*sesame/sesameref07.Store).Destroy -/
def m_ref07_Store_Destroy (a0 : Option Addr) (a1 : Int) (K : (Int) → H → Prop) : H → Prop :=
  m_ref07_Store_at a0 a1 fun r1 =>
  mIf (decide (r1 < 0)) (
    K 20
    ) (
    mDeref a0 fun ad2 =>
    mLoad cSl (ad2.add 2) fun x3 =>
    mCut x3 0 r1 2 fun s4 =>
    mAppend 146 2 32 #[(Value.int .i64 0), (Sl.val Sl.nil)] Sl.nil s4 fun s5 =>
    mDeref a0 fun ad6 =>
    mLoad cSl (ad6.add 2) fun x7 =>
    mCut x7 (iAdd .i64 r1 1) (x7.len : Int) 2 fun s8 =>
    mAppend 146 2 32 #[(Value.int .i64 0), (Sl.val Sl.nil)] s5 s8 fun s9 =>
    mDeref a0 fun ad10 =>
    mStore (ad10.add 2) [(Sl.val s9)] <|
    K 0
    )
def x_ref07_Store_Destroy : Cx Try.prog := ⟨tys, [s_ref07_Store_at], [], [], mixed⟩
def h_ref07_Store_Destroy : Hint := .d
theorem w_ref07_Store_Destroy : ∀ (a : Den [tPtr, (tInt .i64)]) (K : Den [(tInt .i64)] → HP) (h : H), m_ref07_Store_Destroy a.1 a.2 K h = wpF x_ref07_Store_Destroy Try.f82 [tPtr, (tInt .i64)] [(tInt .i64)] h_ref07_Store_Destroy a K h := fun a K h => by kernel_rfl
def s_ref07_Store_Destroy : Spec Try.prog := mkSpec x_ref07_Store_Destroy 82 Try.f82 [tPtr, (tInt .i64)] [(tInt .i64)] false h_ref07_Store_Destroy (fun a => m_ref07_Store_Destroy a.1 a.2) w_ref07_Store_Destroy callee82 rfl
/-! (*sesame/sesameref07.Store).Write -/
def m_ref07_Store_Write (a0 : Option Addr) (a1 : Int) (a2 : Int) (a3 : Sl) (K : (Int) → H → Prop) : H → Prop :=
  m_ref07_Store_at a0 a1 fun r1 =>
  mIf (decide (r1 < 0)) (
    K 20
    ) (
    mDeref a0 fun ad2 =>
    mLoad cSl (ad2.add 2) fun x3 =>
    mIdx x3 r1 2 fun ad4 =>
    mLoad cSl (ad4.add 1) fun x5 =>
    mPure (m_ref07_within a2 (a3.len : Int) (x5.len : Int)) fun r6 =>
    mIf (!r6) (
      K 5
      ) (
      mLoop (fun (rec8 : Int → H → Prop) (s7 : Int) =>
        mIf (decide (s7 < (a3.len : Int))) (
          mDeref a0 fun ad9 =>
          mIdx a3 s7 1 fun ad10 =>
          mLoad cSl (ad9.add 2) fun x11 =>
          mIdx x11 r1 2 fun ad12 =>
          mLoad cSl (ad12.add 1) fun x13 =>
          mLoad (cInt .u8) ad10 fun x14 =>
          mIdx x13 (iAdd .i64 a2 s7) 1 fun ad15 =>
          mStore ad15 [(Value.int .u8 x14)] <|
          rec8 (iAdd .i64 s7 1)
          ) (
          K 0
          )
        ) 0
      )
    )
def x_ref07_Store_Write : Cx Try.prog := ⟨tys, [s_ref07_Store_at, s_ref07_within], [], [], mixed⟩
def h_ref07_Store_Write : Hint := (.seq .d (.seq .d (.seq .d (.seq .d (.seq (.seq .d (.blk (.loop [.slot 10 (tInt .i64)] 4503598553629696 [] (.seq .d (.seq (.blk (.reg (.run [0, 4, 8, 16, 32, 36, 40, 44, 48, 52, 14, 20, 24, 30, 58, 60, 67] .nil))) .d))))) .d)))))
theorem w_ref07_Store_Write : ∀ (a : Den [tPtr, (tInt .i64), (tInt .i64), tSl]) (K : Den [(tInt .i64)] → HP) (h : H), m_ref07_Store_Write a.1 a.2.1 a.2.2.1 a.2.2.2 K h = wpF x_ref07_Store_Write Try.f83 [tPtr, (tInt .i64), (tInt .i64), tSl] [(tInt .i64)] h_ref07_Store_Write a K h := fun a K h => by kernel_rfl
def s_ref07_Store_Write : Spec Try.prog := mkSpec x_ref07_Store_Write 83 Try.f83 [tPtr, (tInt .i64), (tInt .i64), tSl] [(tInt .i64)] false h_ref07_Store_Write (fun a => m_ref07_Store_Write a.1 a.2.1 a.2.2.1 a.2.2.2) w_ref07_Store_Write callee83 rfl
/-! (*sesame/sesameref07.Store).SetNext -/
def m_ref07_Store_SetNext (a0 : Option Addr) (a1 : Int) (K : (Int) → H → Prop) : H → Prop :=
  mIf ((decide (a1 < 1)) || (decide (4611686018427387905 < a1))) (
    K 5
    ) (
    mLoop (fun (rec2 : Int → H → Prop) (s1 : Int) =>
      mDeref a0 fun ad3 =>
      mLoad cSl (ad3.add 2) fun x4 =>
      mIf (decide (s1 < (x4.len : Int))) (
        mDeref a0 fun ad5 =>
        mLoad cSl (ad5.add 2) fun x6 =>
        mIdx x6 s1 2 fun ad7 =>
        mLoad (cInt .i64) (ad7.add 0) fun x8 =>
        mIf (decide (a1 ≤ x8)) (
          K 5
          ) (
          rec2 (iAdd .i64 s1 1)
          )
        ) (
        mDeref a0 fun ad9 =>
        mStore (ad9.add 3) [(Value.int .i64 a1)] <|
        K 0
        )
      ) 0
    )
def x_ref07_Store_SetNext : Cx Try.prog := ⟨tys, [], [], [], mixed⟩
def h_ref07_Store_SetNext : Hint := (.seq .d (.seq (.seq (.reg (.run [3, 7, 11] (.sel 8 11 3584 (.run [15, 19, 23] .nil) (.run [15, 19, 23] .nil) .nil))) .d) (.seq (.seq .d (.blk (.loop [.slot 5 (tInt .i64)] 2147479600 [] .d))) .d)))
theorem w_ref07_Store_SetNext : ∀ (a : Den [tPtr, (tInt .i64)]) (K : Den [(tInt .i64)] → HP) (h : H), m_ref07_Store_SetNext a.1 a.2 K h = wpF x_ref07_Store_SetNext Try.f86 [tPtr, (tInt .i64)] [(tInt .i64)] h_ref07_Store_SetNext a K h := fun a K h => by kernel_rfl
def s_ref07_Store_SetNext : Spec Try.prog := mkSpec x_ref07_Store_SetNext 86 Try.f86 [tPtr, (tInt .i64)] [(tInt .i64)] false h_ref07_Store_SetNext (fun a => m_ref07_Store_SetNext a.1 a.2) w_ref07_Store_SetNext callee86 rfl
/-! (*sesame/sesameref07.Store).Ids -/
def m_ref07_Store_Ids (a0 : Option Addr) (K : (Sl) → H → Prop) : H → Prop :=
  mLoop (fun (rec2 : (Sl × Int) → H → Prop) (s1 : Sl × Int) =>
    mDeref a0 fun ad3 =>
    mLoad cSl (ad3.add 2) fun x4 =>
    mIf (decide (s1.2 < (x4.len : Int))) (
      mDeref a0 fun ad5 =>
      mLoad cSl (ad5.add 2) fun x6 =>
      mIdx x6 s1.2 2 fun ad7 =>
      mLoad (cInt .i64) (ad7.add 0) fun x8 =>
      mApp 3 1 8 #[(Value.int .i64 0)] 1 [(Value.int .i64 x8)] s1.1 fun s9 =>
      rec2 (s9, (iAdd .i64 s1.2 1))
      ) (
      K s1.1
      )
    ) (Sl.nil, 0)
def x_ref07_Store_Ids : Cx Try.prog := ⟨tys, [], [23], [], mixed⟩
def h_ref07_Store_Ids : Hint := (.seq .d (.seq .d (.seq (.seq .d (.blk (.loop [.slot 3 tSl, .slot 4 (tInt .i64)] 33554424 [] .d))) .d)))
theorem w_ref07_Store_Ids : ∀ (a : Den [tPtr]) (K : Den [tSl] → HP) (h : H), m_ref07_Store_Ids a K h = wpF x_ref07_Store_Ids Try.f27 [tPtr] [tSl] h_ref07_Store_Ids a K h := fun a K h => by kernel_rfl
def s_ref07_Store_Ids : Spec Try.prog := mkSpec x_ref07_Store_Ids 27 Try.f27 [tPtr] [tSl] false h_ref07_Store_Ids (fun a => m_ref07_Store_Ids a) w_ref07_Store_Ids callee27 rfl
/-! (*sesame/sesameref07.Store).Size -/
def m_ref07_Store_Size (a0 : Option Addr) (a1 : Int) (K : (Int × Bool) → H → Prop) : H → Prop :=
  m_ref07_Store_at a0 a1 fun r1 =>
  mIf (decide (r1 < 0)) (
    K (0, false)
    ) (
    mDeref a0 fun ad2 =>
    mLoad cSl (ad2.add 2) fun x3 =>
    mIdx x3 r1 2 fun ad4 =>
    mLoad cSl (ad4.add 1) fun x5 =>
    K ((x5.len : Int), true)
    )
def x_ref07_Store_Size : Cx Try.prog := ⟨tys, [s_ref07_Store_at], [], [], mixed⟩
def h_ref07_Store_Size : Hint := .d
theorem w_ref07_Store_Size : ∀ (a : Den [tPtr, (tInt .i64)]) (K : Den [(tInt .i64), tBool] → HP) (h : H), m_ref07_Store_Size a.1 a.2 K h = wpF x_ref07_Store_Size Try.f91 [tPtr, (tInt .i64)] [(tInt .i64), tBool] h_ref07_Store_Size a K h := fun a K h => by kernel_rfl
def s_ref07_Store_Size : Spec Try.prog := mkSpec x_ref07_Store_Size 91 Try.f91 [tPtr, (tInt .i64)] [(tInt .i64), tBool] false h_ref07_Store_Size (fun a => m_ref07_Store_Size a.1 a.2) w_ref07_Store_Size callee91 rfl
end Go.Proofs.Yteeaelemfalkbaa.K
