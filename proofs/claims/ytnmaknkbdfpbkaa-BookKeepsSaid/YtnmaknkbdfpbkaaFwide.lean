/- Functions of the program, printed by a program of mine: wide_cut, wide_Cut, wide_Cmp, wide_Fits, wide_Next, wide_kindOf, wide_Parse, wide_Text, wide_Bytes, wide_Of -/
import Derived.Test.YtnmaknkbdfpbkaaT
namespace Go.Proofs.Ytnmaknkbdfpbkaa.K
open Go Go.Proofs
/-! sesame/wide.cut -/
def m_wide_cut (a0 : Int) (a1 : Int) (K : (Int) → H → Prop) : H → Prop :=
  mIf (decide (a1 ≤ 0)) (
    K 0
    ) (
    mIf (decide (64 ≤ a1)) (
      K a0
      ) (
      mNN a1 <|
      K (iAnd .u64 a0 (iSub .u64 (iShl .u64 1 a1) 1))
      )
    )
def x_wide_cut : Cx Try.prog := ⟨tys, [], [], [], mixed⟩
def h_wide_cut : Hint := .d
theorem w_wide_cut : ∀ (a : Den [(tInt .u64), (tInt .i64)]) (K : Den [(tInt .u64)] → HP) (h : H), m_wide_cut a.1 a.2 K h = wpF x_wide_cut Try.f58 [(tInt .u64), (tInt .i64)] [(tInt .u64)] h_wide_cut a K h := fun a K h => by kernel_rfl
def s_wide_cut : Spec Try.prog := mkSpec x_wide_cut 58 Try.f58 [(tInt .u64), (tInt .i64)] [(tInt .u64)] true h_wide_cut (fun a => m_wide_cut a.1 a.2) w_wide_cut callee58 rfl
/-! sesame/wide.Cut -/
def m_wide_Cut (a0 : S_api_Word) (a1 : Int) (K : (S_api_Word) → H → Prop) : H → Prop :=
  mPure (m_wide_cut a0.Hi (iSub .i64 (iMin (iMax a1 0) 128) 64)) fun r1 =>
  mPure (m_wide_cut a0.Lo (iMin (iMax a1 0) 128)) fun r2 =>
  K (⟨r1, r2⟩ : S_api_Word)
def x_wide_Cut : Cx Try.prog := ⟨tys, [s_wide_cut], [2, 4], [], mixed⟩
def h_wide_Cut : Hint := (.seq .d (.seq .d (.seq (.reg (.run [0, 8, 12, 20, 28, 5, 16, 25, 32, 36, 43] .nil)) .d)))
theorem w_wide_Cut : ∀ (a : Den [S_api_Word.ty, (tInt .i64)]) (K : Den [S_api_Word.ty] → HP) (h : H), m_wide_Cut a.1 a.2 K h = wpF x_wide_Cut Try.f30 [S_api_Word.ty, (tInt .i64)] [S_api_Word.ty] h_wide_Cut a K h := fun a K h => by kernel_rfl
def s_wide_Cut : Spec Try.prog := mkSpec x_wide_Cut 30 Try.f30 [S_api_Word.ty, (tInt .i64)] [S_api_Word.ty] true h_wide_Cut (fun a => m_wide_Cut a.1 a.2) w_wide_Cut callee30 rfl
/-! sesame/wide.Cmp -/
def m_wide_Cmp (a0 : S_api_Word) (a1 : S_api_Word) (K : (Int) → H → Prop) : H → Prop :=
  mIf ((decide (a0.Hi = a1.Hi)) && ((decide (a0.Lo = a1.Lo)) && true)) (
    K 0
    ) (
    mIf ((decide (a0.Hi < a1.Hi)) || ((decide (a0.Hi = a1.Hi)) && (decide (a0.Lo < a1.Lo)))) (
      K (-1)
      ) (
      K 1
      )
    )
def x_wide_Cmp : Cx Try.prog := ⟨tys, [], [2, 3], [], mixed⟩
def h_wide_Cmp : Hint := (.seq .d (.seq (.blk (.seq .d (.cond .d (.seq (.reg (.run [3, 7, 11, 15, 19, 23] (.sel 15 28 536805376 (.run [27, 31, 35, 39, 43, 47, 51, 55, 59, 63, 67, 71, 75] .nil) (.run [27, 31, 35, 39, 43, 47] (.sel 21 27 264241152 (.run [51, 55, 59, 63, 67, 71] .nil) (.run [51, 55, 59, 63, 67, 71] .nil) (.run [75] .nil))) (.run [79] .nil)))) .d)))) .d))
theorem w_wide_Cmp : ∀ (a : Den [S_api_Word.ty, S_api_Word.ty]) (K : Den [(tInt .i64)] → HP) (h : H), m_wide_Cmp a.1 a.2 K h = wpF x_wide_Cmp Try.f28 [S_api_Word.ty, S_api_Word.ty] [(tInt .i64)] h_wide_Cmp a K h := fun a K h => by kernel_rfl
def s_wide_Cmp : Spec Try.prog := mkSpec x_wide_Cmp 28 Try.f28 [S_api_Word.ty, S_api_Word.ty] [(tInt .i64)] true h_wide_Cmp (fun a => m_wide_Cmp a.1 a.2) w_wide_Cmp callee28 rfl
/-! sesame/wide.Fits -/
def m_wide_Fits (a0 : S_api_Word) (a1 : Int) (K : (Bool) → H → Prop) : H → Prop :=
  mIf (decide (1 ≤ a1)) (
    mPure (m_wide_Cut a0 a1) fun r2 =>
    K ((decide (r2.Hi = a0.Hi)) && ((decide (r2.Lo = a0.Lo)) && true))
    ) (
    K false
    )
def x_wide_Fits : Cx Try.prog := ⟨tys, [s_wide_Cut], [2], [], mixed⟩
def h_wide_Fits : Hint := (.seq .d (.seq (.reg (.run [0, 4, 8] (.split 7 (.run [16, 13, 20, 25, 28, 32, 36] .nil) (.run [12, 16, 20, 24, 28, 32, 36] .nil)))) .d))
theorem w_wide_Fits : ∀ (a : Den [S_api_Word.ty, (tInt .i64)]) (K : Den [tBool] → HP) (h : H), m_wide_Fits a.1 a.2 K h = wpF x_wide_Fits Try.f31 [S_api_Word.ty, (tInt .i64)] [tBool] h_wide_Fits a K h := fun a K h => by kernel_rfl
def s_wide_Fits : Spec Try.prog := mkSpec x_wide_Fits 31 Try.f31 [S_api_Word.ty, (tInt .i64)] [tBool] true h_wide_Fits (fun a => m_wide_Fits a.1 a.2) w_wide_Fits callee31 rfl
/-! sesame/wide.Next -/
def m_wide_Next (a0 : S_api_Word) (a1 : Int) (K : (S_api_Word × Bool) → H → Prop) : H → Prop :=
  mJoin (fun (s1 : Int × Int) =>
    mPure (m_wide_Fits a0 a1) fun r3 =>
    mJoin (fun (s5 : Bool) =>
      mIf (s5 || ((decide (s1.1 = 0)) && ((decide (s1.2 = 0)) && true))) (
        K ((⟨0, 0⟩ : S_api_Word), false)
        ) (
        K ((⟨s1.1, s1.2⟩ : S_api_Word), true)
        )
      ) (fun j6 =>
      mIf (!r3) (
        j6 true
        ) (
        mPure (m_wide_Fits (⟨s1.1, s1.2⟩ : S_api_Word) a1) fun r7 =>
        j6 (!r7)
        ))
    ) (fun j2 =>
    mIf (decide ((iAdd .u64 a0.Lo 1) = 0)) (
      j2 ((iAdd .u64 a0.Hi 1), (iAdd .u64 a0.Lo 1))
      ) (
      j2 (a0.Hi, (iAdd .u64 a0.Lo 1))
      )
    )
def x_wide_Next : Cx Try.prog := ⟨tys, [s_wide_Fits], [2, 4, 6], [], mixed⟩
def h_wide_Next : Hint := (.seq .d (.seq .d (.join [.cell 6 0 (tInt .u64), .cell 6 1 (tInt .u64)] 1040384 [6] .d (.seq (.seq (.reg (.run [3, 7, 11, 15, 19] (.join [.slot 29 tBool] 1040187392 [] (.split 24 (.run [23, 27, 31, 35, 39] .nil) (.run [23, 27, 31, 35, 39] .nil)) (.run [43] (.sel 30 34 32212254720 (.run [47, 51, 55, 59] .nil) (.run [47, 51, 55, 59] .nil) .nil))))) .d) .d))))
theorem w_wide_Next : ∀ (a : Den [S_api_Word.ty, (tInt .i64)]) (K : Den [S_api_Word.ty, tBool] → HP) (h : H), m_wide_Next a.1 a.2 K h = wpF x_wide_Next Try.f32 [S_api_Word.ty, (tInt .i64)] [S_api_Word.ty, tBool] h_wide_Next a K h := fun a K h => by kernel_rfl
def s_wide_Next : Spec Try.prog := mkSpec x_wide_Next 32 Try.f32 [S_api_Word.ty, (tInt .i64)] [S_api_Word.ty, tBool] true h_wide_Next (fun a => m_wide_Next a.1 a.2) w_wide_Next callee32 rfl
/-! sesame/wide.kindOf -/
def m_wide_kindOf (a0 : Int) (K : (Int) → H → Prop) : H → Prop :=
  mIf ((decide (48 ≤ a0)) && (decide (a0 ≤ 57))) (
    K 1
    ) (
    mIf ((decide (97 ≤ a0)) && (decide (a0 ≤ 102))) (
      K 2
      ) (
      K 0
      )
    )
def x_wide_kindOf : Cx Try.prog := ⟨tys, [], [], [], mixed⟩
def h_wide_kindOf : Hint := (.seq .d (.seq (.blk (.seq (.reg (.run [3, 7, 11] (.sel 6 9 896 (.run [15, 19, 23] .nil) (.run [15, 19, 23] .nil) (.run [27] .nil)))) (.cond .d (.seq (.reg (.run [3, 7, 11] (.sel 13 16 114688 (.run [15, 19, 23] .nil) (.run [15, 19, 23] .nil) (.run [27] .nil)))) .d)))) .d))
theorem w_wide_kindOf : ∀ (a : Den [(tInt .u8)]) (K : Den [(tInt .i64)] → HP) (h : H), m_wide_kindOf a K h = wpF x_wide_kindOf Try.f61 [(tInt .u8)] [(tInt .i64)] h_wide_kindOf a K h := fun a K h => by kernel_rfl
def s_wide_kindOf : Spec Try.prog := mkSpec x_wide_kindOf 61 Try.f61 [(tInt .u8)] [(tInt .i64)] true h_wide_kindOf (fun a => m_wide_kindOf a) w_wide_kindOf callee61 rfl
/-! sesame/wide.Parse -/
def m_wide_Parse (a0 : ByteArray) (K : (S_api_Word × Int) → H → Prop) : H → Prop :=
  mJoin (fun (s5 : Bool) =>
    mIf s5 (
      K ((⟨0, 0⟩ : S_api_Word), 22)
      ) (
      mLoop (fun (rec8 : (Int × Int × Int) → H → Prop) (s7 : Int × Int × Int) =>
        mIf (decide (s7.1 < (a0.size : Int))) (
          mJoin (fun (s9 : Int) =>
            rec8 ((iAdd .i64 s7.1 1), (iOr .u64 (iShl .u64 s7.2.1 4) (iShr .u64 s7.2.2 60)), (iOr .u64 (iShl .u64 s7.2.2 4) s9))
            ) (fun j10 =>
            mByte a0 s7.1 fun x11 =>
            mPure (m_wide_kindOf x11) fun r12 =>
            mIf (decide (r12 = 1)) (
              mByte a0 s7.1 fun x13 =>
              j10 (IntKind.wrap .u64 (iSub .u8 x13 48))
              ) (
              mIf (decide (r12 = 2)) (
                mByte a0 s7.1 fun x14 =>
                j10 (iAdd .u64 (IntKind.wrap .u64 (iSub .u8 x14 97)) 10)
                ) (
                K ((⟨0, 0⟩ : S_api_Word), 22)
                )
              )
            )
          ) (
          K ((⟨s7.2.1, s7.2.2⟩ : S_api_Word), 0)
          )
        ) (0, 0, 0)
      )
    ) (fun j6 =>
    mIf ((a0.toList == (ByteArray.mk #[]).toList) || (decide (32 < (a0.size : Int)))) (
      j6 true
      ) (
      mIf (decide (1 < (a0.size : Int))) (
        mByte a0 0 fun x16 =>
        j6 (decide (x16 = 48))
        ) (
        j6 false
        )
      ))
def x_wide_Parse : Cx Try.prog := ⟨tys, [s_wide_kindOf], [2, 4], [], mixed⟩
def h_wide_Parse : Hint := (.seq .d (.seq (.seq (.reg (.run [3, 7, 11] (.sel 9 13 15360 (.run [15, 19, 23, 27] .nil) (.run [15, 19, 23, 27] .nil) (.run [31] (.join [.slot 23 tBool] 16744448 [] (.split 14 (.run [35, 39, 43, 47, 51, 55, 59, 63, 67] .nil) (.run [35, 39, 43, 47] (.split 18 (.run [51, 55, 59, 63, 67] .nil) (.run [51, 55, 59, 63, 67] .nil)))) .nil))))) .d) (.seq .d (.seq (.seq .d (.blk (.loop [.slot 27 (tInt .i64), .cell 4 0 (tInt .u64), .cell 4 1 (tInt .u64)] 18446744073575333992 [4] (.seq .d (.seq .d (.seq (.blk (.seq .d (.seq .d (.join [.slot 6 (tInt .u64)] 1125898833100872 [] .d .d)))) .d)))))) .d))))
theorem w_wide_Parse : ∀ (a : Den [tStr]) (K : Den [S_api_Word.ty, (tInt .i64)] → HP) (h : H), m_wide_Parse a K h = wpF x_wide_Parse Try.f37 [tStr] [S_api_Word.ty, (tInt .i64)] h_wide_Parse a K h := fun a K h => by kernel_rfl
def s_wide_Parse : Spec Try.prog := mkSpec x_wide_Parse 37 Try.f37 [tStr] [S_api_Word.ty, (tInt .i64)] true h_wide_Parse (fun a => m_wide_Parse a) w_wide_Parse callee37 rfl
/-! sesame/wide.Text -/
def m_wide_Text (a0 : S_api_Word) (K : (ByteArray) → H → Prop) : H → Prop :=
  mLoop (fun (rec2 : (Sl × Int) → H → Prop) (s1 : Sl × Int) =>
    mIf (decide (s1.2 < 32)) (
      mNN (iMul .i64 4 s1.2) <|
      mJoin (fun (s3 : Int) =>
        mByte (ByteArray.mk #[48, 49, 50, 51, 52, 53, 54, 55, 56, 57, 97, 98, 99, 100, 101, 102]) (iAnd .u64 s3 15) fun x5 =>
        mApp 5 1 1 #[(Value.int .u8 0)] 1 [(Value.int .u8 x5)] s1.1 fun s6 =>
        rec2 (s6, (iAdd .i64 s1.2 1))
        ) (fun j4 =>
        mIf (decide (16 ≤ s1.2)) (
          mNN (iMul .i64 4 (iSub .i64 s1.2 16)) <|
          j4 (iShr .u64 a0.Hi (iMul .i64 4 (iSub .i64 s1.2 16)))
          ) (
          j4 (iShr .u64 a0.Lo (iMul .i64 4 s1.2))
          )
        )
      ) (
      mLoop (fun (rec8 : Int → H → Prop) (s7 : Int) =>
        mJoin (fun (s11 : Bool) =>
          mIf s11 (
            rec8 (iSub .i64 s7 1)
            ) (
            mMake 5 1 #[(Value.int .u8 0)] s7 s7 fun s13 =>
            mLoop (fun (rec15 : Int → H → Prop) (s14 : Int) =>
              mIf (decide (s14 < s7)) (
                mIdx s1.1 (iSub .i64 (iSub .i64 s7 1) s14) 1 fun ad16 =>
                mLoad (cInt .u8) ad16 fun x17 =>
                mIdx s13 s14 1 fun ad18 =>
                mStore ad18 [(Value.int .u8 x17)] <|
                rec15 (iAdd .i64 s14 1)
                ) (
                mText s13 fun x19 =>
                K x19
                )
              ) 0
            )
          ) (fun j12 =>
          mIf (decide (1 < s7)) (
            mIdx s1.1 (iSub .i64 s7 1) 1 fun ad20 =>
            mLoad (cInt .u8) ad20 fun x21 =>
            j12 (decide (x21 = 48))
            ) (
            j12 false
            ))
        ) 32
      )
    ) (Sl.nil, 0)
def x_wide_Text : Cx Try.prog := ⟨tys, [], [1, 29], [], mixed⟩
def h_wide_Text : Hint := (.seq .d (.seq .d (.seq (.seq .d (.blk (.loop [.slot 3 tSl, .slot 9 (tInt .i64)] 4294966840 [] (.seq .d (.seq .d (.seq (.blk (.seq .d (.seq .d (.join [.slot 5 (tInt .u64)] 33423392 [] .d .d)))) .d)))))) (.seq .d (.seq (.blk (.loop [.slot 6 (tInt .i64)] 17587891077184 [] (.seq (.seq (.reg (.run [3, 7, 11] (.join [.slot 41 tBool] 4363686772736 [] (.split 34 (.run [15, 19, 23, 27, 31, 35, 39] .nil) (.run [15, 19, 23, 27, 31, 35, 39] .nil)) .nil))) .d) .d))) (.seq .d (.seq (.seq .d (.blk (.loop [.slot 47 (tInt .i64)] 2305702271725338880 [] .d))) .d)))))))
theorem w_wide_Text : ∀ (a : Den [S_api_Word.ty]) (K : Den [tStr] → HP) (h : H), m_wide_Text a K h = wpF x_wide_Text Try.f39 [S_api_Word.ty] [tStr] h_wide_Text a K h := fun a K h => by kernel_rfl
def s_wide_Text : Spec Try.prog := mkSpec x_wide_Text 39 Try.f39 [S_api_Word.ty] [tStr] false h_wide_Text (fun a => m_wide_Text a) w_wide_Text callee39 rfl
/-! sesame/wide.Bytes -/
def m_wide_Bytes (a0 : S_api_Word) (K : (Sl) → H → Prop) : H → Prop :=
  mMake 5 1 #[(Value.int .u8 0)] 16 16 fun s1 =>
  mLoop (fun (rec3 : Int → H → Prop) (s2 : Int) =>
    mIf (decide (s2 < 8)) (
      mNN (iMul .i64 8 s2) <|
      mIdx s1 s2 1 fun ad4 =>
      mStore ad4 [(Value.int .u8 (IntKind.wrap .u8 (iShr .u64 a0.Lo (iMul .i64 8 s2))))] <|
      mNN (iMul .i64 8 s2) <|
      mIdx s1 (iAdd .i64 8 s2) 1 fun ad5 =>
      mStore ad5 [(Value.int .u8 (IntKind.wrap .u8 (iShr .u64 a0.Hi (iMul .i64 8 s2))))] <|
      rec3 (iAdd .i64 s2 1)
      ) (
      K s1
      )
    ) 0
def x_wide_Bytes : Cx Try.prog := ⟨tys, [], [1], [], mixed⟩
def h_wide_Bytes : Hint := (.seq .d (.seq .d (.seq (.seq .d (.blk (.loop [.slot 6 (tInt .i64)] 536870864 [] .d))) .d)))
theorem w_wide_Bytes : ∀ (a : Den [S_api_Word.ty]) (K : Den [tSl] → HP) (h : H), m_wide_Bytes a K h = wpF x_wide_Bytes Try.f43 [S_api_Word.ty] [tSl] h_wide_Bytes a K h := fun a K h => by kernel_rfl
def s_wide_Bytes : Spec Try.prog := mkSpec x_wide_Bytes 43 Try.f43 [S_api_Word.ty] [tSl] false h_wide_Bytes (fun a => m_wide_Bytes a) w_wide_Bytes callee43 rfl
/-! sesame/wide.Of -/
def m_wide_Of (a0 : Sl) (K : (S_api_Word × Int) → H → Prop) : H → Prop :=
  mIf (decide ((a0.len : Int) < 16)) (
    K ((⟨0, 0⟩ : S_api_Word), 17)
    ) (
    mLoop (fun (rec2 : (Int × Int × Int) → H → Prop) (s1 : Int × Int × Int) =>
      mIf (decide (s1.1 < 8)) (
        mIdx a0 s1.1 1 fun ad3 =>
        mLoad (cInt .u8) ad3 fun x4 =>
        mNN (iMul .i64 8 s1.1) <|
        mIdx a0 (iAdd .i64 8 s1.1) 1 fun ad5 =>
        mLoad (cInt .u8) ad5 fun x6 =>
        mNN (iMul .i64 8 s1.1) <|
        rec2 ((iAdd .i64 s1.1 1), (iOr .u64 s1.2.1 (iShl .u64 (IntKind.wrap .u64 x6) (iMul .i64 8 s1.1))), (iOr .u64 s1.2.2 (iShl .u64 (IntKind.wrap .u64 x4) (iMul .i64 8 s1.1))))
        ) (
        K ((⟨s1.2.1, s1.2.2⟩ : S_api_Word), 0)
        )
      ) (0, 0, 0)
    )
def x_wide_Of : Cx Try.prog := ⟨tys, [], [2, 4], [], mixed⟩
def h_wide_Of : Hint := (.seq .d (.seq .d (.seq .d (.seq (.seq .d (.blk (.loop [.slot 10 (tInt .i64), .cell 4 0 (tInt .u64), .cell 4 1 (tInt .u64)] 549755812896 [4] (.seq .d (.seq .d (.seq (.blk (.seq .d (.seq (.reg (.run [0, 8, 12, 16, 28, 32, 5, 22, 24, 36, 40, 44, 51] .nil)) (.reg (.run [0, 8, 12, 16, 20, 32, 36, 5, 26, 28, 40, 44, 48, 55] .nil))))) .d)))))) .d))))
theorem w_wide_Of : ∀ (a : Den [tSl]) (K : Den [S_api_Word.ty, (tInt .i64)] → HP) (h : H), m_wide_Of a K h = wpF x_wide_Of Try.f41 [tSl] [S_api_Word.ty, (tInt .i64)] h_wide_Of a K h := fun a K h => by kernel_rfl
def s_wide_Of : Spec Try.prog := mkSpec x_wide_Of 41 Try.f41 [tSl] [S_api_Word.ty, (tInt .i64)] false h_wide_Of (fun a => m_wide_Of a) w_wide_Of callee41 rfl
end Go.Proofs.Ytnmaknkbdfpbkaa.K
