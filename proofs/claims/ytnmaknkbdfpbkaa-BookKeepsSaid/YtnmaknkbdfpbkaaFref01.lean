/- Functions of the program, printed by a program of mine: ref01_Bit, ref01_Set, ref01_Cut, ref01_Fits, ref01_Cmp, ref01_Next, ref01_Text, ref01_Parse, ref01_Of, ref01_Bytes -/
import Derived.Test.YtnmaknkbdfpbkaaT
namespace Go.Proofs.Ytnmaknkbdfpbkaa.K
open Go Go.Proofs
/-! sesame/sesameref01.Bit -/
def m_ref01_Bit (a0 : S_api_Word) (a1 : Int) (K : (Int) → H → Prop) : H → Prop :=
  mIf (decide (a1 < 64)) (
    mNN (IntKind.wrap .u64 a1) <|
    K (IntKind.wrap .i64 (iRem .u64 (iShr .u64 a0.Lo (IntKind.wrap .u64 a1)) 2))
    ) (
    mNN (IntKind.wrap .u64 (iSub .i64 a1 64)) <|
    K (IntKind.wrap .i64 (iRem .u64 (iShr .u64 a0.Hi (IntKind.wrap .u64 (iSub .i64 a1 64))) 2))
    )
def x_ref01_Bit : Cx Try.prog := ⟨tys, [], [2], [], mixed⟩
def h_ref01_Bit : Hint := .d
theorem w_ref01_Bit : ∀ (a : Den [S_api_Word.ty, (tInt .i64)]) (K : Den [(tInt .i64)] → HP) (h : H), m_ref01_Bit a.1 a.2 K h = wpF x_ref01_Bit Try.f59 [S_api_Word.ty, (tInt .i64)] [(tInt .i64)] h_ref01_Bit a K h := fun a K h => by kernel_rfl
def s_ref01_Bit : Spec Try.prog := mkSpec x_ref01_Bit 59 Try.f59 [S_api_Word.ty, (tInt .i64)] [(tInt .i64)] true h_ref01_Bit (fun a => m_ref01_Bit a.1 a.2) w_ref01_Bit callee59 rfl
/-! sesame/sesameref01.Set -/
def m_ref01_Set (a0 : S_api_Word) (a1 : Int) (K : (S_api_Word) → H → Prop) : H → Prop :=
  mJoin (fun (s1 : Int × Int) =>
    K (⟨s1.1, s1.2⟩ : S_api_Word)
    ) (fun j2 =>
    mIf (decide (a1 < 64)) (
      mNN (IntKind.wrap .u64 a1) <|
      j2 (a0.Hi, (iOr .u64 a0.Lo (iShl .u64 1 (IntKind.wrap .u64 a1))))
      ) (
      mNN (IntKind.wrap .u64 (iSub .i64 a1 64)) <|
      j2 ((iOr .u64 a0.Hi (iShl .u64 1 (IntKind.wrap .u64 (iSub .i64 a1 64)))), a0.Lo)
      )
    )
def x_ref01_Set : Cx Try.prog := ⟨tys, [], [2, 4], [], mixed⟩
def h_ref01_Set : Hint := (.seq .d (.join [.cell 2 0 (tInt .u64), .cell 2 1 (tInt .u64)] 4194272 [2] .d .d))
theorem w_ref01_Set : ∀ (a : Den [S_api_Word.ty, (tInt .i64)]) (K : Den [S_api_Word.ty] → HP) (h : H), m_ref01_Set a.1 a.2 K h = wpF x_ref01_Set Try.f60 [S_api_Word.ty, (tInt .i64)] [S_api_Word.ty] h_ref01_Set a K h := fun a K h => by kernel_rfl
def s_ref01_Set : Spec Try.prog := mkSpec x_ref01_Set 60 Try.f60 [S_api_Word.ty, (tInt .i64)] [S_api_Word.ty] true h_ref01_Set (fun a => m_ref01_Set a.1 a.2) w_ref01_Set callee60 rfl
/-! sesame/sesameref01.Cut -/
def m_ref01_Cut (a0 : S_api_Word) (a1 : Int) (K : (S_api_Word) → H → Prop) : H → Prop :=
  mLoop (fun (rec2 : (Int × Int × Int) → H → Prop) (s1 : Int × Int × Int) =>
    mIf ((decide (s1.1 < a1)) && (decide (s1.1 < 128))) (
      mPure (m_ref01_Bit a0 s1.1) fun r3 =>
      mIf (decide (r3 = 1)) (
        mPure (m_ref01_Set (⟨s1.2.1, s1.2.2⟩ : S_api_Word) s1.1) fun r4 =>
        rec2 ((iAdd .i64 s1.1 1), r4.Hi, r4.Lo)
        ) (
        rec2 ((iAdd .i64 s1.1 1), s1.2.1, s1.2.2)
        )
      ) (
      K (⟨s1.2.1, s1.2.2⟩ : S_api_Word)
      )
    ) (0, 0, 0)
def x_ref01_Cut : Cx Try.prog := ⟨tys, [s_ref01_Bit, s_ref01_Set], [2, 4, 5], [], mixed⟩
def h_ref01_Cut : Hint := (.seq .d (.seq .d (.seq (.seq .d (.blk (.loop [.slot 6 (tInt .i64), .cell 5 0 (tInt .u64), .cell 5 1 (tInt .u64)] 8388544 [5] (.seq (.seq (.reg (.run [3, 7, 11, 15] (.sel 10 13 14336 (.run [19, 23, 27] .nil) (.run [19, 23, 27] .nil) .nil))) .d) .d)))) .d)))
theorem w_ref01_Cut : ∀ (a : Den [S_api_Word.ty, (tInt .i64)]) (K : Den [S_api_Word.ty] → HP) (h : H), m_ref01_Cut a.1 a.2 K h = wpF x_ref01_Cut Try.f34 [S_api_Word.ty, (tInt .i64)] [S_api_Word.ty] h_ref01_Cut a K h := fun a K h => by kernel_rfl
def s_ref01_Cut : Spec Try.prog := mkSpec x_ref01_Cut 34 Try.f34 [S_api_Word.ty, (tInt .i64)] [S_api_Word.ty] true h_ref01_Cut (fun a => m_ref01_Cut a.1 a.2) w_ref01_Cut callee34 rfl
/-! sesame/sesameref01.Fits -/
def m_ref01_Fits (a0 : S_api_Word) (a1 : Int) (K : (Bool) → H → Prop) : H → Prop :=
  mIf (decide (a1 < 1)) (
    K false
    ) (
    mLoop (fun (rec2 : Int → H → Prop) (s1 : Int) =>
      mIf (decide (s1 < 128)) (
        mPure (m_ref01_Bit a0 s1) fun r3 =>
        mIf (decide (r3 = 1)) (
          K false
          ) (
          rec2 (iAdd .i64 s1 1)
          )
        ) (
        K true
        )
      ) a1
    )
def x_ref01_Fits : Cx Try.prog := ⟨tys, [s_ref01_Bit], [2], [], mixed⟩
def h_ref01_Fits : Hint := (.seq .d (.seq .d (.seq (.seq .d (.blk (.loop [.slot 5 (tInt .i64)] 130608 [] .d))) .d)))
theorem w_ref01_Fits : ∀ (a : Den [S_api_Word.ty, (tInt .i64)]) (K : Den [tBool] → HP) (h : H), m_ref01_Fits a.1 a.2 K h = wpF x_ref01_Fits Try.f33 [S_api_Word.ty, (tInt .i64)] [tBool] h_ref01_Fits a K h := fun a K h => by kernel_rfl
def s_ref01_Fits : Spec Try.prog := mkSpec x_ref01_Fits 33 Try.f33 [S_api_Word.ty, (tInt .i64)] [tBool] true h_ref01_Fits (fun a => m_ref01_Fits a.1 a.2) w_ref01_Fits callee33 rfl
/-! sesame/sesameref01.Cmp -/
def m_ref01_Cmp (a0 : S_api_Word) (a1 : S_api_Word) (K : (Int) → H → Prop) : H → Prop :=
  mLoop (fun (rec2 : Int → H → Prop) (s1 : Int) =>
    mIf (decide (0 ≤ s1)) (
      mPure (m_ref01_Bit a0 s1) fun r3 =>
      mPure (m_ref01_Bit a1 s1) fun r4 =>
      mIf (!decide (r3 = r4)) (
        mPure (m_ref01_Bit a0 s1) fun r5 =>
        mPure (m_ref01_Bit a1 s1) fun r6 =>
        K (iSub .i64 r5 r6)
        ) (
        rec2 (iSub .i64 s1 1)
        )
      ) (
      K 0
      )
    ) 127
def x_ref01_Cmp : Cx Try.prog := ⟨tys, [s_ref01_Bit], [2, 3], [], mixed⟩
def h_ref01_Cmp : Hint := (.seq .d (.seq (.seq .d (.blk (.loop [.slot 5 (tInt .i64)] 16777200 [] (.seq .d (.seq (.blk (.seq (.reg (.run [4, 16, 1, 8, 13, 20, 24] .nil)) (.cond (.seq (.reg (.run [4, 16, 1, 8, 13, 20, 24, 28] .nil)) .d) .d))) .d))))) .d))
theorem w_ref01_Cmp : ∀ (a : Den [S_api_Word.ty, S_api_Word.ty]) (K : Den [(tInt .i64)] → HP) (h : H), m_ref01_Cmp a.1 a.2 K h = wpF x_ref01_Cmp Try.f35 [S_api_Word.ty, S_api_Word.ty] [(tInt .i64)] h_ref01_Cmp a K h := fun a K h => by kernel_rfl
def s_ref01_Cmp : Spec Try.prog := mkSpec x_ref01_Cmp 35 Try.f35 [S_api_Word.ty, S_api_Word.ty] [(tInt .i64)] true h_ref01_Cmp (fun a => m_ref01_Cmp a.1 a.2) w_ref01_Cmp callee35 rfl
/-! sesame/sesameref01.Next -/
def m_ref01_Next (a0 : S_api_Word) (a1 : Int) (K : (S_api_Word × Bool) → H → Prop) : H → Prop :=
  mPure (m_ref01_Fits a0 a1) fun r1 =>
  mIf (!r1) (
    K ((⟨0, 0⟩ : S_api_Word), false)
    ) (
    mLoop (fun (rec3 : Int → H → Prop) (s2 : Int) =>
      mIf ((decide (s2 < a1)) && (decide (s2 < 128))) (
        mPure (m_ref01_Bit a0 s2) fun r4 =>
        mIf (decide (r4 = 0)) (
          mLoop (fun (rec6 : (Int × Int × Int) → H → Prop) (s5 : Int × Int × Int) =>
            mIf (decide (s5.1 < 128)) (
              mPure (m_ref01_Bit a0 s5.1) fun r7 =>
              mIf (decide (r7 = 1)) (
                mPure (m_ref01_Set (⟨s5.2.1, s5.2.2⟩ : S_api_Word) s5.1) fun r8 =>
                rec6 ((iAdd .i64 s5.1 1), r8.Hi, r8.Lo)
                ) (
                rec6 ((iAdd .i64 s5.1 1), s5.2.1, s5.2.2)
                )
              ) (
              mPure (m_ref01_Set (⟨s5.2.1, s5.2.2⟩ : S_api_Word) s2) fun r9 =>
              K (r9, true)
              )
            ) ((iAdd .i64 s2 1), 0, 0)
          ) (
          rec3 (iAdd .i64 s2 1)
          )
        ) (
        K ((⟨0, 0⟩ : S_api_Word), false)
        )
      ) 0
    )
def x_ref01_Next : Cx Try.prog := ⟨tys, [s_ref01_Fits, s_ref01_Bit, s_ref01_Set], [2, 4, 7], [], mixed⟩
def h_ref01_Next : Hint := (.seq .d (.seq .d (.seq (.seq .d (.blk (.loop [.slot 6 (tInt .i64)] 8796093006304 [] (.seq (.seq (.reg (.run [3, 7, 11, 15] (.sel 17 20 1835008 (.run [19, 23, 27] .nil) (.run [19, 23, 27] .nil) .nil))) .d) (.seq (.blk (.seq .d (.cond (.seq .d (.seq (.seq .d (.blk (.loop [.slot 8 (tInt .i64), .cell 7 0 (tInt .u64), .cell 7 1 (tInt .u64)] 1098974757120 [7] .d))) .d)) .d))) .d))))) .d)))
theorem w_ref01_Next : ∀ (a : Den [S_api_Word.ty, (tInt .i64)]) (K : Den [S_api_Word.ty, tBool] → HP) (h : H), m_ref01_Next a.1 a.2 K h = wpF x_ref01_Next Try.f36 [S_api_Word.ty, (tInt .i64)] [S_api_Word.ty, tBool] h_ref01_Next a K h := fun a K h => by kernel_rfl
def s_ref01_Next : Spec Try.prog := mkSpec x_ref01_Next 36 Try.f36 [S_api_Word.ty, (tInt .i64)] [S_api_Word.ty, tBool] true h_ref01_Next (fun a => m_ref01_Next a.1 a.2) w_ref01_Next callee36 rfl
/-! sesame/sesameref01.Text -/
def m_ref01_Text (a0 : S_api_Word) (K : (ByteArray) → H → Prop) : H → Prop :=
  mLoop (fun (rec2 : (ByteArray × Int) → H → Prop) (s1 : ByteArray × Int) =>
    mIf (decide (0 ≤ s1.2)) (
      mPure (m_ref01_Bit a0 (iMul .i64 4 s1.2)) fun r3 =>
      mPure (m_ref01_Bit a0 (iAdd .i64 (iMul .i64 4 s1.2) 1)) fun r4 =>
      mPure (m_ref01_Bit a0 (iAdd .i64 (iMul .i64 4 s1.2) 2)) fun r5 =>
      mPure (m_ref01_Bit a0 (iAdd .i64 (iMul .i64 4 s1.2) 3)) fun r6 =>
      mIf (((decide (0 < (iAdd .i64 (iAdd .i64 (iAdd .i64 r3 (iMul .i64 2 r4)) (iMul .i64 4 r5)) (iMul .i64 8 r6)))) || (!(s1.1.toList == (ByteArray.mk #[]).toList))) || (decide (s1.2 = 0))) (
        mSub (ByteArray.mk #[48, 49, 50, 51, 52, 53, 54, 55, 56, 57, 97, 98, 99, 100, 101, 102]) (iAdd .i64 (iAdd .i64 (iAdd .i64 r3 (iMul .i64 2 r4)) (iMul .i64 4 r5)) (iMul .i64 8 r6)) (iAdd .i64 (iAdd .i64 (iAdd .i64 (iAdd .i64 r3 (iMul .i64 2 r4)) (iMul .i64 4 r5)) (iMul .i64 8 r6)) 1) fun s7 =>
        mCat s1.1 s7 fun x8 =>
        rec2 (x8, (iSub .i64 s1.2 1))
        ) (
        rec2 (s1.1, (iSub .i64 s1.2 1))
        )
      ) (
      K s1.1
      )
    ) ((ByteArray.mk #[]), 31)
def x_ref01_Text : Cx Try.prog := ⟨tys, [s_ref01_Bit], [1], [], mixed⟩
def h_ref01_Text : Hint := (.seq .d (.seq .d (.seq .d (.seq (.seq .d (.blk (.loop [.slot 4 tStr, .slot 5 (tInt .i64)] 9007199254740976 [] (.seq .d (.seq (.blk (.seq (.reg (.run [4, 8, 20, 24, 28, 48, 52, 56, 76, 80, 84, 1, 12, 17, 32, 36, 40, 45, 60, 64, 68, 73, 88, 92, 96, 100] .nil)) (.seq (.reg (.run [3, 7, 11] (.sel 38 41 3848290697216 (.run [15, 19, 23] .nil) (.run [15, 19, 23] .nil) (.run [27] (.sel 42 45 61572651155456 (.run [31, 35, 39] .nil) (.run [31, 35, 39] .nil) .nil))))) .d))) .d))))) .d))))
theorem w_ref01_Text : ∀ (a : Den [S_api_Word.ty]) (K : Den [tStr] → HP) (h : H), m_ref01_Text a K h = wpF x_ref01_Text Try.f40 [S_api_Word.ty] [tStr] h_ref01_Text a K h := fun a K h => by kernel_rfl
def s_ref01_Text : Spec Try.prog := mkSpec x_ref01_Text 40 Try.f40 [S_api_Word.ty] [tStr] true h_ref01_Text (fun a => m_ref01_Text a) w_ref01_Text callee40 rfl
/-! sesame/sesameref01.Parse -/
def m_ref01_Parse (a0 : ByteArray) (K : (S_api_Word × Int) → H → Prop) : H → Prop :=
  mIf ((decide ((a0.size : Int) < 1)) || (decide (32 < (a0.size : Int)))) (
    K ((⟨0, 0⟩ : S_api_Word), 22)
    ) (
    mLoop (fun (rec2 : (Int × Int × Int) → H → Prop) (s1 : Int × Int × Int) =>
      mIf (decide (s1.1 < (a0.size : Int))) (
        mJoin (fun (s3 : Int) =>
          mLoop (fun (rec6 : (Int × Int × Int) → H → Prop) (s5 : Int × Int × Int) =>
            mIf (decide (s5.1 < 4)) (
              mNN (IntKind.wrap .u64 s5.1) <|
              mIf (decide ((iRem .i64 (iShr .i64 s3 (IntKind.wrap .u64 s5.1)) 2) = 1)) (
                mPure (m_ref01_Set (⟨s5.2.1, s5.2.2⟩ : S_api_Word) (iAdd .i64 (iMul .i64 4 (iSub .i64 (iSub .i64 (a0.size : Int) 1) s1.1)) s5.1)) fun r7 =>
                rec6 ((iAdd .i64 s5.1 1), r7.Hi, r7.Lo)
                ) (
                rec6 ((iAdd .i64 s5.1 1), s5.2.1, s5.2.2)
                )
              ) (
              rec2 ((iAdd .i64 s1.1 1), s5.2.1, s5.2.2)
              )
            ) (0, s1.2.1, s1.2.2)
          ) (fun j4 =>
          mByte a0 s1.1 fun x8 =>
          mJoin (fun (s10 : Bool) =>
            mIf s10 (
              mByte a0 s1.1 fun x12 =>
              j4 (IntKind.wrap .i64 (iSub .u8 x12 48))
              ) (
              mByte a0 s1.1 fun x13 =>
              mJoin (fun (s15 : Bool) =>
                mIf s15 (
                  mByte a0 s1.1 fun x17 =>
                  j4 (iAdd .i64 (IntKind.wrap .i64 (iSub .u8 x17 97)) 10)
                  ) (
                  K ((⟨0, 0⟩ : S_api_Word), 22)
                  )
                ) (fun j16 =>
                mIf (decide (97 ≤ x13)) (
                  mByte a0 s1.1 fun x18 =>
                  j16 (decide (x18 ≤ 102))
                  ) (
                  j16 false
                  ))
              )
            ) (fun j11 =>
            mIf (decide (48 ≤ x8)) (
              mByte a0 s1.1 fun x19 =>
              j11 (decide (x19 ≤ 57))
              ) (
              j11 false
              ))
          )
        ) (
        mPure (m_ref01_Text (⟨s1.2.1, s1.2.2⟩ : S_api_Word)) fun r20 =>
        mIf (!(r20.toList == a0.toList)) (
          K ((⟨0, 0⟩ : S_api_Word), 22)
          ) (
          K ((⟨s1.2.1, s1.2.2⟩ : S_api_Word), 0)
          )
        )
      ) (0, 0, 0)
    )
def x_ref01_Parse : Cx Try.prog := ⟨tys, [s_ref01_Text, s_ref01_Set], [2, 4], [], mixed⟩
def h_ref01_Parse : Hint := (.seq .d (.seq (.seq (.reg (.run [3, 7, 11, 15] (.sel 12 16 122880 (.run [19, 23, 27, 31] .nil) (.run [19, 23, 27, 31] .nil) .nil))) .d) (.seq .d (.seq (.seq .d (.blk (.loop [.slot 5 (tInt .i64), .cell 4 0 (tInt .u64), .cell 4 1 (tInt .u64)] 604462909807314587091432 [4] (.seq .d (.seq (.blk (.seq .d (.join [.slot 6 (tInt .i64)] 288230376134934600 [] (.blk (.seq (.reg (.run [3, 7, 11, 15, 19] (.join [.slot 35 tBool] 66571993088 [] (.split 30 (.run [23, 27, 31, 35, 39] .nil) (.run [23, 27, 31, 35, 39] .nil)) (.run [43] .nil)))) (.cond .d (.seq (.reg (.run [3, 7, 11, 15, 19] (.join [.slot 51 tBool] 4362862139015168 [] (.split 46 (.run [23, 27, 31, 35, 39] .nil) (.run [23, 27, 31, 35, 39] .nil)) (.run [43] .nil)))) .d)))) (.seq .d (.seq .d (.blk (.loop [.slot 8 (tInt .i64), .cell 4 0 (tInt .u64), .cell 4 1 (tInt .u64)] 604444463063240877801728 [4] .d))))))) .d))))) .d))))
theorem w_ref01_Parse : ∀ (a : Den [tStr]) (K : Den [S_api_Word.ty, (tInt .i64)] → HP) (h : H), m_ref01_Parse a K h = wpF x_ref01_Parse Try.f38 [tStr] [S_api_Word.ty, (tInt .i64)] h_ref01_Parse a K h := fun a K h => by kernel_rfl
def s_ref01_Parse : Spec Try.prog := mkSpec x_ref01_Parse 38 Try.f38 [tStr] [S_api_Word.ty, (tInt .i64)] true h_ref01_Parse (fun a => m_ref01_Parse a) w_ref01_Parse callee38 rfl
/-! sesame/sesameref01.Of -/
def m_ref01_Of (a0 : Sl) (K : (S_api_Word × Int) → H → Prop) : H → Prop :=
  mIf (decide ((a0.len : Int) < 16)) (
    K ((⟨0, 0⟩ : S_api_Word), 17)
    ) (
    mLoop (fun (rec2 : (Int × Int × Int) → H → Prop) (s1 : Int × Int × Int) =>
      mIf (decide (s1.1 < 128)) (
        mIdx a0 (iQuo .i64 s1.1 8) 1 fun ad3 =>
        mLoad (cInt .u8) ad3 fun x4 =>
        mNN (IntKind.wrap .u64 (iRem .i64 s1.1 8)) <|
        mIf (decide ((iRem .u8 (iShr .u8 x4 (IntKind.wrap .u64 (iRem .i64 s1.1 8))) 2) = 1)) (
          mPure (m_ref01_Set (⟨s1.2.1, s1.2.2⟩ : S_api_Word) s1.1) fun r5 =>
          rec2 ((iAdd .i64 s1.1 1), r5.Hi, r5.Lo)
          ) (
          rec2 ((iAdd .i64 s1.1 1), s1.2.1, s1.2.2)
          )
        ) (
        K ((⟨s1.2.1, s1.2.2⟩ : S_api_Word), 0)
        )
      ) (0, 0, 0)
    )
def x_ref01_Of : Cx Try.prog := ⟨tys, [s_ref01_Set], [2, 4], [], mixed⟩
def h_ref01_Of : Hint := (.seq .d (.seq .d (.seq .d (.seq (.seq .d (.blk (.loop [.slot 5 (tInt .i64), .cell 4 0 (tInt .u64), .cell 4 1 (tInt .u64)] 268434464 [4] .d))) .d))))
theorem w_ref01_Of : ∀ (a : Den [tSl]) (K : Den [S_api_Word.ty, (tInt .i64)] → HP) (h : H), m_ref01_Of a K h = wpF x_ref01_Of Try.f42 [tSl] [S_api_Word.ty, (tInt .i64)] h_ref01_Of a K h := fun a K h => by kernel_rfl
def s_ref01_Of : Spec Try.prog := mkSpec x_ref01_Of 42 Try.f42 [tSl] [S_api_Word.ty, (tInt .i64)] false h_ref01_Of (fun a => m_ref01_Of a) w_ref01_Of callee42 rfl
/-! sesame/sesameref01.Bytes -/
def m_ref01_Bytes (a0 : S_api_Word) (K : (Sl) → H → Prop) : H → Prop :=
  mLoop (fun (rec2 : (Sl × Int) → H → Prop) (s1 : Sl × Int) =>
    mIf (decide (s1.2 < 16)) (
      mLoop (fun (rec4 : (Int × Int) → H → Prop) (s3 : Int × Int) =>
        mIf (decide (0 ≤ s3.2)) (
          mPure (m_ref01_Bit a0 (iAdd .i64 (iMul .i64 8 s1.2) s3.2)) fun r5 =>
          rec4 ((iAdd .i64 (iMul .i64 2 s3.1) r5), (iSub .i64 s3.2 1))
          ) (
          mApp 5 1 1 #[(Value.int .u8 0)] 1 [(Value.int .u8 (IntKind.wrap .u8 s3.1))] s1.1 fun s6 =>
          rec2 (s6, (iAdd .i64 s1.2 1))
          )
        ) (0, 7)
      ) (
      K s1.1
      )
    ) (Sl.nil, 0)
def x_ref01_Bytes : Cx Try.prog := ⟨tys, [s_ref01_Bit], [1, 27], [], mixed⟩
def h_ref01_Bytes : Hint := (.seq .d (.seq .d (.seq (.seq .d (.blk (.loop [.slot 3 tSl, .slot 4 (tInt .i64)] 536870904 [] (.seq .d (.seq (.blk (.seq .d (.seq (.seq .d (.blk (.loop [.slot 5 (tInt .i64), .slot 6 (tInt .i64)] 16775264 [] .d))) .d))) .d))))) .d)))
theorem w_ref01_Bytes : ∀ (a : Den [S_api_Word.ty]) (K : Den [tSl] → HP) (h : H), m_ref01_Bytes a K h = wpF x_ref01_Bytes Try.f44 [S_api_Word.ty] [tSl] h_ref01_Bytes a K h := fun a K h => by kernel_rfl
def s_ref01_Bytes : Spec Try.prog := mkSpec x_ref01_Bytes 44 Try.f44 [S_api_Word.ty] [tSl] false h_ref01_Bytes (fun a => m_ref01_Bytes a) w_ref01_Bytes callee44 rfl
end Go.Proofs.Ytnmaknkbdfpbkaa.K
