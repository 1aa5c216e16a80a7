/- Functions of the program, printed by a program of mine: law07_same, law07_head, law07_StoreLives, law07_begins, law07_lent -/
import Derived.Test.YteeaelemfalkbaaT
import Derived.Test.YteeaelemfalkbaaFref07
import Derived.Test.YteeaelemfalkbaaFstore
namespace Go.Proofs.Yteeaelemfalkbaa.K
open Go Go.Proofs
/-! sesame/sesamelaw07.same -/
def m_law07_same (a0 : Sl) (a1 : Sl) (K : (Bool) → H → Prop) : H → Prop :=
  mText a0 fun x1 =>
  mText a1 fun x2 =>
  K (x1.toList == x2.toList)
def x_law07_same : Cx Try.prog := ⟨tys, [], [], [], mixed⟩
def h_law07_same : Hint := .d
theorem w_law07_same : ∀ (a : Den [tSl, tSl]) (K : Den [tBool] → HP) (h : H), m_law07_same a.1 a.2 K h = wpF x_law07_same Try.f21 [tSl, tSl] [tBool] h_law07_same a K h := fun a K h => by kernel_rfl
def s_law07_same : Spec Try.prog := mkSpec x_law07_same 21 Try.f21 [tSl, tSl] [tBool] false h_law07_same (fun a => m_law07_same a.1 a.2) w_law07_same callee21 rfl
/-! sesame/sesamelaw07.head -/
def m_law07_head (K : (Bool) → H → Prop) : H → Prop :=
  m_store_New 2 3 fun r1 =>
  mIf ((!decide (r1.2 = 0)) || (r1.1.isNone)) (
    K false
    ) (
    m_store_Store_Create r1.1 65 fun r2 =>
    m_store_Store_Create r1.1 65 fun r3 =>
    m_store_Store_Create r1.1 0 fun r4 =>
    mNew 5 #[(Value.int .u8 7), (Value.int .u8 8), (Value.int .u8 9)] fun ad5 =>
    m_store_Store_Write r1.1 1 62 (⟨some ad5, 3, 3⟩ : Sl) fun r6 =>
    m_store_Store_Read r1.1 1 61 4 fun r7 =>
    mJoin (fun (s10 : Bool) =>
      mJoin (fun (s13 : Bool) =>
        mIf s13 (
          m_store_Store_Next r1.1 fun r16 =>
          K (decide (r16 = 3))
          ) (
          K false
          )
        ) (fun j14 =>
        mIf s10 (
          m_store_Store_Free r1.1 fun r17 =>
          j14 (decide (r17 = 1))
          ) (
          j14 false
          ))
      ) (fun j11 =>
      mIf (((((((decide (r2.2 = 0)) && (decide (r3.2 = 8))) && (decide (r4.2 = 0))) && (decide (r2.1 = 1))) && (decide (r4.1 = 2))) && (decide (r6 = 0))) && (decide (r7.2 = 0))) (
        mNew 5 #[(Value.int .u8 0), (Value.int .u8 7), (Value.int .u8 8), (Value.int .u8 9)] fun ad18 =>
        m_law07_same r7.1 (⟨some ad18, 4, 4⟩ : Sl) fun r19 =>
        j11 r19
        ) (
        j11 false
        ))
    )
def x_law07_head : Cx Try.prog := ⟨tys, [s_store_New, s_store_Store_Create, s_store_Store_Free, s_store_Store_Read, s_law07_same, s_store_Store_Write, s_store_Store_Next], [], [], mixed⟩
def h_law07_head : Hint := (.seq .d (.seq .d (.seq (.seq (.reg (.run [3, 7, 11] (.sel 17 20 1835008 (.run [15, 19, 23] .nil) (.run [15, 19, 23] .nil) .nil))) .d) (.seq .d (.seq .d (.seq .d (.seq .d (.seq .d (.seq (.reg (.run [3, 7, 11] (.sel 46 49 985162418487296 (.run [15, 19, 23] .nil) (.run [15, 19, 23] .nil) (.run [27] (.sel 50 53 15762598695796736 (.run [31, 35, 39] .nil) (.run [31, 35, 39] .nil) (.run [43] (.sel 54 57 252201579132747776 (.run [47, 51, 55] .nil) (.run [47, 51, 55] .nil) (.run [59] (.sel 58 61 4035225266123964416 (.run [63, 67, 71] .nil) (.run [63, 67, 71] .nil) (.run [75] (.sel 62 65 64563604257983430656 (.run [79, 83, 87] .nil) (.run [79, 83, 87] .nil) (.run [91] (.sel 66 69 1033017668127734890496 (.run [95, 99, 103] .nil) (.run [95, 99, 103] .nil) (.run [107] (.join [.slot 74 tBool] 35417748621522339102720 [] (.split 70 (.run [111, 115, 119, 123] .nil) (.run [111, 115, 119, 123] .nil)) (.run [127] (.join [.slot 79 tBool] 1133367955888714851287040 [] (.split 75 (.run [131, 135, 139, 143] .nil) (.run [131, 135, 139, 143] .nil)) (.run [147] (.split 80 (.run [151, 155, 159, 163, 167] .nil) (.run [151, 155, 159, 163, 167] .nil)))))))))))))))))))) .d)))))))))
theorem w_law07_head : ∀ (a : Den []) (K : Den [tBool] → HP) (h : H), m_law07_head K h = wpF x_law07_head Try.f17 [] [tBool] h_law07_head a K h := fun a K h => by kernel_rfl
def s_law07_head : Spec Try.prog := mkSpec x_law07_head 17 Try.f17 [] [tBool] false h_law07_head (fun _ => m_law07_head) w_law07_head callee17 rfl
/-! sesame/sesamelaw07.StoreLives -/
def m_law07_StoreLives (a0 : Sl) (K : (Bool) → H → Prop) : H → Prop :=
  m_store_New 8 32 fun r1 =>
  m_law07_head fun r2 =>
  mIf (((!r2) || (!decide (r1.2 = 0))) || (r1.1.isNone)) (
    K false
    ) (
    mLoop (fun (rec4 : (Sl × Sl × Sl × Int × Int) → H → Prop) (s3 : Sl × Sl × Sl × Int × Int) =>
      mIf (decide (s3.2.2.2.2 < (a0.len : Int))) (
        mIdx a0 s3.2.2.2.2 4 fun ad5 =>
        mLoad (cInt .i64) (ad5.add 0) fun x6 =>
        mLoop (fun (rec8 : (Int × Int) → H → Prop) (s7 : Int × Int) =>
          mIf (decide (s7.2 < (s3.1.len : Int))) (
            mIdx s3.2.1 s7.2 1 fun ad9 =>
            mLoad (cInt .i64) ad9 fun x10 =>
            rec8 ((iAdd .i64 s7.1 (iQuo .i64 (iAdd .i64 x10 63) 64)), (iAdd .i64 s7.2 1))
            ) (
            m_store_Store_Create r1.1 (iAnd .i64 x6 1023) fun r11 =>
            m_store_Store_Free r1.1 fun r12 =>
            mIf ((decide ((iSub .i64 32 s7.1) < r12)) || (!((decide (r11.2 = 0)) == ((decide ((s3.1.len : Int) < 8)) && (decide ((iQuo .i64 (iAdd .i64 (iAnd .i64 x6 1023) 63) 64) ≤ (iSub .i64 32 s7.1))))))) (
              K false
              ) (
              mJoin (fun (s13 : Sl × Sl × Sl × Int) =>
                mIf (decide ((s13.1.len : Int) = 0)) (
                  rec4 (s13.1, s13.2.1, s13.2.2.1, s13.2.2.2, (iAdd .i64 s3.2.2.2.2 1))
                  ) (
                  mIdx a0 s3.2.2.2.2 4 fun ad15 =>
                  mLoad (cInt .i64) (ad15.add 1) fun x16 =>
                  mNZ (s13.1.len : Int) <|
                  mIdx a0 s3.2.2.2.2 4 fun ad17 =>
                  mLoad (cInt .i64) (ad17.add 1) fun x18 =>
                  mIdx s13.1 (iRem .i64 (iAnd .i64 x16 255) (s13.1.len : Int)) 1 fun ad19 =>
                  mIdx a0 s3.2.2.2.2 4 fun ad20 =>
                  mLoad (cInt .i64) ad19 fun x21 =>
                  mLoad cSl (ad20.add 2) fun x22 =>
                  m_store_Store_Write r1.1 x21 (iAnd .i64 x18 1023) x22 fun r23 =>
                  mIdx a0 s3.2.2.2.2 4 fun ad24 =>
                  mIdx s13.2.1 (iRem .i64 (iAnd .i64 x16 255) (s13.1.len : Int)) 1 fun ad25 =>
                  mLoad cSl (ad24.add 2) fun x26 =>
                  mLoad (cInt .i64) ad25 fun x27 =>
                  mJoin (fun (s30 : Bool) =>
                    mIf (!((decide (r23 = 0)) == s30)) (
                      K false
                      ) (
                      mLoop (fun (rec33 : Int → H → Prop) (s32 : Int) =>
                        mJoin (fun (s36 : Bool) =>
                          mIf s36 (
                            mIdx s13.2.2.1 (iRem .i64 (iAnd .i64 x16 255) (s13.1.len : Int)) 1 fun ad38 =>
                            mIdx a0 s3.2.2.2.2 4 fun ad39 =>
                            mLoad cSl ad38 fun x40 =>
                            mLoad cSl (ad39.add 2) fun x41 =>
                            mIdx x41 s32 1 fun ad42 =>
                            mLoad (cInt .u8) ad42 fun x43 =>
                            mIdx x40 (iAdd .i64 (iAnd .i64 x18 1023) s32) 1 fun ad44 =>
                            mStore ad44 [(Value.int .u8 x43)] <|
                            rec33 (iAdd .i64 s32 1)
                            ) (
                            mLoop (fun (rec46 : Int → H → Prop) (s45 : Int) =>
                              mIf (decide (s45 < (s13.1.len : Int))) (
                                mIdx s13.1 s45 1 fun ad47 =>
                                mIdx s13.2.1 s45 1 fun ad48 =>
                                mLoad (cInt .i64) ad47 fun x49 =>
                                mLoad (cInt .i64) ad48 fun x50 =>
                                m_store_Store_Read r1.1 x49 0 x50 fun r51 =>
                                mJoin (fun (s55 : Bool) =>
                                  mIf s55 (
                                    K false
                                    ) (
                                    rec46 (iAdd .i64 s45 1)
                                    )
                                  ) (fun j56 =>
                                  mIf (!decide (r51.2 = 0)) (
                                    j56 true
                                    ) (
                                    mIdx s13.2.2.1 s45 1 fun ad57 =>
                                    mLoad cSl ad57 fun x58 =>
                                    m_law07_same r51.1 x58 fun r59 =>
                                    j56 (!r59)
                                    ))
                                ) (
                                mIdx a0 s3.2.2.2.2 4 fun ad60 =>
                                mLoad cBool (ad60.add 3) fun x61 =>
                                mIf x61 (
                                  mIdx s13.1 (iRem .i64 (iAnd .i64 x16 255) (s13.1.len : Int)) 1 fun ad62 =>
                                  mLoad (cInt .i64) ad62 fun x63 =>
                                  m_store_Store_Destroy r1.1 x63 fun r64 =>
                                  mJoin (fun (s68 : Bool) =>
                                    mIf s68 (
                                      K false
                                      ) (
                                      mCut3 s13.1 0 (iRem .i64 (iAnd .i64 x16 255) (s13.1.len : Int)) (iRem .i64 (iAnd .i64 x16 255) (s13.1.len : Int)) 1 fun s70 =>
                                      mCut s13.1 (iAdd .i64 (iRem .i64 (iAnd .i64 x16 255) (s13.1.len : Int)) 1) (s13.1.len : Int) 1 fun s71 =>
                                      mCut3 s13.2.1 0 (iRem .i64 (iAnd .i64 x16 255) (s13.1.len : Int)) (iRem .i64 (iAnd .i64 x16 255) (s13.1.len : Int)) 1 fun s72 =>
                                      mCut s13.2.1 (iAdd .i64 (iRem .i64 (iAnd .i64 x16 255) (s13.1.len : Int)) 1) (s13.2.1.len : Int) 1 fun s73 =>
                                      mCut3 s13.2.2.1 0 (iRem .i64 (iAnd .i64 x16 255) (s13.1.len : Int)) (iRem .i64 (iAnd .i64 x16 255) (s13.1.len : Int)) 1 fun s74 =>
                                      mCut s13.2.2.1 (iAdd .i64 (iRem .i64 (iAnd .i64 x16 255) (s13.1.len : Int)) 1) (s13.2.2.1.len : Int) 1 fun s75 =>
                                      mAppend 3 1 8 #[(Value.int .i64 0)] s70 s71 fun s76 =>
                                      mAppend 3 1 8 #[(Value.int .i64 0)] s72 s73 fun s77 =>
                                      mAppend 30 1 24 #[(Sl.val Sl.nil)] s74 s75 fun s78 =>
                                      rec4 (s76, s77, s78, s13.2.2.2, (iAdd .i64 s3.2.2.2.2 1))
                                      )
                                    ) (fun j69 =>
                                    mIf (!decide (r64 = 0)) (
                                      j69 true
                                      ) (
                                      mIdx s13.1 (iRem .i64 (iAnd .i64 x16 255) (s13.1.len : Int)) 1 fun ad79 =>
                                      mLoad (cInt .i64) ad79 fun x80 =>
                                      m_store_Store_Destroy r1.1 x80 fun r81 =>
                                      j69 (!decide (r81 = 20))
                                      ))
                                  ) (
                                  rec4 (s13.1, s13.2.1, s13.2.2.1, s13.2.2.2, (iAdd .i64 s3.2.2.2.2 1))
                                  )
                                )
                              ) 0
                            )
                          ) (fun j37 =>
                          mIf (decide (r23 = 0)) (
                            mIdx a0 s3.2.2.2.2 4 fun ad82 =>
                            mLoad cSl (ad82.add 2) fun x83 =>
                            j37 (decide (s32 < (x83.len : Int)))
                            ) (
                            j37 false
                            ))
                        ) 0
                      )
                    ) (fun j31 =>
                    mIf (decide ((iAdd .i64 (iAnd .i64 x18 1023) (x26.len : Int)) ≤ x27)) (
                      mIdx a0 s3.2.2.2.2 4 fun ad84 =>
                      mLoad cSl (ad84.add 2) fun x85 =>
                      j31 (decide ((x85.len : Int) ≤ 1024))
                      ) (
                      j31 false
                      ))
                  )
                ) (fun j14 =>
                mIf (decide (r11.2 = 0)) (
                  m_store_Store_Read r1.1 r11.1 0 (iAnd .i64 x6 1023) fun r86 =>
                  mJoin (fun (s89 : Bool) =>
                    mIf s89 (
                      K false
                      ) (
                      mJoin (fun (s91 : Sl × Sl × Sl) =>
                        mAppend 30 1 24 #[(Sl.val Sl.nil)] s3.2.2.1 s91.2.2 fun s190 =>
                        j14 (s91.1, s91.2.1, s190, r11.1)
                        ) (fun j92 =>
                        mBoth (
                          mBoth (
                            mApp 3 1 8 #[(Value.int .i64 0)] 1 [(Value.int .i64 r11.1)] s3.1 fun s93 =>
                            mBoth (
                              mBoth (
                                mApp 3 1 8 #[(Value.int .i64 0)] 1 [(Value.int .i64 (iAnd .i64 x6 1023))] s3.2.1 fun s94 =>
                                mMake 5 1 #[(Value.int .u8 0)] (iAnd .i64 x6 1023) (iAnd .i64 x6 1023) fun s95 =>
                                mNew 30 #[(Sl.val s95)] fun ad96 =>
                                j92 (s93, s94, (⟨some ad96, 1, 1⟩ : Sl))
                                ) (
                                mMake 5 1 #[(Value.int .u8 0)] (iAnd .i64 x6 1023) (iAnd .i64 x6 1023) fun s97 =>
                                mBoth (
                                  mApp 3 1 8 #[(Value.int .i64 0)] 1 [(Value.int .i64 (iAnd .i64 x6 1023))] s3.2.1 fun s98 =>
                                  mNew 30 #[(Sl.val s97)] fun ad99 =>
                                  j92 (s93, s98, (⟨some ad99, 1, 1⟩ : Sl))
                                  ) (
                                  mNew 30 #[(Sl.val s97)] fun ad100 =>
                                  mApp 3 1 8 #[(Value.int .i64 0)] 1 [(Value.int .i64 (iAnd .i64 x6 1023))] s3.2.1 fun s101 =>
                                  j92 (s93, s101, (⟨some ad100, 1, 1⟩ : Sl))
                                  )
                                )
                              ) (
                              mMake 5 1 #[(Value.int .u8 0)] (iAnd .i64 x6 1023) (iAnd .i64 x6 1023) fun s102 =>
                              mBoth (
                                mApp 3 1 8 #[(Value.int .i64 0)] 1 [(Value.int .i64 (iAnd .i64 x6 1023))] s3.2.1 fun s103 =>
                                mNew 30 #[(Sl.val s102)] fun ad104 =>
                                j92 (s93, s103, (⟨some ad104, 1, 1⟩ : Sl))
                                ) (
                                mNew 30 #[(Sl.val s102)] fun ad105 =>
                                mApp 3 1 8 #[(Value.int .i64 0)] 1 [(Value.int .i64 (iAnd .i64 x6 1023))] s3.2.1 fun s106 =>
                                j92 (s93, s106, (⟨some ad105, 1, 1⟩ : Sl))
                                )
                              )
                            ) (
                            mBoth (
                              mBoth (
                                mApp 3 1 8 #[(Value.int .i64 0)] 1 [(Value.int .i64 r11.1)] s3.1 fun s107 =>
                                mBoth (
                                  mApp 3 1 8 #[(Value.int .i64 0)] 1 [(Value.int .i64 (iAnd .i64 x6 1023))] s3.2.1 fun s108 =>
                                  mMake 5 1 #[(Value.int .u8 0)] (iAnd .i64 x6 1023) (iAnd .i64 x6 1023) fun s109 =>
                                  mNew 30 #[(Sl.val s109)] fun ad110 =>
                                  j92 (s107, s108, (⟨some ad110, 1, 1⟩ : Sl))
                                  ) (
                                  mMake 5 1 #[(Value.int .u8 0)] (iAnd .i64 x6 1023) (iAnd .i64 x6 1023) fun s111 =>
                                  mBoth (
                                    mApp 3 1 8 #[(Value.int .i64 0)] 1 [(Value.int .i64 (iAnd .i64 x6 1023))] s3.2.1 fun s112 =>
                                    mNew 30 #[(Sl.val s111)] fun ad113 =>
                                    j92 (s107, s112, (⟨some ad113, 1, 1⟩ : Sl))
                                    ) (
                                    mNew 30 #[(Sl.val s111)] fun ad114 =>
                                    mApp 3 1 8 #[(Value.int .i64 0)] 1 [(Value.int .i64 (iAnd .i64 x6 1023))] s3.2.1 fun s115 =>
                                    j92 (s107, s115, (⟨some ad114, 1, 1⟩ : Sl))
                                    )
                                  )
                                ) (
                                mMake 5 1 #[(Value.int .u8 0)] (iAnd .i64 x6 1023) (iAnd .i64 x6 1023) fun s116 =>
                                mBoth (
                                  mApp 3 1 8 #[(Value.int .i64 0)] 1 [(Value.int .i64 r11.1)] s3.1 fun s117 =>
                                  mBoth (
                                    mApp 3 1 8 #[(Value.int .i64 0)] 1 [(Value.int .i64 (iAnd .i64 x6 1023))] s3.2.1 fun s118 =>
                                    mNew 30 #[(Sl.val s116)] fun ad119 =>
                                    j92 (s117, s118, (⟨some ad119, 1, 1⟩ : Sl))
                                    ) (
                                    mNew 30 #[(Sl.val s116)] fun ad120 =>
                                    mApp 3 1 8 #[(Value.int .i64 0)] 1 [(Value.int .i64 (iAnd .i64 x6 1023))] s3.2.1 fun s121 =>
                                    j92 (s117, s121, (⟨some ad120, 1, 1⟩ : Sl))
                                    )
                                  ) (
                                  mNew 30 #[(Sl.val s116)] fun ad122 =>
                                  mApp 3 1 8 #[(Value.int .i64 0)] 1 [(Value.int .i64 r11.1)] s3.1 fun s123 =>
                                  mApp 3 1 8 #[(Value.int .i64 0)] 1 [(Value.int .i64 (iAnd .i64 x6 1023))] s3.2.1 fun s124 =>
                                  j92 (s123, s124, (⟨some ad122, 1, 1⟩ : Sl))
                                  )
                                )
                              ) (
                              mMake 5 1 #[(Value.int .u8 0)] (iAnd .i64 x6 1023) (iAnd .i64 x6 1023) fun s125 =>
                              mBoth (
                                mApp 3 1 8 #[(Value.int .i64 0)] 1 [(Value.int .i64 r11.1)] s3.1 fun s126 =>
                                mBoth (
                                  mApp 3 1 8 #[(Value.int .i64 0)] 1 [(Value.int .i64 (iAnd .i64 x6 1023))] s3.2.1 fun s127 =>
                                  mNew 30 #[(Sl.val s125)] fun ad128 =>
                                  j92 (s126, s127, (⟨some ad128, 1, 1⟩ : Sl))
                                  ) (
                                  mNew 30 #[(Sl.val s125)] fun ad129 =>
                                  mApp 3 1 8 #[(Value.int .i64 0)] 1 [(Value.int .i64 (iAnd .i64 x6 1023))] s3.2.1 fun s130 =>
                                  j92 (s126, s130, (⟨some ad129, 1, 1⟩ : Sl))
                                  )
                                ) (
                                mBoth (
                                  mBoth (
                                    mApp 3 1 8 #[(Value.int .i64 0)] 1 [(Value.int .i64 r11.1)] s3.1 fun s131 =>
                                    mBoth (
                                      mApp 3 1 8 #[(Value.int .i64 0)] 1 [(Value.int .i64 (iAnd .i64 x6 1023))] s3.2.1 fun s132 =>
                                      mNew 30 #[(Sl.val s125)] fun ad133 =>
                                      j92 (s131, s132, (⟨some ad133, 1, 1⟩ : Sl))
                                      ) (
                                      mNew 30 #[(Sl.val s125)] fun ad134 =>
                                      mApp 3 1 8 #[(Value.int .i64 0)] 1 [(Value.int .i64 (iAnd .i64 x6 1023))] s3.2.1 fun s135 =>
                                      j92 (s131, s135, (⟨some ad134, 1, 1⟩ : Sl))
                                      )
                                    ) (
                                    mNew 30 #[(Sl.val s125)] fun ad136 =>
                                    mApp 3 1 8 #[(Value.int .i64 0)] 1 [(Value.int .i64 r11.1)] s3.1 fun s137 =>
                                    mApp 3 1 8 #[(Value.int .i64 0)] 1 [(Value.int .i64 (iAnd .i64 x6 1023))] s3.2.1 fun s138 =>
                                    j92 (s137, s138, (⟨some ad136, 1, 1⟩ : Sl))
                                    )
                                  ) (
                                  mNew 30 #[(Sl.val s125)] fun ad139 =>
                                  mBoth (
                                    mApp 3 1 8 #[(Value.int .i64 0)] 1 [(Value.int .i64 r11.1)] s3.1 fun s140 =>
                                    mApp 3 1 8 #[(Value.int .i64 0)] 1 [(Value.int .i64 (iAnd .i64 x6 1023))] s3.2.1 fun s141 =>
                                    j92 (s140, s141, (⟨some ad139, 1, 1⟩ : Sl))
                                    ) (
                                    mApp 3 1 8 #[(Value.int .i64 0)] 1 [(Value.int .i64 r11.1)] s3.1 fun s142 =>
                                    mApp 3 1 8 #[(Value.int .i64 0)] 1 [(Value.int .i64 (iAnd .i64 x6 1023))] s3.2.1 fun s143 =>
                                    j92 (s142, s143, (⟨some ad139, 1, 1⟩ : Sl))
                                    )
                                  )
                                )
                              )
                            )
                          ) (
                          mBoth (
                            mBoth (
                              mBoth (
                                mApp 3 1 8 #[(Value.int .i64 0)] 1 [(Value.int .i64 r11.1)] s3.1 fun s144 =>
                                mBoth (
                                  mApp 3 1 8 #[(Value.int .i64 0)] 1 [(Value.int .i64 (iAnd .i64 x6 1023))] s3.2.1 fun s145 =>
                                  mMake 5 1 #[(Value.int .u8 0)] (iAnd .i64 x6 1023) (iAnd .i64 x6 1023) fun s146 =>
                                  mNew 30 #[(Sl.val s146)] fun ad147 =>
                                  j92 (s144, s145, (⟨some ad147, 1, 1⟩ : Sl))
                                  ) (
                                  mMake 5 1 #[(Value.int .u8 0)] (iAnd .i64 x6 1023) (iAnd .i64 x6 1023) fun s148 =>
                                  mBoth (
                                    mApp 3 1 8 #[(Value.int .i64 0)] 1 [(Value.int .i64 (iAnd .i64 x6 1023))] s3.2.1 fun s149 =>
                                    mNew 30 #[(Sl.val s148)] fun ad150 =>
                                    j92 (s144, s149, (⟨some ad150, 1, 1⟩ : Sl))
                                    ) (
                                    mNew 30 #[(Sl.val s148)] fun ad151 =>
                                    mApp 3 1 8 #[(Value.int .i64 0)] 1 [(Value.int .i64 (iAnd .i64 x6 1023))] s3.2.1 fun s152 =>
                                    j92 (s144, s152, (⟨some ad151, 1, 1⟩ : Sl))
                                    )
                                  )
                                ) (
                                mMake 5 1 #[(Value.int .u8 0)] (iAnd .i64 x6 1023) (iAnd .i64 x6 1023) fun s153 =>
                                mBoth (
                                  mApp 3 1 8 #[(Value.int .i64 0)] 1 [(Value.int .i64 r11.1)] s3.1 fun s154 =>
                                  mBoth (
                                    mApp 3 1 8 #[(Value.int .i64 0)] 1 [(Value.int .i64 (iAnd .i64 x6 1023))] s3.2.1 fun s155 =>
                                    mNew 30 #[(Sl.val s153)] fun ad156 =>
                                    j92 (s154, s155, (⟨some ad156, 1, 1⟩ : Sl))
                                    ) (
                                    mNew 30 #[(Sl.val s153)] fun ad157 =>
                                    mApp 3 1 8 #[(Value.int .i64 0)] 1 [(Value.int .i64 (iAnd .i64 x6 1023))] s3.2.1 fun s158 =>
                                    j92 (s154, s158, (⟨some ad157, 1, 1⟩ : Sl))
                                    )
                                  ) (
                                  mNew 30 #[(Sl.val s153)] fun ad159 =>
                                  mApp 3 1 8 #[(Value.int .i64 0)] 1 [(Value.int .i64 r11.1)] s3.1 fun s160 =>
                                  mApp 3 1 8 #[(Value.int .i64 0)] 1 [(Value.int .i64 (iAnd .i64 x6 1023))] s3.2.1 fun s161 =>
                                  j92 (s160, s161, (⟨some ad159, 1, 1⟩ : Sl))
                                  )
                                )
                              ) (
                              mMake 5 1 #[(Value.int .u8 0)] (iAnd .i64 x6 1023) (iAnd .i64 x6 1023) fun s162 =>
                              mBoth (
                                mApp 3 1 8 #[(Value.int .i64 0)] 1 [(Value.int .i64 r11.1)] s3.1 fun s163 =>
                                mBoth (
                                  mApp 3 1 8 #[(Value.int .i64 0)] 1 [(Value.int .i64 (iAnd .i64 x6 1023))] s3.2.1 fun s164 =>
                                  mNew 30 #[(Sl.val s162)] fun ad165 =>
                                  j92 (s163, s164, (⟨some ad165, 1, 1⟩ : Sl))
                                  ) (
                                  mNew 30 #[(Sl.val s162)] fun ad166 =>
                                  mApp 3 1 8 #[(Value.int .i64 0)] 1 [(Value.int .i64 (iAnd .i64 x6 1023))] s3.2.1 fun s167 =>
                                  j92 (s163, s167, (⟨some ad166, 1, 1⟩ : Sl))
                                  )
                                ) (
                                mNew 30 #[(Sl.val s162)] fun ad168 =>
                                mApp 3 1 8 #[(Value.int .i64 0)] 1 [(Value.int .i64 r11.1)] s3.1 fun s169 =>
                                mApp 3 1 8 #[(Value.int .i64 0)] 1 [(Value.int .i64 (iAnd .i64 x6 1023))] s3.2.1 fun s170 =>
                                j92 (s169, s170, (⟨some ad168, 1, 1⟩ : Sl))
                                )
                              )
                            ) (
                            mMake 5 1 #[(Value.int .u8 0)] (iAnd .i64 x6 1023) (iAnd .i64 x6 1023) fun s171 =>
                            mBoth (
                              mApp 3 1 8 #[(Value.int .i64 0)] 1 [(Value.int .i64 r11.1)] s3.1 fun s172 =>
                              mBoth (
                                mApp 3 1 8 #[(Value.int .i64 0)] 1 [(Value.int .i64 (iAnd .i64 x6 1023))] s3.2.1 fun s173 =>
                                mNew 30 #[(Sl.val s171)] fun ad174 =>
                                j92 (s172, s173, (⟨some ad174, 1, 1⟩ : Sl))
                                ) (
                                mNew 30 #[(Sl.val s171)] fun ad175 =>
                                mApp 3 1 8 #[(Value.int .i64 0)] 1 [(Value.int .i64 (iAnd .i64 x6 1023))] s3.2.1 fun s176 =>
                                j92 (s172, s176, (⟨some ad175, 1, 1⟩ : Sl))
                                )
                              ) (
                              mBoth (
                                mBoth (
                                  mApp 3 1 8 #[(Value.int .i64 0)] 1 [(Value.int .i64 r11.1)] s3.1 fun s177 =>
                                  mBoth (
                                    mApp 3 1 8 #[(Value.int .i64 0)] 1 [(Value.int .i64 (iAnd .i64 x6 1023))] s3.2.1 fun s178 =>
                                    mNew 30 #[(Sl.val s171)] fun ad179 =>
                                    j92 (s177, s178, (⟨some ad179, 1, 1⟩ : Sl))
                                    ) (
                                    mNew 30 #[(Sl.val s171)] fun ad180 =>
                                    mApp 3 1 8 #[(Value.int .i64 0)] 1 [(Value.int .i64 (iAnd .i64 x6 1023))] s3.2.1 fun s181 =>
                                    j92 (s177, s181, (⟨some ad180, 1, 1⟩ : Sl))
                                    )
                                  ) (
                                  mNew 30 #[(Sl.val s171)] fun ad182 =>
                                  mApp 3 1 8 #[(Value.int .i64 0)] 1 [(Value.int .i64 r11.1)] s3.1 fun s183 =>
                                  mApp 3 1 8 #[(Value.int .i64 0)] 1 [(Value.int .i64 (iAnd .i64 x6 1023))] s3.2.1 fun s184 =>
                                  j92 (s183, s184, (⟨some ad182, 1, 1⟩ : Sl))
                                  )
                                ) (
                                mNew 30 #[(Sl.val s171)] fun ad185 =>
                                mBoth (
                                  mApp 3 1 8 #[(Value.int .i64 0)] 1 [(Value.int .i64 r11.1)] s3.1 fun s186 =>
                                  mApp 3 1 8 #[(Value.int .i64 0)] 1 [(Value.int .i64 (iAnd .i64 x6 1023))] s3.2.1 fun s187 =>
                                  j92 (s186, s187, (⟨some ad185, 1, 1⟩ : Sl))
                                  ) (
                                  mApp 3 1 8 #[(Value.int .i64 0)] 1 [(Value.int .i64 r11.1)] s3.1 fun s188 =>
                                  mApp 3 1 8 #[(Value.int .i64 0)] 1 [(Value.int .i64 (iAnd .i64 x6 1023))] s3.2.1 fun s189 =>
                                  j92 (s188, s189, (⟨some ad185, 1, 1⟩ : Sl))
                                  )
                                )
                              )
                            )
                          ))
                      )
                    ) (fun j90 =>
                    mIf ((decide (r11.1 ≤ s3.2.2.2.1)) || (!decide (r86.2 = 0))) (
                      j90 true
                      ) (
                      mMake 5 1 #[(Value.int .u8 0)] (iAnd .i64 x6 1023) (iAnd .i64 x6 1023) fun s191 =>
                      m_law07_same r86.1 s191 fun r192 =>
                      j90 (!r192)
                      ))
                  ) (
                  j14 (s3.1, s3.2.1, s3.2.2.1, s3.2.2.2.1)
                  )
                )
              )
            )
          ) (0, 0)
        ) (
        mLoop (fun (rec194 : Sl → H → Prop) (s193 : Sl) =>
          mIf (decide (0 < (s193.len : Int))) (
            mIdx s193 0 1 fun ad195 =>
            mLoad (cInt .i64) ad195 fun x196 =>
            m_store_Store_Destroy r1.1 x196 fun r197 =>
            mIf (!decide (r197 = 0)) (
              K false
              ) (
              mCut s193 1 (s193.len : Int) 1 fun s198 =>
              rec194 s198
              )
            ) (
            m_store_Store_Free r1.1 fun r199 =>
            mIf (decide (r199 = 32)) (
              m_store_Store_Ids r1.1 fun r201 =>
              K (decide ((r201.len : Int) = 0))
              ) (
              K false
              )
            )
          ) s3.1
        )
      ) (Sl.nil, Sl.nil, Sl.nil, 0, 0)
    )
def x_law07_StoreLives : Cx Try.prog := ⟨tys, [s_store_New, s_law07_head, s_store_Store_Create, s_store_Store_Free, s_store_Store_Read, s_law07_same, s_store_Store_Write, s_store_Store_Destroy, s_store_Store_Ids], [117, 121], [], mixed⟩
def h_law07_StoreLives : Hint := (.seq .d (.seq .d (.seq (.seq (.reg (.run [3, 7, 11] (.sel 30 33 15032385536 (.run [15, 19, 23] .nil) (.run [15, 19, 23] .nil) (.run [27] (.sel 34 37 240518168576 (.run [31, 35, 39] .nil) (.run [31, 35, 39] .nil) .nil))))) .d) (.seq .d (.seq .d (.seq .d (.seq (.seq .d (.blk (.loop [.slot 5 tSl, .slot 6 tSl, .slot 7 tSl, .slot 8 (tInt .i64), .slot 9 (tInt .i64)] 3978585891278293137243057985174566720803649206378781739523711815145275976099992143134692 [] (.seq .d (.seq (.blk (.seq .d (.seq .d (.seq (.seq .d (.blk (.loop [.slot 11 (tInt .i64), .slot 12 (tInt .i64)] 18445618173802715136 [] .d))) (.seq .d (.seq (.seq (.reg (.run [3, 7, 11, 15, 19, 23] (.sel 75 90 2475804520707034635474829312 (.run [27, 31, 35, 39, 43, 47, 51, 55, 59, 63, 67, 71, 75, 79, 83] .nil) (.run [27, 31, 35, 39, 43, 47] (.sel 81 88 614134316364231620750737408 (.run [51, 55, 59, 63, 67, 71, 75] .nil) (.run [51, 55, 59, 63, 67, 71, 75] .nil) (.run [79, 83] .nil))) .nil))) .d) (.join [.slot 5 tSl, .slot 6 tSl, .slot 7 tSl, .slot 8 (tInt .i64)] 340282366918462583384803846881970061796 [] (.seq .d (.cond (.seq .d (.seq (.seq (.reg (.run [3, 7, 11, 15] (.sel 103 106 141976867225561692967630759002112 (.run [19, 23, 27] .nil) (.run [19, 23, 27] .nil) (.run [31] (.join [.slot 113 tBool] 20444668880480883787338829296304128 [] (.split 107 (.run [35, 39, 43, 47, 51, 55] .nil) (.run [35, 39, 43, 47, 51, 55] .nil)) .nil))))) .d) (.seq .d (.reg (.run [0, 4, 16, 20, 32, 36] (.join [.slot 118 tSl, .slot 122 tSl, .slot 126 tSl] 136079716068480762488527247796200275968 [] (.alt 2 (.alt 3 (.both 6 10 (.both 7 10 (.run [43, 46] .nil) (.both 7 11 (.run [46] .nil) (.run [31] .nil))) (.run [26] (.both 7 11 (.run [46] .nil) (.run [31] .nil)))) (.both 6 10 (.both 3 10 (.both 7 10 (.run [43, 46] .nil) (.both 7 11 (.run [46] .nil) (.run [31] .nil))) (.both 3 11 (.both 7 11 (.run [46] .nil) (.run [31] .nil)) (.run [15, 31] .nil))) (.alt 3 (.run [26] (.both 7 11 (.run [46] .nil) (.run [31] .nil))) (.both 6 11 (.both 3 11 (.both 7 11 (.run [46] .nil) (.run [31] .nil)) (.run [15, 31] .nil)) (.both 3 6 (.run [26, 31] .nil) (.run [15, 31] .nil)))))) (.both 6 10 (.both 2 10 (.both 3 10 (.both 7 10 (.run [43, 46] .nil) (.both 7 11 (.run [46] .nil) (.run [31] .nil))) (.both 3 11 (.both 7 11 (.run [46] .nil) (.run [31] .nil)) (.run [15, 31] .nil))) (.run [10] (.both 3 11 (.both 7 11 (.run [46] .nil) (.run [31] .nil)) (.run [15, 31] .nil)))) (.run [10] (.alt 3 (.run [26] (.both 7 11 (.run [46] .nil) (.run [31] .nil))) (.both 6 11 (.both 3 11 (.both 7 11 (.run [46] .nil) (.run [31] .nil)) (.run [15, 31] .nil)) (.both 3 6 (.run [26, 31] .nil) (.run [15, 31] .nil))))))) (.run [51, 52, 56, 60] .nil))))))) .d)) (.seq .d (.seq .d (.seq .d (.seq (.reg (.run [0, 4, 8, 12, 20, 24, 28, 32, 36, 18, 42, 47, 48] .nil)) (.seq (.seq (.reg (.run [0, 4, 8, 12, 16, 20, 24, 40, 44, 48, 30, 32, 36, 54, 56, 60] (.join [.slot 181 tBool] 6106036920637525920021538936302013153480913689950289920 [] (.split 173 (.run [64, 68, 72, 76, 82, 84, 88, 92] .nil) (.run [64, 68, 72, 76, 80, 84, 88, 92] .nil)) (.run [96] .nil)))) .d) (.seq (.seq .d (.blk (.loop [.slot 20 (tInt .i64)] 13164036446309684010312642593592027822659413456118725929321103360 [] (.seq (.seq (.reg (.run [3, 7, 11] (.join [.slot 194 tBool] 50118734168478029223751381175923711541067244251892525563904 [] (.split 185 (.run [15, 19, 23, 27, 31, 35, 39, 43, 47] .nil) (.run [15, 19, 23, 27, 31, 35, 39, 43, 47] .nil)) .nil))) .d) (.seq (.blk (.reg (.run [0, 4, 8, 16, 20, 24, 28, 32, 36, 40, 48, 14, 46, 52, 58, 60, 67] .nil))) .d))))) (.seq (.seq .d (.blk (.loop [.slot 21 (tInt .i64)] 14134776505063038178096731668703594666161067135143064739904210703566766084 [] (.seq .d (.seq (.blk (.seq (.reg (.run [0, 4, 8, 12, 20, 24, 28, 18, 34, 39, 40, 44, 48, 52, 56] .nil)) (.seq (.reg (.run [3, 7, 11] (.join [.slot 242 tBool] 14079562547452750126366901959045131923000262303227588572531549416550563840 [] (.split 234 (.run [15, 19, 23, 27, 31, 35, 39, 43] .nil) (.run [15, 19, 23, 27, 31, 35, 39, 43] .nil)) .nil))) .d))) .d))))) (.seq .d (.cond (.seq (.seq (.reg (.run [3, 7, 11, 15, 19, 23, 27, 31] (.join [.slot 263 tBool] 29526982755515629833010601177215416502583846089738343830061683922017848058183680 [] (.split 255 (.run [35, 39, 43, 47, 51, 55, 59, 63] .nil) (.run [35, 39, 43, 47, 51, 55, 59, 63] .nil)) .nil))) .d) (.reg (.run [0, 4, 8, 12, 16, 20, 24, 28, 36, 40, 44, 48, 52, 56, 60, 64, 72, 76, 80, 84, 88, 92, 96, 100, 35, 71, 107, 108, 112, 116] .nil))) .d)))))))))))))))) .d))))) (.seq (.blk (.loop [.slot 5 tSl] 8144165319446666051936539695652338077485069925457366220805038085602379923077246557729325092 [] .d)) (.seq (.reg (.run [3, 7, 11, 15] (.split 305 (.run [19, 23, 27, 31, 35, 39] .nil) (.run [19, 23, 27, 31, 35, 39] .nil)))) .d)))))))))
theorem w_law07_StoreLives : ∀ (a : Den [tSl]) (K : Den [tBool] → HP) (h : H), m_law07_StoreLives a K h = wpF x_law07_StoreLives Try.f5 [tSl] [tBool] h_law07_StoreLives a K h := fun a K h => by kernel_rfl
def s_law07_StoreLives : Spec Try.prog := mkSpec x_law07_StoreLives 5 Try.f5 [tSl] [tBool] false h_law07_StoreLives (fun a => m_law07_StoreLives a) w_law07_StoreLives callee5 rfl
/-! sesame/sesamelaw07.begins -/
def m_law07_begins (a0 : Int) (a1 : Int) (K : (S_law07_two × Bool) → H → Prop) : H → Prop :=
  m_store_New a0 a1 fun r1 =>
  m_ref07_New a0 a1 fun r2 =>
  K ((⟨r1.1, r2.1⟩ : S_law07_two), ((decide (r1.2 = r2.2)) && ((r1.1.isNone) == (r2.1.isNone))))
def x_law07_begins : Cx Try.prog := ⟨tys, [s_store_New, s_ref07_New], [4], [], mixed⟩
def h_law07_begins : Hint := (.seq .d (.seq .d (.seq .d (.seq (.reg (.run [3, 7, 11, 15, 19, 23, 27] (.sel 28 34 33822867456 (.run [31, 35, 39, 43, 47, 51] .nil) (.run [31, 35, 39, 43, 47, 51] .nil) (.run [55, 59] .nil)))) .d))))
theorem w_law07_begins : ∀ (a : Den [(tInt .i64), (tInt .i64)]) (K : Den [S_law07_two.ty, tBool] → HP) (h : H), m_law07_begins a.1 a.2 K h = wpF x_law07_begins Try.f25 [(tInt .i64), (tInt .i64)] [S_law07_two.ty, tBool] h_law07_begins a K h := fun a K h => by kernel_rfl
def s_law07_begins : Spec Try.prog := mkSpec x_law07_begins 25 Try.f25 [(tInt .i64), (tInt .i64)] [S_law07_two.ty, tBool] false h_law07_begins (fun a => m_law07_begins a.1 a.2) w_law07_begins callee25 rfl
/-! sesame/sesamelaw07.lent -/
def m_law07_lent (a0 : Sl) (K : (Sl) → H → Prop) : H → Prop :=
  mAppend 5 1 1 #[(Value.int .u8 0)] Sl.nil a0 fun s1 =>
  mLoop (fun (rec3 : (Sl × Int) → H → Prop) (s2 : Sl × Int) =>
    mIf (decide (s2.2 < 300)) (
      mApp 5 1 1 #[(Value.int .u8 0)] 1 [(Value.int .u8 (IntKind.wrap .u8 s2.2))] s2.1 fun s4 =>
      rec3 (s4, (iAdd .i64 s2.2 1))
      ) (
      K s2.1
      )
    ) (s1, 0)
def x_law07_lent : Cx Try.prog := ⟨tys, [], [15], [], mixed⟩
def h_law07_lent : Hint := (.seq .d (.seq .d (.seq .d (.seq (.seq .d (.blk (.loop [.slot 3 tSl, .slot 4 (tInt .i64)] 130840 [] .d))) .d))))
theorem w_law07_lent : ∀ (a : Den [tSl]) (K : Den [tSl] → HP) (h : H), m_law07_lent a K h = wpF x_law07_lent Try.f84 [tSl] [tSl] h_law07_lent a K h := fun a K h => by kernel_rfl
def s_law07_lent : Spec Try.prog := mkSpec x_law07_lent 84 Try.f84 [tSl] [tSl] false h_law07_lent (fun a => m_law07_lent a) w_law07_lent callee84 rfl
end Go.Proofs.Yteeaelemfalkbaa.K
