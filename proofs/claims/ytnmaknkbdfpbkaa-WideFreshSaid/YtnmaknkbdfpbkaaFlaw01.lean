/- Functions of the program, printed by a program of mine: law01_known, law01_WideOrder, law01_WideAll, law01_WideBack, law01_marked, law01_WideFresh -/
import Derived.Test.YtnmaknkbdfpbkaaT
import Derived.Test.YtnmaknkbdfpbkaaFref01
import Derived.Test.YtnmaknkbdfpbkaaFwide
namespace Go.Proofs.Ytnmaknkbdfpbkaa.K
open Go Go.Proofs
/-! sesame/sesamelaw01.known -/
def m_law01_known (K : (Bool) → H → Prop) : H → Prop :=
  m_wide_Bytes (⟨1, 258⟩ : S_api_Word) fun r1 =>
  mPure (m_wide_Parse (ByteArray.mk #[102, 102])) fun r2 =>
  mPure (m_wide_Next (⟨0, 18446744073709551615⟩ : S_api_Word) 65) fun r3 =>
  mJoin (fun (s6 : Bool) =>
    mJoin (fun (s10 : Bool) =>
      mJoin (fun (s14 : Bool) =>
        mJoin (fun (s17 : Bool) =>
          mJoin (fun (s20 : Bool) =>
            mIf s20 (
              mPure (m_wide_Cmp r2.1 r3.1) fun r23 =>
              K (decide (r23 = (-1)))
              ) (
              K false
              )
            ) (fun j21 =>
            mIf s17 (
              mPure (m_wide_Fits r2.1 8) fun r24 =>
              j21 r24
              ) (
              j21 false
              ))
          ) (fun j18 =>
          mIf ((((s14 && (decide (r2.2 = 0))) && (decide (r2.1.Lo = 255))) && r3.2) && ((decide (r3.1.Hi = 1)) && ((decide (r3.1.Lo = 0)) && true))) (
            m_wide_Text r3.1 fun r25 =>
            j18 (r25.toList == (ByteArray.mk #[49, 48, 48, 48, 48, 48, 48, 48, 48, 48, 48, 48, 48, 48, 48, 48, 48]).toList)
            ) (
            j18 false
            ))
        ) (fun j15 =>
        mIf s10 (
          mIdx r1 8 1 fun ad26 =>
          mLoad (cInt .u8) ad26 fun x27 =>
          j15 (decide (x27 = 1))
          ) (
          j15 false
          ))
      ) (fun j11 =>
      mIf s6 (
        mIdx r1 1 1 fun ad28 =>
        mLoad (cInt .u8) ad28 fun x29 =>
        j11 (decide (x29 = 1))
        ) (
        j11 false
        ))
    ) (fun j7 =>
    mIf (decide ((r1.len : Int) = 16)) (
      mIdx r1 0 1 fun ad30 =>
      mLoad (cInt .u8) ad30 fun x31 =>
      j7 (decide (x31 = 2))
      ) (
      j7 false
      ))
def x_law01_known : Cx Try.prog := ⟨tys, [s_wide_Cmp, s_wide_Fits, s_wide_Next, s_wide_Parse, s_wide_Text, s_wide_Bytes], [2, 4], mixed⟩
def h_law01_known : Hint := (.seq .d (.seq .d (.seq .d (.seq .d (.seq (.reg (.run [3, 7, 11, 15] (.join [.slot 25 tBool] 65011712 [] (.split 20 (.run [19, 23, 27, 31, 35] .nil) (.run [19, 23, 27, 31, 35] .nil)) (.run [39] (.join [.slot 31 tBool] 4160749568 [] (.split 26 (.run [43, 47, 51, 55, 59] .nil) (.run [43, 47, 51, 55, 59] .nil)) (.run [63] (.join [.slot 37 tBool] 266287972352 [] (.split 32 (.run [67, 71, 75, 79, 83] .nil) (.run [67, 71, 75, 79, 83] .nil)) (.run [87] (.sel 38 41 3848290697216 (.run [91, 95, 99] .nil) (.run [91, 95, 99] .nil) (.run [103] (.sel 42 46 131941395333120 (.run [107, 111, 115, 119] .nil) (.run [107, 111, 115, 119] .nil) (.run [123] (.sel 47 49 844424930131968 (.run [127, 131] .nil) (.run [127, 131] .nil) (.run [135] (.sel 50 54 33776997205278720 (.run [139, 143, 147, 151] .nil) (.run [139, 143, 147, 151] .nil) (.run [155] (.join [.slot 59 tBool] 1080863910568919040 [] (.split 55 (.run [159, 163, 167, 171] .nil) (.run [159, 163, 167, 171] .nil)) (.run [175] (.join [.slot 63 tBool] 16140901064495857664 [] (.split 60 (.run [179, 183, 187] .nil) (.run [179, 183, 187] .nil)) (.run [191] (.split 64 (.run [195, 199, 203, 207, 211, 215] .nil) (.run [195, 199, 203, 207, 211, 215] .nil)))))))))))))))))))))) .d)))))
theorem w_law01_known : ∀ (a : Den []) (K : Den [tBool] → HP) (h : H), m_law01_known K h = wpF x_law01_known Try.f29 [] [tBool] h_law01_known a K h := fun a K h => by kernel_rfl
def s_law01_known : Spec Try.prog := mkSpec x_law01_known 29 Try.f29 [] [tBool] false h_law01_known (fun _ => m_law01_known) w_law01_known callee29 rfl
/-! sesame/sesamelaw01.WideOrder -/
def m_law01_WideOrder (a0 : S_api_Word) (a1 : S_api_Word) (a2 : S_api_Word) (a3 : Int) (K : (Bool) → H → Prop) : H → Prop :=
  mPure (m_wide_Cmp a0 a1) fun r1 =>
  mJoin (fun (s2 : Int) =>
    m_law01_known fun r4 =>
    mJoin (fun (s6 : Bool) =>
      mJoin (fun (s16 : Bool) =>
        mIf s16 (
          K false
          ) (
          mPure (m_wide_Cut a0 a3) fun r18 =>
          mPure (m_wide_Fits a0 a3) fun r19 =>
          mIf (decide (a3 < 1)) (
            mPure (m_wide_Next a0 a3) fun r20 =>
            K (((!r19) && ((decide (r18.Hi = 0)) && ((decide (r18.Lo = 0)) && true))) && (!r20.2))
            ) (
            mPure (m_wide_Fits r18 a3) fun r21 =>
            mJoin (fun (s23 : Bool) =>
              mIf s23 (
                K false
                ) (
                mPure (m_wide_Next r18 a3) fun r25 =>
                mIf (!r25.2) (
                  mJoin (fun (s27 : Bool) =>
                    mIf s27 (
                      mPure (m_wide_Fits r18 a3) fun r30 =>
                      K r30
                      ) (
                      K false
                      )
                    ) (fun j28 =>
                    mIf ((decide (r25.1.Hi = 0)) && ((decide (r25.1.Lo = 0)) && true)) (
                      mPure (m_wide_Cut (⟨18446744073709551615, 18446744073709551615⟩ : S_api_Word) a3) fun r31 =>
                      j28 ((decide (r18.Hi = r31.Hi)) && ((decide (r18.Lo = r31.Lo)) && true))
                      ) (
                      j28 false
                      ))
                  ) (
                  mJoin (fun (s32 : Int) =>
                    mJoin (fun (s35 : Bool) =>
                      mIf s35 (
                        mPure (m_wide_Cmp r18 r25.1) fun r38 =>
                        K (decide (r38 = (-1)))
                        ) (
                        K false
                        )
                      ) (fun j36 =>
                      mIf ((decide (r25.1.Hi = (iAdd .u64 r18.Hi s32))) && ((decide (r25.1.Lo = (iAdd .u64 r18.Lo 1))) && true)) (
                        mPure (m_wide_Fits r25.1 a3) fun r39 =>
                        j36 r39
                        ) (
                        j36 false
                        ))
                    ) (fun j33 =>
                    mIf (decide (r18.Lo = 18446744073709551615)) (
                      j33 1
                      ) (
                      j33 0
                      )
                    )
                  )
                )
              ) (fun j24 =>
              mIf ((!r21) || (!(r19 == ((decide (r18.Hi = a0.Hi)) && ((decide (r18.Lo = a0.Lo)) && true))))) (
                j24 true
                ) (
                mPure (m_wide_Cut r18 a3) fun r40 =>
                j24 (!((decide (r40.Hi = r18.Hi)) && ((decide (r40.Lo = r18.Lo)) && true)))
                ))
            )
          )
        ) (fun j17 =>
        mIf s6 (
          j17 true
          ) (
          mJoin (fun (s42 : Bool) =>
            mIf s42 (
              mPure (m_wide_Cmp a0 a2) fun r45 =>
              j17 (decide (0 < r45))
              ) (
              j17 false
              )
            ) (fun j43 =>
            mIf (decide (r1 ≤ 0)) (
              mPure (m_wide_Cmp a1 a2) fun r46 =>
              j43 (decide (r46 ≤ 0))
              ) (
              j43 false
              ))
          ))
      ) (fun j7 =>
      mIf ((!r4) || (!decide (r1 = s2))) (
        j7 true
        ) (
        mPure (m_wide_Cmp a1 a0) fun r47 =>
        j7 (!decide (r47 = (iSub .i64 0 r1)))
        ))
    ) (fun j3 =>
    mIf ((decide (a0.Hi < a1.Hi)) || ((decide (a0.Hi = a1.Hi)) && (decide (a0.Lo < a1.Lo)))) (
      j3 (-1)
      ) (
      mIf (!((decide (a0.Hi = a1.Hi)) && ((decide (a0.Lo = a1.Lo)) && true))) (
        j3 1
        ) (
        j3 0
        )
      )
    )
def x_law01_WideOrder : Cx Try.prog := ⟨tys, [s_wide_Cmp, s_law01_known, s_wide_Cut, s_wide_Fits, s_wide_Next], [4, 5, 6, 11, 13, 15], mixed⟩
def h_law01_WideOrder : Hint := (.seq .d (.seq .d (.seq .d (.join [.slot 10 (tInt .i64)] 17592181851136 [] (.seq (.reg (.run [3, 7, 11, 15, 19, 23] (.sel 27 40 2198754820096 (.run [27, 31, 35, 39, 43, 47, 51, 55, 59, 63, 67, 71, 75] .nil) (.run [27, 31, 35, 39, 43, 47] (.sel 33 39 1082331758592 (.run [51, 55, 59, 63, 67, 71] .nil) (.run [51, 55, 59, 63, 67, 71] .nil) (.run [75] .nil))) .nil))) .d) (.seq (.seq (.reg (.run [3, 7, 11] (.sel 46 50 2111062325329920 (.run [15, 19, 23, 27] .nil) (.run [15, 19, 23, 27] .nil) (.run [31] (.join [.slot 58 tBool] 571957152676052992 [] (.split 51 (.run [35, 39, 43, 47, 51, 55, 59] .nil) (.run [35, 39, 43, 47, 51, 55, 59] .nil)) (.run [63] (.join [.slot 74 tBool] 37777778941452554862592 [] (.split 59 (.run [67, 71, 75, 79, 83, 87, 91, 95, 99, 103, 107, 111, 115, 119, 123] .nil) (.run [67, 71, 75] (.join [.slot 67 tBool] 285924533142498050048 [] (.split 62 (.run [79, 83, 87, 91, 95] .nil) (.run [79, 83, 87, 91, 95] .nil)) (.run [99] (.split 68 (.run [103, 107, 111, 115, 119, 123] .nil) (.run [103, 107, 111, 115, 119, 123] .nil)))))) .nil))))))) .d) (.seq .d (.seq .d (.seq (.seq .d (.cond (.seq .d (.seq (.reg (.run [3, 7, 11] (.sel 91 95 74276402357122816493947453440 (.run [15, 19, 23, 27] .nil) (.run [15, 19, 23, 27] .nil) (.run [31] (.sel 96 99 1109194275199700726309615304704 (.run [35, 39, 43] .nil) (.run [35, 39, 43] .nil) (.run [47] .nil)))))) .d)) .d)) (.seq (.seq (.reg (.run [4, 1, 8, 12, 16] (.sel 104 110 2555583610060110473417353662038016 (.run [20, 24, 28, 32, 36, 40] .nil) (.run [20, 25, 29, 32, 36, 40] .nil) (.run [44] (.join [.slot 117 tBool] 327114702087694140597421268740866048 [] (.split 111 (.run [48, 52, 56, 60, 64, 68] .nil) (.run [52, 49, 56, 61, 64, 68] .nil)) .nil))))) .d) (.seq .d (.seq (.seq .d (.cond (.seq (.reg (.run [4, 1, 8, 12] (.join [.slot 135 tBool] 85751156464076492792770401072805589286912 [] (.split 129 (.run [20, 24, 28, 17, 32, 36] .nil) (.run [16, 20, 24, 28, 32, 36] .nil)) (.run [40] .nil)))) (.seq (.reg (.run [3, 7] (.split 137 (.run [11, 15, 19, 23, 27] .nil) (.run [11, 15, 19, 23, 27] .nil)))) .d)) .d)) (.seq .d (.join [.slot 18 (tInt .u64)] 39026304097428590497687506977134632635727872 [] .d (.seq (.reg (.run [3, 7, 11, 15, 19, 23, 27, 31, 35, 39, 43] (.join [.slot 159 tBool] 1370157784997721485815954530671515330927436759040 [] (.split 155 (.run [47, 51, 55, 59] .nil) (.run [47, 51, 55, 59] .nil)) (.run [63] (.split 160 (.run [67, 71, 75, 79, 83, 87] .nil) (.run [67, 71, 75, 79, 83, 87] .nil)))))) .d))))))))))))))
theorem w_law01_WideOrder : ∀ (a : Den [S_api_Word.ty, S_api_Word.ty, S_api_Word.ty, (tInt .i64)]) (K : Den [tBool] → HP) (h : H), m_law01_WideOrder a.1 a.2.1 a.2.2.1 a.2.2.2 K h = wpF x_law01_WideOrder Try.f8 [S_api_Word.ty, S_api_Word.ty, S_api_Word.ty, (tInt .i64)] [tBool] h_law01_WideOrder a K h := fun a K h => by kernel_rfl
def s_law01_WideOrder : Spec Try.prog := mkSpec x_law01_WideOrder 8 Try.f8 [S_api_Word.ty, S_api_Word.ty, S_api_Word.ty, (tInt .i64)] [tBool] false h_law01_WideOrder (fun a => m_law01_WideOrder a.1 a.2.1 a.2.2.1 a.2.2.2) w_law01_WideOrder callee8 rfl
/-! sesame/sesamelaw01.WideAll -/
def m_law01_WideAll (a0 : S_api_Word) (a1 : S_api_Word) (a2 : Int) (a3 : ByteArray) (K : (Bool) → H → Prop) : H → Prop :=
  m_law01_known fun r1 =>
  mJoin (fun (s4 : Bool) =>
    mJoin (fun (s8 : Bool) =>
      mJoin (fun (s12 : Bool) =>
        mIf s12 (
          K false
          ) (
          mPure (m_wide_Next a0 a2) fun r14 =>
          mPure (m_ref01_Next a0 a2) fun r15 =>
          mPure (m_wide_Parse a3) fun r16 =>
          mPure (m_ref01_Parse a3) fun r17 =>
          mJoin (fun (s20 : Bool) =>
            mIf s20 (
              K false
              ) (
              mBytes 5 a3 fun s22 =>
              m_wide_Of s22 fun r23 =>
              mBytes 5 a3 fun s24 =>
              m_ref01_Of s24 fun r25 =>
              mIf (((decide (r23.1.Hi = r25.1.Hi)) && ((decide (r23.1.Lo = r25.1.Lo)) && true)) && (decide (r23.2 = r25.2))) (
                m_wide_Bytes a0 fun r34 =>
                mJoin (fun (s35 : ByteArray × Sl) =>
                  mText s35.2 fun x37 =>
                  K (s35.1.toList == x37.toList)
                  ) (fun j36 =>
                  mBoth (
                    mText r34 fun x38 =>
                    m_ref01_Bytes a0 fun r39 =>
                    j36 (x38, r39)
                    ) (
                    m_ref01_Bytes a0 fun r40 =>
                    mText r34 fun x41 =>
                    j36 (x41, r40)
                    ))
                ) (
                K false
                )
              )
            ) (fun j21 =>
            mIf ((((!((decide (r14.1.Hi = r15.1.Hi)) && ((decide (r14.1.Lo = r15.1.Lo)) && true))) || (!(r14.2 == r15.2))) || (!((decide (r16.1.Hi = r17.1.Hi)) && ((decide (r16.1.Lo = r17.1.Lo)) && true)))) || (!decide (r16.2 = r17.2))) (
              j21 true
              ) (
              m_wide_Text a0 fun r42 =>
              mPure (m_ref01_Text a0) fun r43 =>
              j21 (!(r42.toList == r43.toList))
              ))
          )
        ) (fun j13 =>
        mIf s8 (
          j13 true
          ) (
          mPure (m_wide_Cmp a0 a1) fun r44 =>
          mPure (m_ref01_Cmp a0 a1) fun r45 =>
          j13 (!decide (r44 = r45))
          ))
      ) (fun j9 =>
      mIf s4 (
        j9 true
        ) (
        mPure (m_wide_Cut a0 a2) fun r46 =>
        mPure (m_ref01_Cut a0 a2) fun r47 =>
        j9 (!((decide (r46.Hi = r47.Hi)) && ((decide (r46.Lo = r47.Lo)) && true)))
        ))
    ) (fun j5 =>
    mIf (!r1) (
      j5 true
      ) (
      mPure (m_wide_Fits a0 a2) fun r48 =>
      mPure (m_ref01_Fits a0 a2) fun r49 =>
      j5 (!(r48 == r49))
      ))
def x_law01_WideAll : Cx Try.prog := ⟨tys, [s_wide_Cmp, s_law01_known, s_wide_Cut, s_wide_Fits, s_wide_Next, s_ref01_Fits, s_ref01_Cut, s_ref01_Cmp, s_ref01_Next, s_wide_Parse, s_ref01_Parse, s_wide_Text, s_ref01_Text, s_wide_Of, s_ref01_Of, s_wide_Bytes, s_ref01_Bytes], [4, 5, 9, 11, 13, 15, 17, 19], mixed⟩
def h_law01_WideAll : Hint := (.seq .d (.seq (.seq (.reg (.run [3, 4, 8] (.join [.slot 31 tBool] 4278190080 [] (.split 23 (.run [12, 16, 20, 24, 28, 32, 36, 40] .nil) (.run [16, 28, 13, 20, 25, 32, 36, 40] .nil)) (.run [44] (.join [.slot 40 tBool] 2190433320960 [] (.split 32 (.run [48, 52, 56, 60, 64, 68, 72, 76] .nil) (.run [52, 64, 49, 56, 61, 68, 72, 76] .nil)) (.run [80] (.join [.slot 49 tBool] 1121501860331520 [] (.split 41 (.run [84, 88, 92, 96, 100, 104, 108, 112] .nil) (.run [85, 89, 92, 97, 101, 104, 108, 112] .nil)) .nil))))))) .d) (.seq .d (.seq .d (.seq .d (.seq .d (.seq (.seq (.reg (.run [1, 5, 8, 12] (.sel 75 79 1133367955888714851287040 (.run [16, 20, 24, 28] .nil) (.run [16, 20, 24, 28] .nil) (.run [32] (.sel 80 84 36267774588438875241185280 (.run [36, 40, 44, 48] .nil) (.run [37, 41, 44, 48] .nil) (.run [52] (.sel 85 89 1160568786830044007717928960 (.run [56, 60, 64, 68] .nil) (.run [56, 60, 64, 68] .nil) (.run [72] (.join [.slot 96 tBool] 155980444949957914637289652224 [] (.split 90 (.run [76, 80, 84, 88, 92, 96] .nil) (.run [77, 85, 83, 88, 92, 96] .nil)) .nil))))))))) .d) (.seq .d (.seq .d (.seq (.reg (.run [1, 5, 8, 12] (.sel 112 116 155768905756044828855914889876602880 (.run [16, 20, 24, 28] .nil) (.run [16, 20, 24, 28] .nil) (.run [32] (.split 117 (.run [37, 49, 43] (.join [.slot 120 tStr, .slot 122 tSl] 6646139978924579364519035301401722880 [] (.both 11 13 (.run [55] .nil) (.run [46] .nil)) (.run [58, 60, 64, 68] .nil))) (.run [36, 40, 44, 48, 52, 56, 60, 64, 68] .nil)))))) .d))))))))))
theorem w_law01_WideAll : ∀ (a : Den [S_api_Word.ty, S_api_Word.ty, (tInt .i64), tStr]) (K : Den [tBool] → HP) (h : H), m_law01_WideAll a.1 a.2.1 a.2.2.1 a.2.2.2 K h = wpF x_law01_WideAll Try.f9 [S_api_Word.ty, S_api_Word.ty, (tInt .i64), tStr] [tBool] h_law01_WideAll a K h := fun a K h => by kernel_rfl
def s_law01_WideAll : Spec Try.prog := mkSpec x_law01_WideAll 9 Try.f9 [S_api_Word.ty, S_api_Word.ty, (tInt .i64), tStr] [tBool] false h_law01_WideAll (fun a => m_law01_WideAll a.1 a.2.1 a.2.2.1 a.2.2.2) w_law01_WideAll callee9 rfl
/-! sesame/sesamelaw01.WideBack -/
def m_law01_WideBack (a0 : S_api_Word) (a1 : Sl) (a2 : ByteArray) (K : (Bool) → H → Prop) : H → Prop :=
  m_wide_Bytes a0 fun r1 =>
  mAppend 5 1 1 #[(Value.int .u8 0)] r1 a1 fun s2 =>
  m_wide_Of s2 fun r3 =>
  m_wide_Text a0 fun r4 =>
  mPure (m_wide_Parse r4) fun r5 =>
  m_law01_known fun r6 =>
  mIf ((((((!r6) || (!decide ((r1.len : Int) = 16))) || (!decide (r3.2 = 0))) || (!((decide (r3.1.Hi = a0.Hi)) && ((decide (r3.1.Lo = a0.Lo)) && true)))) || (!decide (r5.2 = 0))) || (!((decide (r5.1.Hi = a0.Hi)) && ((decide (r5.1.Lo = a0.Lo)) && true)))) (
    K false
    ) (
    m_wide_Of a1 fun r7 =>
    mJoin (fun (s26 : Bool) =>
      mIf (s26 || ((!decide (r7.2 = 0)) && (!((decide (r7.1.Hi = 0)) && ((decide (r7.1.Lo = 0)) && true))))) (
        K false
        ) (
        mJoin (fun (s29 : Bool) =>
          mLoop (fun (rec32 : (Bool × Int) → H → Prop) (s31 : Bool × Int) =>
            mIf (decide (s31.2 < (a2.size : Int))) (
              mIf s31.1 (
                mByte a2 s31.2 fun x48 =>
                mJoin (fun (s50 : Bool) =>
                  mIf s50 (
                    rec32 (true, (iAdd .i64 s31.2 1))
                    ) (
                    mByte a2 s31.2 fun x57 =>
                    mIf (decide (97 ≤ x57)) (
                      mByte a2 s31.2 fun x59 =>
                      rec32 ((decide (x59 ≤ 102)), (iAdd .i64 s31.2 1))
                      ) (
                      rec32 (false, (iAdd .i64 s31.2 1))
                      )
                    )
                  ) (fun j51 =>
                  mIf (decide (48 ≤ x48)) (
                    mByte a2 s31.2 fun x60 =>
                    j51 (decide (x60 ≤ 57))
                    ) (
                    j51 false
                    ))
                ) (
                rec32 (false, (iAdd .i64 s31.2 1))
                )
              ) (
              mPure (m_wide_Parse a2) fun r61 =>
              mIf (!s31.1) (
                K ((decide (r61.2 = 22)) && ((decide (r61.1.Hi = 0)) && ((decide (r61.1.Lo = 0)) && true)))
                ) (
                mIf (decide (r61.2 = 0)) (
                  m_wide_Text r61.1 fun r63 =>
                  K (r63.toList == a2.toList)
                  ) (
                  K false
                  )
                )
              )
            ) (s29, 0)
          ) (fun j30 =>
          mIf ((decide (1 ≤ (a2.size : Int))) && (decide ((a2.size : Int) ≤ 32))) (
            mByte a2 0 fun x64 =>
            j30 ((!decide (x64 = 48)) || (decide ((a2.size : Int) = 1)))
            ) (
            j30 false
            ))
        )
      ) (fun j27 =>
      mIf (!((decide (r7.2 = 0)) == (decide (16 ≤ (a1.len : Int))))) (
        j27 true
        ) (
        mIf (decide (r7.2 = 0)) (
          mCut a1 0 16 1 fun s73 =>
          mJoin (fun (s74 : Sl × ByteArray) =>
            mText s74.1 fun x76 =>
            j27 (!(x76.toList == s74.2.toList))
            ) (fun j75 =>
            mBoth (
              m_wide_Bytes r7.1 fun r77 =>
              mText s73 fun x78 =>
              j75 (r77, x78)
              ) (
              mText s73 fun x79 =>
              m_wide_Bytes r7.1 fun r80 =>
              j75 (r80, x79)
              ))
          ) (
          j27 false
          )
        ))
    )
def x_law01_WideBack : Cx Try.prog := ⟨tys, [s_law01_known, s_wide_Parse, s_wide_Text, s_wide_Of, s_wide_Bytes], [3, 8, 10, 12, 16], mixed⟩
def h_law01_WideBack : Hint := (.seq .d (.seq .d (.seq .d (.seq .d (.seq (.seq (.reg (.run [3, 7, 11] (.sel 35 39 1030792151040 (.run [15, 19, 23, 27] .nil) (.run [15, 19, 23, 27] .nil) (.run [31] (.sel 40 43 15393162788864 (.run [35, 39, 43] .nil) (.run [35, 39, 43] .nil) (.run [47] (.sel 44 48 527765581332480 (.run [51, 55, 59, 63] .nil) (.run [51, 55, 59, 63] .nil) (.run [67] (.sel 49 52 7881299347898368 (.run [71, 75, 79] .nil) (.run [71, 75, 79] .nil) (.run [83] (.sel 53 57 270215977642229760 (.run [87, 91, 95, 99] .nil) (.run [87, 91, 95, 99] .nil) .nil))))))))))) .d) (.seq .d (.seq (.seq (.reg (.run [0, 4, 8, 12, 16, 20, 24] (.join [.slot 81 tBool] 4834522686837799287521280 [] (.split 69 (.run [28, 32, 36, 40, 44, 48, 52, 56, 60, 64, 68, 72] .nil) (.run [28, 32, 36] (.split 72 (.run [52, 56, 41] (.join [.slot 74 tSl, .slot 78 tStr] 321120920835135874531328 [] (.both 11 15 (.run [62] .nil) (.run [47] .nil)) (.run [50, 64, 68, 72] .nil))) (.run [40, 44, 48, 52, 56, 60, 64, 68, 72] .nil)))) (.run [76] (.sel 82 90 2466208672013843516400599040 (.run [80, 84, 88, 92, 96, 100, 104, 108] .nil) (.run [80, 84, 88] (.sel 85 89 1160568786830044007717928960 (.run [96, 93, 100, 104] .nil) (.run [92, 96, 100, 104] .nil) (.run [108] .nil))) .nil))))) .d) (.seq (.reg (.run [3, 7, 11, 15] (.sel 94 98 594211218856982531951579627520 (.run [19, 23, 27, 31] .nil) (.run [19, 23, 27, 31] .nil) (.run [35] (.join [.slot 108 tBool] 647769456716625224164815337947136 [] (.split 99 (.run [39, 43, 47, 51] (.sel 103 107 304236144054775056359208769290240 (.run [55, 59, 63, 67] .nil) (.run [55, 59, 63, 67] .nil) (.run [71] .nil))) (.run [39, 43, 47, 51, 55, 59, 63, 67, 71] .nil)) (.run [75] .nil)))))) (.seq (.seq .d (.blk (.loop [.slot 14 tBool, .slot 15 (tInt .i64)] 1393796574259126839029128938474210553020416 [] (.seq .d (.seq (.blk (.reg (.run [3, 7] (.split 116 (.run [11, 15, 19, 23, 27] (.join [.slot 126 tBool] 164824271477329568240072075474762727424 [] (.split 121 (.run [31, 35, 39, 43, 47] .nil) (.run [31, 35, 39, 43, 47] .nil)) (.run [51] (.split 127 (.run [55, 59, 63, 67, 71, 75, 79, 83, 87, 91, 95, 99, 103] .nil) (.run [55, 59, 63, 67, 71] (.split 132 (.run [75, 79, 83, 87, 91, 95, 99, 103] .nil) (.run [75, 79, 83, 87, 91, 95, 99, 103] .nil))))))) (.run [11, 15, 19, 23, 27, 31, 35, 39, 43, 47, 51, 55, 59, 63, 67, 71, 75, 79, 83, 87, 91, 95, 99, 103] .nil))))) .d))))) (.seq .d (.seq (.seq .d (.cond (.seq (.reg (.run [3, 7, 11] (.sel 149 153 21408715390589398215874289541742427045741199360 (.run [15, 19, 23, 27] .nil) (.run [15, 19, 23, 27] .nil) (.run [31] .nil)))) .d) .d)) (.seq (.reg (.run [3, 7, 11] (.split 156 (.run [15, 19, 23, 27, 31, 35] .nil) (.run [15, 19, 23, 27, 31, 35] .nil)))) .d))))))))))))
theorem w_law01_WideBack : ∀ (a : Den [S_api_Word.ty, tSl, tStr]) (K : Den [tBool] → HP) (h : H), m_law01_WideBack a.1 a.2.1 a.2.2 K h = wpF x_law01_WideBack Try.f10 [S_api_Word.ty, tSl, tStr] [tBool] h_law01_WideBack a K h := fun a K h => by kernel_rfl
def s_law01_WideBack : Spec Try.prog := mkSpec x_law01_WideBack 10 Try.f10 [S_api_Word.ty, tSl, tStr] [tBool] false h_law01_WideBack (fun a => m_law01_WideBack a.1 a.2.1 a.2.2) w_law01_WideBack callee10 rfl
/-! sesame/sesamelaw01.marked -/
def m_law01_marked (a0 : Sl) (K : (Bool) → H → Prop) : H → Prop :=
  mLoop (fun (rec2 : Int → H → Prop) (s1 : Int) =>
    mIf (decide (s1 < (a0.len : Int))) (
      mLoop (fun (rec4 : Int → H → Prop) (s3 : Int) =>
        mIdx a0 s1 1 fun ad5 =>
        mLoad cSl ad5 fun x6 =>
        mIf (decide (s3 < (x6.len : Int))) (
          mIdx a0 s1 1 fun ad7 =>
          mLoad cSl ad7 fun x8 =>
          mIdx x8 s3 1 fun ad9 =>
          mStore ad9 [(Value.int .u8 (IntKind.wrap .u8 (iAdd .i64 s1 1)))] <|
          rec4 (iAdd .i64 s3 1)
          ) (
          rec2 (iAdd .i64 s1 1)
          )
        ) 0
      ) (
      mLoop (fun (rec11 : (Sl × Int) → H → Prop) (s10 : Sl × Int) =>
        mIf (decide (s10.2 < (a0.len : Int))) (
          mIdx a0 s10.2 1 fun ad12 =>
          mLoad cSl ad12 fun x13 =>
          mLoop (fun (rec15 : (Sl × Int) → H → Prop) (s14 : Sl × Int) =>
            mIf (decide (s14.2 < 40)) (
              mApp 5 1 1 #[(Value.int .u8 0)] 1 [(Value.int .u8 (IntKind.wrap .u8 (iAdd .i64 s10.2 1)))] s14.1 fun s16 =>
              rec15 (s16, (iAdd .i64 s14.2 1))
              ) (
              mApp 68 1 24 #[(Sl.val Sl.nil)] 1 [(Sl.val s14.1)] s10.1 fun s17 =>
              rec11 (s17, (iAdd .i64 s10.2 1))
              )
            ) (x13, 0)
          ) (
          mLoop (fun (rec19 : Int → H → Prop) (s18 : Int) =>
            mIf (decide (s18 < (a0.len : Int))) (
              mLoop (fun (rec21 : Int → H → Prop) (s20 : Int) =>
                mIdx s10.1 s18 1 fun ad22 =>
                mLoad cSl ad22 fun x23 =>
                mIf (decide (s20 < (x23.len : Int))) (
                  mIdx s10.1 s18 1 fun ad24 =>
                  mLoad cSl ad24 fun x25 =>
                  mIdx x25 s20 1 fun ad26 =>
                  mLoad (cInt .u8) ad26 fun x27 =>
                  mJoin (fun (s40 : Bool) =>
                    mIf s40 (
                      K false
                      ) (
                      rec21 (iAdd .i64 s20 1)
                      )
                    ) (fun j41 =>
                    mIf (!decide (x27 = (IntKind.wrap .u8 (iAdd .i64 s18 1)))) (
                      j41 true
                      ) (
                      mIdx a0 s18 1 fun ad42 =>
                      mLoad cSl ad42 fun x43 =>
                      mIf (decide (s20 < (x43.len : Int))) (
                        mIdx a0 s18 1 fun ad48 =>
                        mLoad cSl ad48 fun x49 =>
                        mIdx x49 s20 1 fun ad50 =>
                        mLoad (cInt .u8) ad50 fun x51 =>
                        j41 (!decide (x51 = (IntKind.wrap .u8 (iAdd .i64 s18 1))))
                        ) (
                        j41 false
                        )
                      ))
                  ) (
                  rec19 (iAdd .i64 s18 1)
                  )
                ) 0
              ) (
              K true
              )
            ) 0
          )
        ) (Sl.nil, 0)
      )
    ) 0
def x_law01_marked : Cx Try.prog := ⟨tys, [], [53, 57], mixed⟩
def h_law01_marked : Hint := (.seq .d (.seq (.seq .d (.blk (.loop [.slot 3 (tInt .i64)] 34359736344 [] (.seq .d (.seq (.blk (.seq .d (.blk (.loop [.slot 4 (tInt .i64)] 34359607312 [] .d)))) .d))))) (.seq .d (.seq (.seq .d (.blk (.loop [.slot 5 tSl, .slot 6 (tInt .i64)] 576460717943685600 [] (.seq .d (.seq (.blk (.seq .d (.seq (.seq .d (.blk (.loop [.slot 7 tSl, .slot 8 (tInt .i64)] 35993612646875520 [] .d))) .d))) .d))))) (.seq (.seq .d (.blk (.loop [.slot 9 (tInt .i64)] 162259276829212786930825706866180 [] (.seq .d (.seq (.blk (.seq .d (.blk (.loop [.slot 10 (tInt .i64)] 162259276829176469903430591185924 [] (.seq .d (.seq (.blk (.seq (.reg (.run [3, 7, 11, 15, 19, 23, 27, 31, 35, 39, 43, 47] (.join [.slot 106 tBool] 162259199457960908055310829092864 [] (.split 85 (.run [51, 55, 59, 63, 67, 71, 75, 79, 83, 87, 91, 95, 99, 103, 107, 111, 115, 119, 123, 127, 131] .nil) (.run [51, 55, 59, 63, 67, 71, 75, 79] (.split 93 (.run [83, 87, 91, 95, 99, 103, 107, 111, 115, 119, 123, 127, 131] .nil) (.run [83, 87, 91, 95, 99, 103, 107, 111, 115, 119, 123, 127, 131] .nil)))) .nil))) .d)) .d)))))) .d))))) .d)))))
theorem w_law01_marked : ∀ (a : Den [tSl]) (K : Den [tBool] → HP) (h : H), m_law01_marked a K h = wpF x_law01_marked Try.f45 [tSl] [tBool] h_law01_marked a K h := fun a K h => by kernel_rfl
def s_law01_marked : Spec Try.prog := mkSpec x_law01_marked 45 Try.f45 [tSl] [tBool] false h_law01_marked (fun a => m_law01_marked a) w_law01_marked callee45 rfl
/-! sesame/sesamelaw01.WideFresh -/
def m_law01_WideFresh (a0 : S_api_Word) (a1 : S_api_Word) (K : (Bool) → H → Prop) : H → Prop :=
  m_wide_Bytes a0 fun r1 =>
  m_wide_Bytes a0 fun r2 =>
  m_wide_Bytes a1 fun r3 =>
  m_law01_known fun r4 =>
  mJoin (fun (s7 : Bool) =>
    mIf ((s7 || (!decide ((r1.len : Int) = 16))) || (!decide ((r3.len : Int) = 16))) (
      K false
      ) (
      mText r1 fun x9 =>
      mBytes 5 x9 fun s10 =>
      mApp 5 1 1 #[(Value.int .u8 0)] 3 [(Value.int .u8 165), (Value.int .u8 166), (Value.int .u8 167)] s10 fun s11 =>
      mCut s11 0 16 1 fun s12 =>
      m_wide_Of s12 fun r13 =>
      mJoin (fun (s16 : Bool) =>
        mJoin (fun (s20 : Bool) =>
          mJoin (fun (s24 : Bool) =>
            mJoin (fun (s28 : Bool) =>
              mJoin (fun (s32 : Bool) =>
                mIf s32 (
                  K false
                  ) (
                  mIdx s11 0 1 fun ad34 =>
                  mLoad (cInt .u8) ad34 fun x35 =>
                  mIdx s11 0 1 fun ad36 =>
                  mStore ad36 [(Value.int .u8 (iAdd .u8 x35 1))] <|
                  mCut s11 0 16 1 fun s37 =>
                  m_wide_Of s37 fun r38 =>
                  mIf ((decide (r38.2 = 0)) && (!((decide (r38.1.Hi = a0.Hi)) && ((decide (r38.1.Lo = a0.Lo)) && true)))) (
                    m_wide_Bytes a0 fun r41 =>
                    mText r41 fun x42 =>
                    K (x42.toList == x9.toList)
                    ) (
                    K false
                    )
                  )
                ) (fun j33 =>
                mIf s28 (
                  j33 true
                  ) (
                  mNew 68 #[(Sl.val r1), (Sl.val r2), (Sl.val r3)] fun ad43 =>
                  m_law01_marked (⟨some ad43, 3, 3⟩ : Sl) fun r44 =>
                  j33 (!r44)
                  ))
              ) (fun j29 =>
              mIf s24 (
                j29 true
                ) (
                mIdx s11 18 1 fun ad45 =>
                mLoad (cInt .u8) ad45 fun x46 =>
                j29 (!decide (x46 = 167))
                ))
            ) (fun j25 =>
            mIf s20 (
              j25 true
              ) (
              mIdx s11 17 1 fun ad47 =>
              mLoad (cInt .u8) ad47 fun x48 =>
              j25 (!decide (x48 = 166))
              ))
          ) (fun j21 =>
          mIf s16 (
            j21 true
            ) (
            mIdx s11 16 1 fun ad49 =>
            mLoad (cInt .u8) ad49 fun x50 =>
            j21 (!decide (x50 = 165))
            ))
        ) (fun j17 =>
        mIf ((!decide (r13.2 = 0)) || (!((decide (r13.1.Hi = a0.Hi)) && ((decide (r13.1.Lo = a0.Lo)) && true)))) (
          j17 true
          ) (
          mCut s11 0 16 1 fun s51 =>
          mText s51 fun x52 =>
          j17 (!(x52.toList == x9.toList))
          ))
      )
    ) (fun j8 =>
    mIf (!r4) (
      j8 true
      ) (
      mText r1 fun x53 =>
      mText r2 fun x54 =>
      j8 (!(x53.toList == x54.toList))
      ))
def x_law01_WideFresh : Cx Try.prog := ⟨tys, [s_law01_known, s_wide_Of, s_wide_Bytes, s_law01_marked], [2, 3, 10, 12, 42], mixed⟩
def h_law01_WideFresh : Hint := (.seq .d (.seq .d (.seq .d (.seq .d (.seq (.seq (.reg (.run [3, 7, 11] (.join [.slot 27 tBool] 264241152 [] (.split 21 (.run [15, 19, 23, 27, 31, 35] .nil) (.run [15, 19, 23, 27, 31, 35] .nil)) (.run [39] (.sel 28 32 8053063680 (.run [43, 47, 51, 55] .nil) (.run [43, 47, 51, 55] .nil) (.run [59] (.sel 33 37 257698037760 (.run [63, 67, 71, 75] .nil) (.run [63, 67, 71, 75] .nil) .nil))))))) .d) (.seq .d (.seq .d (.seq .d (.seq (.seq (.reg (.run [3, 7, 11] (.sel 52 56 135107988821114880 (.run [15, 19, 23, 27] .nil) (.run [15, 19, 23, 27] .nil) (.run [31] (.join [.slot 63 tBool] 18158513697557839872 [] (.split 57 (.run [35, 39, 43, 47, 51, 55] .nil) (.run [35, 39, 43, 47, 51, 55] .nil)) (.run [59] (.join [.slot 69 tBool] 1143698132569992200192 [] (.split 64 (.run [63, 67, 71, 75, 79] .nil) (.run [63, 67, 71, 75, 79] .nil)) (.run [83] (.join [.slot 75 tBool] 73196680484479500812288 [] (.split 70 (.run [87, 91, 95, 99, 103] .nil) (.run [87, 91, 95, 99, 103] .nil)) (.run [107] (.join [.slot 81 tBool] 4684587551006688051986432 [] (.split 76 (.run [111, 115, 119, 123, 127] .nil) (.run [111, 115, 119, 123, 127] .nil)) (.run [131] (.join [.slot 89 tBool] 1228268632728463241501474816 [] (.split 82 (.run [135, 139, 143, 147, 151, 155, 159] .nil) (.run [135, 139, 143, 147, 151, 155, 159] .nil)) .nil))))))))))))) .d) (.seq .d (.seq .d (.seq (.reg (.run [3, 7, 11] (.sel 104 108 608472288109550112718417538580480 (.run [15, 19, 23, 27] .nil) (.run [15, 19, 23, 27] .nil) (.run [31] (.split 109 (.run [35, 39, 43, 47, 51, 55, 59] .nil) (.run [35, 39, 43, 47, 51, 55, 59] .nil)))))) .d))))))))))))
theorem w_law01_WideFresh : ∀ (a : Den [S_api_Word.ty, S_api_Word.ty]) (K : Den [tBool] → HP) (h : H), m_law01_WideFresh a.1 a.2 K h = wpF x_law01_WideFresh Try.f11 [S_api_Word.ty, S_api_Word.ty] [tBool] h_law01_WideFresh a K h := fun a K h => by kernel_rfl
def s_law01_WideFresh : Spec Try.prog := mkSpec x_law01_WideFresh 11 Try.f11 [S_api_Word.ty, S_api_Word.ty] [tBool] false h_law01_WideFresh (fun a => m_law01_WideFresh a.1 a.2) w_law01_WideFresh callee11 rfl
end Go.Proofs.Ytnmaknkbdfpbkaa.K
