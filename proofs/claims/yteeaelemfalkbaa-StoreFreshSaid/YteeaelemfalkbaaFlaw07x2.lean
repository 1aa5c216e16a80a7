/- Functions of the program, printed by a program of mine: law07_two_play, law07_sameInts, law07_two_bytes, law07_StoreFresh, law07_two_told, law07_StoreAll -/
import Derived.Test.YteeaelemfalkbaaT
import Derived.Test.YteeaelemfalkbaaFlaw07
import Derived.Test.YteeaelemfalkbaaFref07
import Derived.Test.YteeaelemfalkbaaFstore
namespace Go.Proofs.Yteeaelemfalkbaa.K
open Go Go.Proofs
/-! (sesame/sesamelaw07.two).play -/
def m_law07_two_play (a0 : S_law07_two) (a1 : S_law07_Op) (K : (Bool) → H → Prop) : H → Prop :=
  mIf (decide (a1.Kind = 0)) (
    m_store_Store_Create a0.S a1.N fun r1 =>
    m_ref07_Store_Create a0.Q a1.N fun r2 =>
    K ((decide (r1.1 = r2.1)) && (decide (r1.2 = r2.2)))
    ) (
    mIf (decide (a1.Kind = 1)) (
      m_store_Store_Destroy a0.S a1.Id fun r3 =>
      m_ref07_Store_Destroy a0.Q a1.Id fun r4 =>
      K (decide (r3 = r4))
      ) (
      mIf (decide (a1.Kind = 2)) (
        m_store_Store_Read a0.S a1.Id a1.Off a1.N fun r5 =>
        m_ref07_Store_Read a0.Q a1.Id a1.Off a1.N fun r6 =>
        m_law07_same r5.1 r6.1 fun r7 =>
        mLoop (fun (rec9 : Int → H → Prop) (s8 : Int) =>
          mIf (decide (s8 < (r5.1.len : Int))) (
            mIdx r5.1 s8 1 fun ad10 =>
            mStore ad10 [(Value.int .u8 165)] <|
            rec9 (iAdd .i64 s8 1)
            ) (
            K (r7 && (decide (r5.2 = r6.2)))
            )
          ) 0
        ) (
        mIf (decide (a1.Kind = 3)) (
          m_ref07_Store_Write a0.Q a1.Id a1.Off a1.Data fun r11 =>
          m_law07_lent a1.Data fun r12 =>
          mCut r12 0 (a1.Data.len : Int) 1 fun s13 =>
          m_store_Store_Write a0.S a1.Id a1.Off s13 fun r14 =>
          m_law07_lent a1.Data fun r15 =>
          m_law07_same r12 r15 fun r16 =>
          mLoop (fun (rec18 : Int → H → Prop) (s17 : Int) =>
            mIf (decide (s17 < (r12.len : Int))) (
              mIdx r12 s17 1 fun ad19 =>
              mStore ad19 [(Value.int .u8 90)] <|
              rec18 (iAdd .i64 s17 1)
              ) (
              K ((decide (r14 = r11)) && r16)
              )
            ) 0
          ) (
          mIf (decide (a1.Kind = 4)) (
            m_store_Store_SetNext a0.S a1.N fun r20 =>
            m_ref07_Store_SetNext a0.Q a1.N fun r21 =>
            K (decide (r20 = r21))
            ) (
            m_store_Store_May a0.S a1.N fun r22 =>
            m_ref07_Store_May a0.Q a1.N fun r23 =>
            K (decide (r22 = r23))
            )
          )
        )
      )
    )
def x_law07_two_play : Cx Try.prog := ⟨tys, [s_store_Store_Create, s_store_Store_Read, s_law07_same, s_store_Store_Write, s_store_Store_Destroy, s_ref07_Store_Read, s_store_Store_May, s_ref07_Store_Create, s_ref07_Store_Destroy, s_ref07_Store_Write, s_law07_lent, s_store_Store_SetNext, s_ref07_Store_SetNext, s_ref07_Store_May], [2, 3], [], mixed⟩
def h_law07_two_play : Hint := (.seq .d (.seq (.seq .d (.blk (.seq .d (.cond (.seq .d (.seq .d (.seq (.reg (.run [3, 7, 11, 15] (.sel 45 49 1055531162664960 (.run [19, 23, 27, 31] .nil) (.run [19, 23, 27, 31] .nil) (.run [35] .nil)))) .d))) (.seq .d (.cond .d (.seq .d (.cond (.seq .d (.seq .d (.seq (.reg (.run [3, 7, 11, 15] (.sel 93 97 297105609428491265975789813760 (.run [19, 23, 27, 31] .nil) (.run [19, 23, 27, 31] .nil) (.run [35] .nil)))) (.seq (.seq .d (.blk (.loop [.slot 15 (tInt .i64)] 161942364179156306041203834519552 [] .d))) .d)))) (.seq .d (.cond (.seq .d (.seq .d (.seq (.reg (.run [0, 8, 16, 24, 28, 5, 13, 21, 33, 36, 40, 47, 48] .nil)) (.seq .d (.seq (.seq .d (.blk (.loop [.slot 20 (tInt .i64)] 356115024889035888291398501166353522799673344 [] .d))) (.seq (.reg (.run [3, 7, 11, 15] (.sel 151 153 17126972312471518572699431633393941636592959488 (.run [19, 23] .nil) (.run [19, 23] .nil) (.run [27] .nil)))) .d)))))) .d)))))))))) (.seq (.reg (.run [0, 8, 20, 28, 5, 13, 25, 33, 19, 39, 40, 44] .nil)) .d)))
theorem w_law07_two_play : ∀ (a : Den [S_law07_two.ty, S_law07_Op.ty]) (K : Den [tBool] → HP) (h : H), m_law07_two_play a.1 a.2 K h = wpF x_law07_two_play Try.f26 [S_law07_two.ty, S_law07_Op.ty] [tBool] h_law07_two_play a K h := fun a K h => by kernel_rfl
def s_law07_two_play : Spec Try.prog := mkSpec x_law07_two_play 26 Try.f26 [S_law07_two.ty, S_law07_Op.ty] [tBool] false h_law07_two_play (fun a => m_law07_two_play a.1 a.2) w_law07_two_play callee26 rfl
/-! sesame/sesamelaw07.sameInts -/
def m_law07_sameInts (a0 : Sl) (a1 : Sl) (K : (Bool) → H → Prop) : H → Prop :=
  mIf (!decide ((a0.len : Int) = (a1.len : Int))) (
    K false
    ) (
    mLoop (fun (rec2 : Int → H → Prop) (s1 : Int) =>
      mIf (decide (s1 < (a0.len : Int))) (
        mIdx a0 s1 1 fun ad3 =>
        mIdx a1 s1 1 fun ad4 =>
        mLoad (cInt .i64) ad3 fun x5 =>
        mLoad (cInt .i64) ad4 fun x6 =>
        mIf (!decide (x5 = x6)) (
          K false
          ) (
          rec2 (iAdd .i64 s1 1)
          )
        ) (
        K true
        )
      ) 0
    )
def x_law07_sameInts : Cx Try.prog := ⟨tys, [], [], [], mixed⟩
def h_law07_sameInts : Hint := (.seq .d (.seq .d (.seq (.seq .d (.blk (.loop [.slot 5 (tInt .i64)] 67106864 [] (.seq .d (.seq (.blk (.seq (.reg (.run [0, 4, 8, 16, 20, 24, 14, 30, 32] .nil)) .d)) .d))))) .d)))
theorem w_law07_sameInts : ∀ (a : Den [tSl, tSl]) (K : Den [tBool] → HP) (h : H), m_law07_sameInts a.1 a.2 K h = wpF x_law07_sameInts Try.f29 [tSl, tSl] [tBool] h_law07_sameInts a K h := fun a K h => by kernel_rfl
def s_law07_sameInts : Spec Try.prog := mkSpec x_law07_sameInts 29 Try.f29 [tSl, tSl] [tBool] false h_law07_sameInts (fun a => m_law07_sameInts a.1 a.2) w_law07_sameInts callee29 rfl
/-! (sesame/sesamelaw07.two).bytes -/
def m_law07_two_bytes (a0 : S_law07_two) (K : (Bool) → H → Prop) : H → Prop :=
  mLoop (fun (rec2 : Int → H → Prop) (s1 : Int) =>
    mDeref a0.Q fun ad3 =>
    mLoad cSl (ad3.add 2) fun x4 =>
    mIf (decide (s1 < (x4.len : Int))) (
      mDeref a0.Q fun ad5 =>
      mLoad cSl (ad5.add 2) fun x6 =>
      mIdx x6 s1 2 fun ad7 =>
      mLoad S_ref07_Object.cells ad7 fun x8 =>
      mLoop (fun (rec10 : Int → H → Prop) (s9 : Int) =>
        mIf (decide (s9 < (x8.B.len : Int))) (
          m_store_Store_Read a0.S x8.Id s9 (iMin 1024 (iSub .i64 (x8.B.len : Int) s9)) fun r11 =>
          mJoin (fun (s14 : Bool) =>
            mIf s14 (
              K false
              ) (
              rec10 (iAdd .i64 s9 1024)
              )
            ) (fun j15 =>
            mIf (!decide (r11.2 = 0)) (
              j15 true
              ) (
              mCut x8.B s9 (iAdd .i64 s9 (iMin 1024 (iSub .i64 (x8.B.len : Int) s9))) 1 fun s16 =>
              m_law07_same r11.1 s16 fun r17 =>
              j15 (!r17)
              ))
          ) (
          rec2 (iAdd .i64 s1 1)
          )
        ) 0
      ) (
      K true
      )
    ) 0
def x_law07_two_bytes : Cx Try.prog := ⟨tys, [s_store_Store_Read, s_law07_same], [1, 4], [], mixed⟩
def h_law07_two_bytes : Hint := (.seq .d (.seq (.seq .d (.blk (.loop [.slot 3 (tInt .i64)] 18446744073709551612 [] (.seq .d (.seq (.blk (.seq .d (.seq .d (.blk (.loop [.slot 5 (tInt .i64)] 18446744073575334372 [] (.seq .d (.seq (.blk (.seq .d (.seq .d (.seq (.reg (.run [3, 7, 11] (.join [.slot 63 tBool] 18437736874454810624 [] (.split 52 (.run [15, 19, 23, 27, 31, 35, 39, 43, 47, 51, 55] .nil) (.run [15, 19, 23, 27, 31, 35, 39, 43, 47, 51, 55] .nil)) .nil))) .d)))) .d))))))) .d))))) .d))
theorem w_law07_two_bytes : ∀ (a : Den [S_law07_two.ty]) (K : Den [tBool] → HP) (h : H), m_law07_two_bytes a K h = wpF x_law07_two_bytes Try.f30 [S_law07_two.ty] [tBool] h_law07_two_bytes a K h := fun a K h => by kernel_rfl
def s_law07_two_bytes : Spec Try.prog := mkSpec x_law07_two_bytes 30 Try.f30 [S_law07_two.ty] [tBool] false h_law07_two_bytes (fun a => m_law07_two_bytes a) w_law07_two_bytes callee30 rfl
/-! sesame/sesamelaw07.StoreFresh -/
def m_law07_StoreFresh (a0 : Sl) (a1 : Int) (a2 : Int) (K : (Bool) → H → Prop) : H → Prop :=
  m_law07_head fun r1 =>
  mIf (!r1) (
    K false
    ) (
    m_law07_begins 4 64 fun r2 =>
    mIf ((!r2.2) || (r2.1.S.isNone)) (
      K false
      ) (
      mLoop (fun (rec4 : Int → H → Prop) (s3 : Int) =>
        mIf (decide (s3 < (a0.len : Int))) (
          mIdx a0 s3 6 fun ad5 =>
          mLoad S_law07_Op.cells ad5 fun x6 =>
          m_law07_two_play r2.1 x6 fun r7 =>
          mIf (!r7) (
            K false
            ) (
            rec4 (iAdd .i64 s3 1)
            )
          ) (
          m_ref07_Store_Ids r2.1.Q fun r8 =>
          mLoop (fun (rec10 : (Sl × Sl × Int) → H → Prop) (s9 : Sl × Sl × Int) =>
            mIf (decide (s9.2.2 < 2)) (
              mLoop (fun (rec12 : (Sl × Int) → H → Prop) (s11 : Sl × Int) =>
                mIf (decide (s11.2 < (r8.len : Int))) (
                  mIdx r8 s11.2 1 fun ad13 =>
                  mLoad (cInt .i64) ad13 fun x14 =>
                  m_store_Store_Read r2.1.S x14 a1 a2 fun r15 =>
                  mIdx r8 s11.2 1 fun ad16 =>
                  mLoad (cInt .i64) ad16 fun x17 =>
                  m_ref07_Store_Read r2.1.Q x17 a1 a2 fun r18 =>
                  mJoin (fun (s20 : Bool) =>
                    mIf s20 (
                      K false
                      ) (
                      mApp 30 1 24 #[(Sl.val Sl.nil)] 1 [(Sl.val r15.1)] s11.1 fun s22 =>
                      rec12 (s22, (iAdd .i64 s11.2 1))
                      )
                    ) (fun j21 =>
                    mIf (!decide (r15.2 = r18.2)) (
                      j21 true
                      ) (
                      m_law07_same r15.1 r18.1 fun r23 =>
                      j21 (!r23)
                      ))
                  ) (
                  m_store_Store_Ids r2.1.S fun r24 =>
                  mApp 48 1 24 #[(Sl.val Sl.nil)] 1 [(Sl.val r24)] s9.2.1 fun s25 =>
                  rec10 (s11.1, s25, (iAdd .i64 s9.2.2 1))
                  )
                ) (s9.1, 0)
              ) (
              mLoop (fun (rec27 : Int → H → Prop) (s26 : Int) =>
                mIf (decide (s26 < (s9.1.len : Int))) (
                  mNZ (r8.len : Int) <|
                  mIdx r8 (iRem .i64 s26 (r8.len : Int)) 1 fun ad28 =>
                  mLoad (cInt .i64) ad28 fun x29 =>
                  m_ref07_Store_Read r2.1.Q x29 a1 a2 fun r30 =>
                  mIdx s9.1 s26 1 fun ad31 =>
                  mLoad cSl ad31 fun x32 =>
                  m_law07_same x32 r30.1 fun r33 =>
                  mIf (!r33) (
                    K false
                    ) (
                    rec27 (iAdd .i64 s26 1)
                    )
                  ) (
                  mIdx s9.2.1 0 1 fun ad34 =>
                  mLoad cSl ad34 fun x35 =>
                  m_law07_sameInts x35 r8 fun r36 =>
                  mJoin (fun (s40 : Bool) =>
                    mIf s40 (
                      K false
                      ) (
                      mLoop (fun (rec43 : Int → H → Prop) (s42 : Int) =>
                        mIf (decide (s42 < (s9.1.len : Int))) (
                          mLoop (fun (rec45 : Int → H → Prop) (s44 : Int) =>
                            mIdx s9.1 s42 1 fun ad46 =>
                            mLoad cSl ad46 fun x47 =>
                            mIf (decide (s44 < (x47.len : Int))) (
                              mIdx s9.1 s42 1 fun ad48 =>
                              mLoad cSl ad48 fun x49 =>
                              mIdx x49 s44 1 fun ad50 =>
                              mStore ad50 [(Value.int .u8 (IntKind.wrap .u8 (iAdd .i64 s42 1)))] <|
                              rec45 (iAdd .i64 s44 1)
                              ) (
                              rec43 (iAdd .i64 s42 1)
                              )
                            ) 0
                          ) (
                          mLoop (fun (rec52 : Int → H → Prop) (s51 : Int) =>
                            mIf (decide (s51 < (s9.2.1.len : Int))) (
                              mLoop (fun (rec54 : Int → H → Prop) (s53 : Int) =>
                                mIdx s9.2.1 s51 1 fun ad55 =>
                                mLoad cSl ad55 fun x56 =>
                                mIf (decide (s53 < (x56.len : Int))) (
                                  mIdx s9.2.1 s51 1 fun ad57 =>
                                  mLoad cSl ad57 fun x58 =>
                                  mIdx x58 s53 1 fun ad59 =>
                                  mStore ad59 [(Value.int .i64 (iSub .i64 (iSub .i64 0 s51) 1))] <|
                                  rec54 (iAdd .i64 s53 1)
                                  ) (
                                  rec52 (iAdd .i64 s51 1)
                                  )
                                ) 0
                              ) (
                              mLoop (fun (rec61 : (Sl × Int) → H → Prop) (s60 : Sl × Int) =>
                                mIf (decide (s60.2 < (s9.1.len : Int))) (
                                  mIdx s9.1 s60.2 1 fun ad62 =>
                                  mLoad cSl ad62 fun x63 =>
                                  mApp 5 1 1 #[(Value.int .u8 0)] 1 [(Value.int .u8 (IntKind.wrap .u8 (iAdd .i64 s60.2 1)))] x63 fun s64 =>
                                  mApp 30 1 24 #[(Sl.val Sl.nil)] 1 [(Sl.val s64)] s60.1 fun s65 =>
                                  rec61 (s65, (iAdd .i64 s60.2 1))
                                  ) (
                                  mLoop (fun (rec67 : (Sl × Int) → H → Prop) (s66 : Sl × Int) =>
                                    mIf (decide (s66.2 < (s9.2.1.len : Int))) (
                                      mIdx s9.2.1 s66.2 1 fun ad68 =>
                                      mLoad cSl ad68 fun x69 =>
                                      mApp 3 1 8 #[(Value.int .i64 0)] 1 [(Value.int .i64 (iSub .i64 (iSub .i64 0 s66.2) 1))] x69 fun s70 =>
                                      mApp 48 1 24 #[(Sl.val Sl.nil)] 1 [(Sl.val s70)] s66.1 fun s71 =>
                                      rec67 (s71, (iAdd .i64 s66.2 1))
                                      ) (
                                      mLoop (fun (rec73 : Int → H → Prop) (s72 : Int) =>
                                        mIf (decide (s72 < (s60.1.len : Int))) (
                                          mLoop (fun (rec75 : Int → H → Prop) (s74 : Int) =>
                                            mIdx s60.1 s72 1 fun ad76 =>
                                            mLoad cSl ad76 fun x77 =>
                                            mIf (decide (s74 < (x77.len : Int))) (
                                              mIdx s60.1 s72 1 fun ad78 =>
                                              mLoad cSl ad78 fun x79 =>
                                              mIdx x79 s74 1 fun ad80 =>
                                              mLoad (cInt .u8) ad80 fun x81 =>
                                              mJoin (fun (s94 : Bool) =>
                                                mIf s94 (
                                                  K false
                                                  ) (
                                                  rec75 (iAdd .i64 s74 1)
                                                  )
                                                ) (fun j95 =>
                                                mIf (!decide (x81 = (IntKind.wrap .u8 (iAdd .i64 s72 1)))) (
                                                  j95 true
                                                  ) (
                                                  mIdx s9.1 s72 1 fun ad96 =>
                                                  mLoad cSl ad96 fun x97 =>
                                                  mIf (decide (s74 < (x97.len : Int))) (
                                                    mIdx s9.1 s72 1 fun ad102 =>
                                                    mLoad cSl ad102 fun x103 =>
                                                    mIdx x103 s74 1 fun ad104 =>
                                                    mLoad (cInt .u8) ad104 fun x105 =>
                                                    j95 (!decide (x105 = (IntKind.wrap .u8 (iAdd .i64 s72 1))))
                                                    ) (
                                                    j95 false
                                                    )
                                                  ))
                                              ) (
                                              rec73 (iAdd .i64 s72 1)
                                              )
                                            ) 0
                                          ) (
                                          mLoop (fun (rec107 : Int → H → Prop) (s106 : Int) =>
                                            mIf (decide (s106 < (s66.1.len : Int))) (
                                              mLoop (fun (rec109 : Int → H → Prop) (s108 : Int) =>
                                                mIdx s66.1 s106 1 fun ad110 =>
                                                mLoad cSl ad110 fun x111 =>
                                                mIf (decide (s108 < (x111.len : Int))) (
                                                  mIdx s66.1 s106 1 fun ad112 =>
                                                  mLoad cSl ad112 fun x113 =>
                                                  mIdx x113 s108 1 fun ad114 =>
                                                  mLoad (cInt .i64) ad114 fun x115 =>
                                                  mJoin (fun (s128 : Bool) =>
                                                    mIf s128 (
                                                      K false
                                                      ) (
                                                      rec109 (iAdd .i64 s108 1)
                                                      )
                                                    ) (fun j129 =>
                                                    mIf (!decide (x115 = (iSub .i64 (iSub .i64 0 s106) 1))) (
                                                      j129 true
                                                      ) (
                                                      mIdx s9.2.1 s106 1 fun ad130 =>
                                                      mLoad cSl ad130 fun x131 =>
                                                      mIf (decide (s108 < (x131.len : Int))) (
                                                        mIdx s9.2.1 s106 1 fun ad136 =>
                                                        mLoad cSl ad136 fun x137 =>
                                                        mIdx x137 s108 1 fun ad138 =>
                                                        mLoad (cInt .i64) ad138 fun x139 =>
                                                        j129 (!decide (x139 = (iSub .i64 (iSub .i64 0 s106) 1)))
                                                        ) (
                                                        j129 false
                                                        )
                                                      ))
                                                  ) (
                                                  rec107 (iAdd .i64 s106 1)
                                                  )
                                                ) 0
                                              ) (
                                              m_store_Store_Ids r2.1.S fun r140 =>
                                              m_law07_sameInts r140 r8 fun r141 =>
                                              mIf r141 (
                                                m_law07_two_bytes r2.1 fun r143 =>
                                                K r143
                                                ) (
                                                K false
                                                )
                                              )
                                            ) 0
                                          )
                                        ) 0
                                      )
                                    ) (Sl.nil, 0)
                                  )
                                ) (Sl.nil, 0)
                              )
                            ) 0
                          )
                        ) 0
                      )
                    ) (fun j41 =>
                    mIf (!r36) (
                      j41 true
                      ) (
                      mIdx s9.2.1 1 1 fun ad144 =>
                      mLoad cSl ad144 fun x145 =>
                      m_law07_sameInts x145 r8 fun r146 =>
                      j41 (!r146)
                      ))
                  )
                ) 0
              )
            ) (Sl.nil, Sl.nil, 0)
          )
        ) 0
      )
    )
def x_law07_StoreFresh : Cx Try.prog := ⟨tys, [s_law07_head, s_store_Store_Read, s_law07_same, s_store_Store_Ids, s_law07_begins, s_law07_two_play, s_ref07_Store_Ids, s_ref07_Store_Read, s_law07_sameInts, s_law07_two_bytes], [7, 110, 116, 222, 224, 240, 242], [], mixed⟩
def h_law07_StoreFresh : Hint := (.seq .d (.seq .d (.seq .d (.seq (.seq (.reg (.run [3, 7, 11] (.sel 43 47 263882790666240 (.run [15, 19, 23, 27] .nil) (.run [15, 19, 23, 27] .nil) .nil))) .d) (.seq (.seq .d (.blk (.loop [.slot 9 (tInt .i64)] 4611404543450678848 [] (.seq .d (.seq (.blk (.seq (.reg (.run [4, 8, 12, 1, 18, 23, 24] .nil)) .d)) .d))))) (.seq .d (.seq .d (.seq .d (.seq (.seq .d (.blk (.loop [.slot 12 tSl, .slot 14 tSl, .slot 16 (tInt .i64)] 332306998946228931332463617655132224 [] (.seq .d (.seq (.blk (.seq (.seq .d (.blk (.loop [.slot 12 tSl, .slot 17 (tInt .i64)] 5192296858534237332720137627635776 [] (.seq .d (.seq (.blk (.seq (.reg (.run [0, 8, 12, 16, 24, 28, 5, 22, 35, 36, 40, 44, 48, 52] .nil)) (.seq (.reg (.run [0, 8, 12, 16, 24, 28, 5, 22, 35, 36, 40, 44, 48, 52] .nil)) (.seq (.seq (.reg (.run [3, 7, 11, 15] (.join [.slot 107 tBool] 314377348856600891571182394933248 [] (.split 102 (.run [19, 23, 27, 31, 35] .nil) (.run [19, 23, 27, 31, 35] .nil)) .nil))) .d) .d)))) .d))))) .d)) .d))))) (.seq (.seq .d (.blk (.loop [.slot 22 (tInt .i64)] 89202980461815493619913904864641680983195712 [] (.seq .d (.seq (.blk (.seq (.reg (.run [0, 8, 12, 16, 20, 24, 28, 36, 40, 5, 34, 47, 48, 52, 56, 60, 64] .nil)) .d)) .d))))) (.seq (.seq (.reg (.run [3, 7, 11, 15, 19, 23, 27] (.join [.slot 159 tBool] 1450083655789255239155218544960687058564870569984 [] (.split 152 (.run [31, 35, 39, 43, 47, 51, 55] .nil) (.run [31, 35, 39, 43, 47, 51, 55] .nil)) .nil))) .d) (.seq (.seq .d (.blk (.loop [.slot 25 (tInt .i64)] 24519927192352584402830634230720114221616806299105755136 [] (.seq .d (.seq (.blk (.seq .d (.blk (.loop [.slot 26 (tInt .i64)] 24519835117749432555946787398575653095786567975321993216 [] .d)))) .d))))) (.seq (.seq .d (.blk (.loop [.slot 27 (tInt .i64)] 411376114810372856684520561905785191840737028508569011302170624 [] (.seq .d (.seq (.blk (.seq .d (.blk (.loop [.slot 28 (tInt .i64)] 411374570054867663868551336691981824329079940819533850096959488 [] .d)))) .d))))) (.seq (.seq .d (.blk (.loop [.slot 13 tSl, .slot 29 (tInt .i64)] 107839375292463228877157521605782883356922332006195881529449140723712 [] .d))) (.seq (.seq .d (.blk (.loop [.slot 15 tSl, .slot 30 (tInt .i64)] 28269445196667480670773581343826348174717047801432213167655774807314694144 [] .d))) (.seq (.seq .d (.blk (.loop [.slot 31 (tInt .i64)] 7957171782556558004933079516199860108847286526061310239305073620387222006501319769063488 [] (.seq .d (.seq (.blk (.seq .d (.blk (.loop [.slot 32 (tInt .i64)] 7957171782554777023091782904795640144966537664197356135537022996477435427450414660845632 [] (.seq .d (.seq (.blk (.seq (.reg (.run [3, 7, 11, 15, 19, 23, 27, 31, 35, 39, 43, 47] (.join [.slot 291 tBool] 7957167988281406146109024330775096676921933876806705955337421185344439180903101967106048 [] (.split 270 (.run [51, 55, 59, 63, 67, 71, 75, 79, 83, 87, 91, 95, 99, 103, 107, 111, 115, 119, 123, 127, 131] .nil) (.run [51, 55, 59, 63, 67, 71, 75, 79] (.split 278 (.run [83, 87, 91, 95, 99, 103, 107, 111, 115, 119, 123, 127, 131] .nil) (.run [83, 87, 91, 95, 99, 103, 107, 111, 115, 119, 123, 127, 131] .nil)))) .nil))) .d)) .d)))))) .d))))) (.seq (.seq .d (.blk (.loop [.slot 33 (tInt .i64)] 2239744742177796253385659723982169792005675148101207927601576343400312823756530654828925292763368390720 [] (.seq .d (.seq (.blk (.seq .d (.blk (.loop [.slot 34 (tInt .i64)] 2239744742177294951563358659046877166699543152694386667801572616901132836067822350055936659112241135680 [] (.seq .d (.seq (.blk (.seq (.reg (.run [3, 7, 11, 15, 19, 23, 27, 31, 35, 39, 43, 47] (.join [.slot 339 tBool] 2239743674184286250102401083057591193345588195882388356573604127442987960070298055060602481790563647488 [] (.split 318 (.run [51, 55, 59, 63, 67, 71, 75, 79, 83, 87, 91, 95, 99, 103, 107, 111, 115, 119, 123, 127, 131] .nil) (.run [51, 55, 59, 63, 67, 71, 75, 79] (.split 326 (.run [83, 87, 91, 95, 99, 103, 107, 111, 115, 119, 123, 127, 131] .nil) (.run [83, 87, 91, 95, 99, 103, 107, 111, 115, 119, 123, 127, 131] .nil)))) .nil))) .d)) .d)))))) .d))))) (.seq (.reg (.run [3, 7, 11, 15, 19, 23] (.split 345 (.run [27, 31, 35, 39] .nil) (.run [27, 31, 35, 39] .nil)))) .d))))))))))))))))))
theorem w_law07_StoreFresh : ∀ (a : Den [tSl, (tInt .i64), (tInt .i64)]) (K : Den [tBool] → HP) (h : H), m_law07_StoreFresh a.1 a.2.1 a.2.2 K h = wpF x_law07_StoreFresh Try.f6 [tSl, (tInt .i64), (tInt .i64)] [tBool] h_law07_StoreFresh a K h := fun a K h => by kernel_rfl
def s_law07_StoreFresh : Spec Try.prog := mkSpec x_law07_StoreFresh 6 Try.f6 [tSl, (tInt .i64), (tInt .i64)] [tBool] false h_law07_StoreFresh (fun a => m_law07_StoreFresh a.1 a.2.1 a.2.2) w_law07_StoreFresh callee6 rfl
/-! (sesame/sesamelaw07.two).told -/
def m_law07_two_told (a0 : S_law07_two) (a1 : Int) (K : (Bool) → H → Prop) : H → Prop :=
  m_store_Store_Size a0.S a1 fun r1 =>
  m_ref07_Store_Size a0.Q a1 fun r2 =>
  mJoin (fun (s6 : Bool) =>
    mJoin (fun (s15 : Bool) =>
      mIf s15 (
        m_store_Store_Free a0.S fun r19 =>
        m_ref07_Store_Free a0.Q fun r20 =>
        K (decide (r19 = r20))
        ) (
        K false
        )
      ) (fun j16 =>
      mIf s6 (
        mDeref a0.Q fun ad21 =>
        mJoin (fun (s22 : Int × Int) =>
          j16 (decide (s22.1 = s22.2))
          ) (fun j23 =>
          mBoth (
            m_store_Store_Next a0.S fun r24 =>
            mLoad (cInt .i64) (ad21.add 3) fun x25 =>
            j23 (r24, x25)
            ) (
            mLoad (cInt .i64) (ad21.add 3) fun x26 =>
            m_store_Store_Next a0.S fun r27 =>
            j23 (r27, x26)
            ))
        ) (
        j16 false
        ))
    ) (fun j7 =>
    mIf ((decide (r1.1 = r2.1)) && (r1.2 == r2.2)) (
      m_store_Store_Ids a0.S fun r28 =>
      m_ref07_Store_Ids a0.Q fun r29 =>
      m_law07_sameInts r28 r29 fun r30 =>
      j7 r30
      ) (
      j7 false
      ))
def x_law07_two_told : Cx Try.prog := ⟨tys, [s_store_Store_Free, s_store_Store_Ids, s_ref07_Store_Ids, s_law07_sameInts, s_store_Store_Next, s_store_Store_Size, s_ref07_Store_Size, s_ref07_Store_Free], [2], [], mixed⟩
def h_law07_two_told : Hint := (.seq .d (.seq .d (.seq .d (.seq (.reg (.run [0, 4, 8, 12] (.sel 26 30 2013265920 (.run [16, 20, 24, 28] .nil) (.run [16, 20, 24, 28] .nil) (.run [32] (.join [.slot 39 tBool] 1095216660480 [] (.split 31 (.run [36, 48, 41, 53, 47, 59, 63, 64] .nil) (.run [36, 40, 44, 48, 52, 56, 60, 64] .nil)) (.run [68] (.join [.slot 50 tBool] 2249600790429696 [] (.split 40 (.run [72, 84, 77, 89, 92, 96] (.join [.slot 43 (tInt .i64), .slot 48 (tInt .i64)] 290271069732864 [] (.both 20 25 (.run [102] .nil) (.run [83] .nil)) (.run [104, 108] .nil))) (.run [72, 76, 80, 84, 88, 92, 96, 100, 104, 108] .nil)) (.run [112] (.split 51 (.run [116, 128, 121, 133, 127, 139, 140, 144, 148] .nil) (.run [116, 120, 124, 128, 132, 136, 140, 144, 148] .nil)))))))))) .d))))
theorem w_law07_two_told : ∀ (a : Den [S_law07_two.ty, (tInt .i64)]) (K : Den [tBool] → HP) (h : H), m_law07_two_told a.1 a.2 K h = wpF x_law07_two_told Try.f31 [S_law07_two.ty, (tInt .i64)] [tBool] h_law07_two_told a K h := fun a K h => by kernel_rfl
def s_law07_two_told : Spec Try.prog := mkSpec x_law07_two_told 31 Try.f31 [S_law07_two.ty, (tInt .i64)] [tBool] false h_law07_two_told (fun a => m_law07_two_told a.1 a.2) w_law07_two_told callee31 rfl
/-! sesame/sesamelaw07.StoreAll -/
def m_law07_StoreAll (a0 : Int) (a1 : Int) (a2 : Sl) (K : (Bool) → H → Prop) : H → Prop :=
  m_law07_head fun r1 =>
  mIf (!r1) (
    K false
    ) (
    m_law07_begins a0 a1 fun r2 =>
    mIf ((!r2.2) || (r2.1.S.isNone)) (
      K r2.2
      ) (
      m_law07_begins a0 a1 fun r3 =>
      mIf (!r3.2) (
        K false
        ) (
        mLoop (fun (rec5 : Int → H → Prop) (s4 : Int) =>
          mIf (decide (s4 < (a2.len : Int))) (
            mJoin (fun (s6 : Option Addr × Option Addr) =>
              mIdx a2 s4 6 fun ad8 =>
              mLoad S_law07_Op.cells ad8 fun x9 =>
              m_law07_two_play (⟨s6.1, s6.2⟩ : S_law07_two) x9 fun r10 =>
              mJoin (fun (s14 : Bool) =>
                mJoin (fun (s19 : Bool) =>
                  mIf s19 (
                    K false
                    ) (
                    rec5 (iAdd .i64 s4 1)
                    )
                  ) (fun j20 =>
                  mIf s14 (
                    j20 true
                    ) (
                    mIdx a2 s4 6 fun ad21 =>
                    mLoad (cInt .i64) (ad21.add 2) fun x22 =>
                    m_law07_two_told r3.1 x22 fun r23 =>
                    j20 (!r23)
                    ))
                ) (fun j15 =>
                mIf (!r10) (
                  j15 true
                  ) (
                  mIdx a2 s4 6 fun ad24 =>
                  mLoad (cInt .i64) (ad24.add 2) fun x25 =>
                  m_law07_two_told r2.1 x25 fun r26 =>
                  j15 (!r26)
                  ))
              ) (fun j7 =>
              mIdx a2 s4 6 fun ad27 =>
              mLoad (cInt .i64) (ad27.add 1) fun x28 =>
              mIf (decide ((iAnd .i64 x28 1) = 1)) (
                j7 (r3.1.S, r3.1.Q)
                ) (
                j7 (r2.1.S, r2.1.Q)
                )
              )
            ) (
            m_law07_two_bytes r2.1 fun r29 =>
            mIf r29 (
              m_law07_two_bytes r3.1 fun r31 =>
              K r31
              ) (
              K false
              )
            )
          ) 0
        )
      )
    )
def x_law07_StoreAll : Cx Try.prog := ⟨tys, [s_law07_head, s_law07_begins, s_law07_two_play, s_law07_two_bytes, s_law07_two_told], [7, 9, 11], [], mixed⟩
def h_law07_StoreAll : Hint := (.seq .d (.seq .d (.seq .d (.seq (.seq (.reg (.run [3, 7, 11] (.sel 23 27 251658240 (.run [15, 19, 23, 27] .nil) (.run [15, 19, 23, 27] .nil) .nil))) .d) (.seq .d (.seq .d (.seq (.seq .d (.blk (.loop [.slot 10 (tInt .i64)] 1208925819614491735759936 [] (.seq .d (.seq (.blk (.seq .d (.join [.cell 11 0 tPtr, .cell 11 1 tPtr] 4486007441326080 [11] .d (.seq (.reg (.run [4, 8, 12, 1, 18, 23, 24] .nil)) (.seq (.reg (.run [0, 4, 8] (.join [.slot 69 tBool] 1178285777708197609472 [] (.split 60 (.run [12, 16, 20, 24, 28, 32, 36, 40, 44] .nil) (.run [16, 20, 24, 28, 13, 34, 39, 40, 44] .nil)) (.run [48] (.join [.slot 79 tBool] 1206564636373194352099328 [] (.split 70 (.run [52, 56, 60, 64, 68, 72, 76, 80, 84] .nil) (.run [56, 60, 64, 68, 53, 74, 79, 80, 84] .nil)) .nil))))) .d))))) .d))))) (.seq (.reg (.run [3, 7, 11] (.split 82 (.run [15, 19, 23, 27] .nil) (.run [15, 19, 23, 27] .nil)))) .d))))))))
theorem w_law07_StoreAll : ∀ (a : Den [(tInt .i64), (tInt .i64), tSl]) (K : Den [tBool] → HP) (h : H), m_law07_StoreAll a.1 a.2.1 a.2.2 K h = wpF x_law07_StoreAll Try.f7 [(tInt .i64), (tInt .i64), tSl] [tBool] h_law07_StoreAll a K h := fun a K h => by kernel_rfl
def s_law07_StoreAll : Spec Try.prog := mkSpec x_law07_StoreAll 7 Try.f7 [(tInt .i64), (tInt .i64), tSl] [tBool] false h_law07_StoreAll (fun a => m_law07_StoreAll a.1 a.2.1 a.2.2) w_law07_StoreAll callee7 rfl
end Go.Proofs.Yteeaelemfalkbaa.K
