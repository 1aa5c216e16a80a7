/- Functions of the program, printed by a program of mine: law11_markedCaps, law11_CatalogueFresh -/
import Derived.Test.YtiajjcboddaenaaT
import Derived.Test.YtiajjcboddaenaaFcatalogue
import Derived.Test.YtiajjcboddaenaaFlaw11
namespace Go.Proofs.Ytiajjcboddaenaa.K
open Go Go.Proofs
/-! sesame/sesamelaw11.markedCaps -/
def m_law11_markedCaps (a0 : Sl) (K : (Bool) → H → Prop) : H → Prop :=
  mLoop (fun (rec2 : Int → H → Prop) (s1 : Int) =>
    mIf (decide (s1 < (a0.len : Int))) (
      mLoop (fun (rec4 : Int → H → Prop) (s3 : Int) =>
        mIdx a0 s1 1 fun ad5 =>
        mLoad cSl ad5 fun x6 =>
        mIf (decide (s3 < (x6.len : Int))) (
          mIdx a0 s1 1 fun ad7 =>
          mLoad cSl ad7 fun x8 =>
          mIdx x8 s3 3 fun ad9 =>
          mStore ad9 [(Value.int .i64 (iSub .i64 (-1) s1)), (Value.int .u64 0), (Value.int .u64 0)] <|
          rec4 (iAdd .i64 s3 1)
          ) (
          rec2 (iAdd .i64 s1 1)
          )
        ) 0
      ) (
      mLoop (fun (rec11 : (Sl × Int) → H → Prop) (s10 : Sl × Int) =>
        mIf (decide (s10.2 < (a0.len : Int))) (
          mIdx a0 s10.2 1 fun ad12 =>
          mLoad cSl ad12 fun x13 =>
          mLoop (fun (rec15 : (Sl × Int) → H → Prop) (s14 : Sl × Int) =>
            mIf (decide (s14.2 < 40)) (
              mApp 39 3 24 #[(Value.int .i64 0), (Value.int .u64 0), (Value.int .u64 0)] 1 [(Value.int .i64 (iSub .i64 (-1) s10.2)), (Value.int .u64 0), (Value.int .u64 0)] s14.1 fun s16 =>
              rec15 (s16, (iAdd .i64 s14.2 1))
              ) (
              mApp 34 1 24 #[(Sl.val Sl.nil)] 1 [(Sl.val s14.1)] s10.1 fun s17 =>
              rec11 (s17, (iAdd .i64 s10.2 1))
              )
            ) (x13, 0)
          ) (
          mLoop (fun (rec19 : Int → H → Prop) (s18 : Int) =>
            mIf (decide (s18 < (a0.len : Int))) (
              mLoop (fun (rec21 : Int → H → Prop) (s20 : Int) =>
                mIdx s10.1 s18 1 fun ad22 =>
                mLoad cSl ad22 fun x23 =>
                mIf (decide (s20 < (x23.len : Int))) (
                  mIdx s10.1 s18 1 fun ad24 =>
                  mLoad cSl ad24 fun x25 =>
                  mIdx x25 s20 3 fun ad26 =>
                  mLoad (cInt .i64) (ad26.add 0) fun x27 =>
                  mJoin (fun (s40 : Bool) =>
                    mIf s40 (
                      K false
                      ) (
                      rec21 (iAdd .i64 s20 1)
                      )
                    ) (fun j41 =>
                    mIf (!decide (x27 = (iSub .i64 (-1) s18))) (
                      j41 true
                      ) (
                      mIdx a0 s18 1 fun ad42 =>
                      mLoad cSl ad42 fun x43 =>
                      mIf (decide (s20 < (x43.len : Int))) (
                        mIdx a0 s18 1 fun ad48 =>
                        mLoad cSl ad48 fun x49 =>
                        mIdx x49 s20 3 fun ad50 =>
                        mLoad (cInt .i64) (ad50.add 0) fun x51 =>
                        j41 (!decide (x51 = (iSub .i64 (-1) s18)))
                        ) (
                        j41 false
                        )
                      ))
                  ) (
                  rec19 (iAdd .i64 s18 1)
                  )
                ) 0
              ) (
              K true
              )
            ) 0
          )
        ) (Sl.nil, 0)
      )
    ) 0
def x_law11_markedCaps : Cx Try.prog := ⟨tys, [], [53, 57], [], mixed⟩
def h_law11_markedCaps : Hint := (.seq .d (.seq (.seq .d (.blk (.loop [.slot 3 (tInt .i64)] 34359736344 [] (.seq .d (.seq (.blk (.seq .d (.blk (.loop [.slot 4 (tInt .i64)] 34359607312 [] .d)))) .d))))) (.seq .d (.seq (.seq .d (.blk (.loop [.slot 5 tSl, .slot 6 (tInt .i64)] 576460717943685600 [] (.seq .d (.seq (.blk (.seq .d (.seq (.seq .d (.blk (.loop [.slot 7 tSl, .slot 8 (tInt .i64)] 35993612646875520 [] .d))) .d))) .d))))) (.seq (.seq .d (.blk (.loop [.slot 9 (tInt .i64)] 162259276829212786930825706866180 [] (.seq .d (.seq (.blk (.seq .d (.blk (.loop [.slot 10 (tInt .i64)] 162259276829176469903430591185924 [] (.seq .d (.seq (.blk (.seq (.reg (.run [3, 7, 11, 15, 19, 23, 27, 31, 35, 39, 43, 47] (.join [.slot 106 tBool] 162259199457960908055310829092864 [] (.split 85 (.run [51, 55, 59, 63, 67, 71, 75, 79, 83, 87, 91, 95, 99, 103, 107, 111, 115, 119, 123, 127, 131] .nil) (.run [51, 55, 59, 63, 67, 71, 75, 79] (.split 93 (.run [83, 87, 91, 95, 99, 103, 107, 111, 115, 119, 123, 127, 131] .nil) (.run [83, 87, 91, 95, 99, 103, 107, 111, 115, 119, 123, 127, 131] .nil)))) .nil))) .d)) .d)))))) .d))))) .d)))))
theorem w_law11_markedCaps : ∀ (a : Den [tSl]) (K : Den [tBool] → HP) (h : H), m_law11_markedCaps a K h = wpF x_law11_markedCaps Try.f57 [tSl] [tBool] h_law11_markedCaps a K h := fun a K h => by kernel_rfl
def s_law11_markedCaps : Spec Try.prog := mkSpec x_law11_markedCaps 57 Try.f57 [tSl] [tBool] false h_law11_markedCaps (fun a => m_law11_markedCaps a) w_law11_markedCaps callee57 rfl
/-! sesame/sesamelaw11.CatalogueFresh -/
def m_law11_CatalogueFresh (a0 : Int) (a1 : Int) (a2 : Sl) (a3 : Int) (K : (Bool) → H → Prop) : H → Prop :=
  mPure (m_law11_into a0 60) fun r1 =>
  m_law11_grown (iAdd .i64 1 r1) a1 a2 fun r2 =>
  m_law11_grown (iAdd .i64 1 r1) (iAdd .i64 a1 1) a2 fun r3 =>
  mJoin (fun (s5 : Bool) =>
    mIf s5 (
      K false
      ) (
      mPure (m_law11_into a3 (iAdd .i64 1 r1)) fun r7 =>
      m_catalogue_Catalogue_At r2 r7 fun r8 =>
      m_catalogue_Catalogue_Of r2 r8.1.Cap.Obj fun r9 =>
      m_catalogue_Catalogue_Of r2 r8.1.Cap.Obj fun r10 =>
      mNew 98 #[] fun ad11 =>
      mAppend 98 5 40 #[(Value.int .i64 0), (Value.int .u64 0), (Value.int .u64 0), (Value.int .i64 0), (Value.int .i64 0)] (⟨some ad11, 0, 0⟩ : Sl) r9 fun s12 =>
      m_law11_sameTokens r10 s12 fun r13 =>
      mJoin (fun (s16 : Bool) =>
        mIf s16 (
          K false
          ) (
          mLoop (fun (rec19 : Int → H → Prop) (s18 : Int) =>
            mIf (decide (s18 < (r9.len : Int))) (
              mIdx r9 s18 5 fun ad20 =>
              mStore ad20 [(Value.int .i64 0), (Value.int .u64 0), (Value.int .u64 0), (Value.int .i64 (-1)), (Value.int .i64 0)] <|
              mIdx r10 s18 5 fun ad21 =>
              mStore ad21 [(Value.int .i64 0), (Value.int .u64 0), (Value.int .u64 0), (Value.int .i64 (-2)), (Value.int .i64 0)] <|
              rec19 (iAdd .i64 s18 1)
              ) (
              mApp 98 5 40 #[(Value.int .i64 0), (Value.int .u64 0), (Value.int .u64 0), (Value.int .i64 0), (Value.int .i64 0)] 2 [(Value.int .i64 0), (Value.int .u64 0), (Value.int .u64 0), (Value.int .i64 (-1)), (Value.int .i64 0), (Value.int .i64 0), (Value.int .u64 0), (Value.int .u64 0), (Value.int .i64 (-1)), (Value.int .i64 0)] r9 fun s22 =>
              mApp 98 5 40 #[(Value.int .i64 0), (Value.int .u64 0), (Value.int .u64 0), (Value.int .i64 0), (Value.int .i64 0)] 2 [(Value.int .i64 0), (Value.int .u64 0), (Value.int .u64 0), (Value.int .i64 (-2)), (Value.int .i64 0), (Value.int .i64 0), (Value.int .u64 0), (Value.int .u64 0), (Value.int .i64 (-2)), (Value.int .i64 0)] r10 fun s23 =>
              mLoop (fun (rec25 : Int → H → Prop) (s24 : Int) =>
                mIf (decide (s24 < (s22.len : Int))) (
                  mIdx s22 s24 5 fun ad26 =>
                  mLoad (cInt .i64) (ad26.add 3) fun x27 =>
                  mJoin (fun (s30 : Bool) =>
                    mJoin (fun (s48 : Bool) =>
                      mIf s48 (
                        K false
                        ) (
                        rec25 (iAdd .i64 s24 1)
                        )
                      ) (fun j49 =>
                      mIf s30 (
                        j49 true
                        ) (
                        mIf (decide (s24 < (r9.len : Int))) (
                          mIdx r9 s24 5 fun ad58 =>
                          mLoad (cInt .i64) (ad58.add 3) fun x59 =>
                          mIf (!decide (x59 = (-1))) (
                            j49 true
                            ) (
                            mIdx r10 s24 5 fun ad62 =>
                            mLoad (cInt .i64) (ad62.add 3) fun x63 =>
                            j49 (!decide (x63 = (-2)))
                            )
                          ) (
                          j49 false
                          )
                        ))
                    ) (fun j31 =>
                    mIf (!decide (x27 = (-1))) (
                      j31 true
                      ) (
                      mIdx s23 s24 5 fun ad64 =>
                      mLoad (cInt .i64) (ad64.add 3) fun x65 =>
                      j31 (!decide (x65 = (-2)))
                      ))
                  ) (
                  m_catalogue_Catalogue_Of r2 r8.1.Cap.Obj fun r66 =>
                  m_law11_sameTokens r66 s12 fun r67 =>
                  mIf (!r67) (
                    K false
                    ) (
                    m_catalogue_Catalogue_Drop r2 r7 fun r68 =>
                    m_catalogue_Catalogue_Count r3 fun r69 =>
                    m_catalogue_Catalogue_Drop r3 r7 fun r70 =>
                    mJoin (fun (s72 : Bool) =>
                      mJoin (fun (s75 : Bool) =>
                        mIf s75 (
                          K false
                          ) (
                          mNew 39 #[] fun ad77 =>
                          mAppend 39 3 24 #[(Value.int .i64 0), (Value.int .u64 0), (Value.int .u64 0)] (⟨some ad77, 0, 0⟩ : Sl) r68.1 fun s78 =>
                          mNew 34 #[(Sl.val r68.1), (Sl.val r70.1)] fun ad79 =>
                          m_law11_markedCaps (⟨some ad79, 2, 2⟩ : Sl) fun r80 =>
                          mIf (!r80) (
                            K false
                            ) (
                            mLoop (fun (rec82 : Int → H → Prop) (s81 : Int) =>
                              mIf (decide (s81 < (s78.len : Int))) (
                                mIdx s78 s81 3 fun ad83 =>
                                mLoad S_api_Cap.cells ad83 fun x84 =>
                                m_catalogue_Catalogue_Find r2 x84 fun r85 =>
                                mIf r85.2 (
                                  K false
                                  ) (
                                  rec82 (iAdd .i64 s81 1)
                                  )
                                ) (
                                m_catalogue_Catalogue_Count r2 fun r86 =>
                                m_catalogue_Catalogue_Count r3 fun r87 =>
                                K (decide (r86 = r87))
                                )
                              ) 0
                            )
                          )
                        ) (fun j76 =>
                        mIf s72 (
                          j76 true
                          ) (
                          m_law11_sameCaps r68.1 r70.1 fun r88 =>
                          j76 (!r88)
                          ))
                      ) (fun j73 =>
                      mIf ((!decide (r68.2 = r70.2)) || (!((decide (r68.2 = 0)) == r8.2))) (
                        j73 true
                        ) (
                        m_catalogue_Catalogue_Count r2 fun r89 =>
                        j73 (!decide (r69 = (iAdd .i64 r89 (r68.1.len : Int))))
                        ))
                    )
                  )
                ) 0
              )
            ) 0
          )
        ) (fun j17 =>
        mIf (!r13) (
          j17 true
          ) (
          m_catalogue_Catalogue_Of r3 r8.1.Cap.Obj fun r90 =>
          m_law11_sameTokens r90 s12 fun r91 =>
          j17 (!r91)
          ))
      )
    ) (fun j6 =>
    mIf ((r2.isNone) || (r3.isNone)) (
      j6 true
      ) (
      m_law11_known fun r92 =>
      j6 (!r92)
      ))
def x_law11_CatalogueFresh : Cx Try.prog := ⟨tys, [s_catalogue_Catalogue_Count, s_law11_known, s_law11_into, s_law11_grown, s_catalogue_Catalogue_At, s_catalogue_Catalogue_Find, s_catalogue_Catalogue_Drop, s_catalogue_Catalogue_Of, s_law11_sameTokens, s_law11_sameCaps, s_law11_markedCaps], [11, 104, 109], [], mixed⟩
def h_law11_CatalogueFresh : Hint := (.seq .d (.seq .d (.seq .d (.seq .d (.seq (.seq (.reg (.run [3, 7, 11] (.sel 43 46 123145302310912 (.run [15, 19, 23] .nil) (.run [15, 19, 23] .nil) (.run [27] (.join [.slot 50 tBool] 1970324836974592 [] (.split 47 (.run [31, 35, 39] .nil) (.run [31, 35, 39] .nil)) .nil))))) .d) (.seq .d (.seq .d (.seq .d (.seq .d (.seq .d (.seq (.seq (.reg (.run [3, 7, 11, 15, 19] (.join [.slot 86 tBool] 154440273455768877068713984 [] (.split 77 (.run [23, 27, 31, 35, 39, 43, 47, 51, 55] .nil) (.run [23, 27, 31, 35, 39, 43, 47, 51, 55] .nil)) .nil))) .d) (.seq (.seq .d (.blk (.loop [.slot 16 (tInt .i64)] 2535146457951548130459044085760 [] .d))) (.seq .d (.seq .d (.seq (.seq .d (.blk (.loop [.slot 19 (tInt .i64)] 11417981541645082900037020341781695842897887488 [] (.seq .d (.seq (.blk (.seq (.reg (.run [3, 7, 11, 15, 19, 23, 27] (.join [.slot 130 tBool] 2700991287434949053740535946489660178432 [] (.split 123 (.run [31, 35, 39, 43, 47, 51, 55] .nil) (.run [31, 35, 39, 43, 47, 51, 55] .nil)) (.run [59] (.join [.slot 152 tBool] 11417976097129808313450872341602242182770589696 [] (.split 131 (.run [63, 67, 71, 75, 79, 83, 87, 91, 95, 99, 103, 107, 111, 115, 119, 123, 127, 131, 135, 139, 143] .nil) (.run [63, 67, 71, 75, 79] (.split 136 (.run [83, 87, 91, 95, 99, 103, 107] (.split 143 (.run [111, 115, 119, 123, 127, 131, 135, 139, 143] .nil) (.run [111, 115, 119, 123, 127, 131, 135, 139, 143] .nil))) (.run [83, 87, 91, 95, 99, 103, 107, 111, 115, 119, 123, 127, 131, 135, 139, 143] .nil)))) .nil))))) .d)) .d))))) (.seq .d (.seq .d (.seq .d (.seq .d (.seq (.seq (.reg (.run [3, 7, 11, 15] (.sel 178 183 23753680883421277304554378920829792346090456393845833728 (.run [19, 23, 27, 31, 35] .nil) (.run [19, 23, 27, 31, 35] .nil) (.run [39] (.join [.slot 192 tBool] 12505163613465653084204111741546522938328911237018193756160 [] (.split 184 (.run [43, 47, 51, 55, 59, 63, 67, 71] .nil) (.run [43, 47, 51, 55, 59, 63, 67, 71] .nil)) (.run [75] (.join [.slot 198 tBool] 778360615187948414715637888477750635596692075113540279599104 [] (.split 193 (.run [79, 83, 87, 91, 95] .nil) (.run [79, 83, 87, 91, 95] .nil)) .nil))))))) .d) (.seq .d (.seq .d (.seq (.seq .d (.blk (.loop [.slot 26 (tInt .i64)] 13479767645505654746578238172361995668005449369287082043069356310784 [] .d))) .d)))))))))))))))))))))))
theorem w_law11_CatalogueFresh : ∀ (a : Den [(tInt .i64), (tInt .i64), tSl, (tInt .i64)]) (K : Den [tBool] → HP) (h : H), m_law11_CatalogueFresh a.1 a.2.1 a.2.2.1 a.2.2.2 K h = wpF x_law11_CatalogueFresh Try.f7 [(tInt .i64), (tInt .i64), tSl, (tInt .i64)] [tBool] h_law11_CatalogueFresh a K h := fun a K h => by kernel_rfl
def s_law11_CatalogueFresh : Spec Try.prog := mkSpec x_law11_CatalogueFresh 7 Try.f7 [(tInt .i64), (tInt .i64), tSl, (tInt .i64)] [tBool] false h_law11_CatalogueFresh (fun a => m_law11_CatalogueFresh a.1 a.2.1 a.2.2.1 a.2.2.2) w_law11_CatalogueFresh callee7 rfl
end Go.Proofs.Ytiajjcboddaenaa.K
