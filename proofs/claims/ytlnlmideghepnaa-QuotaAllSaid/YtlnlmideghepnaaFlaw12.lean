/- Functions of the program, printed by a program of mine: law12_sameInts, law12_head, law12_QuotaFresh, law12_QuotaAll, law12_QuotaSums -/
import Derived.Test.YtlnlmideghepnaaT
import Derived.Test.YtlnlmideghepnaaFquota
import Derived.Test.YtlnlmideghepnaaFref12
namespace Go.Proofs.Ytlnlmideghepnaa.K
open Go Go.Proofs
/-! sesame/sesamelaw12.sameInts -/
def m_law12_sameInts (a0 : Sl) (a1 : Sl) (K : (Bool) → H → Prop) : H → Prop :=
  mIf (!decide ((a0.len : Int) = (a1.len : Int))) (
    K false
    ) (
    mLoop (fun (rec2 : Int → H → Prop) (s1 : Int) =>
      mIf (decide (s1 < (a0.len : Int))) (
        mIdx a0 s1 1 fun ad3 =>
        mIdx a1 s1 1 fun ad4 =>
        mLoad (cInt .i64) ad3 fun x5 =>
        mLoad (cInt .i64) ad4 fun x6 =>
        mIf (!decide (x5 = x6)) (
          K false
          ) (
          rec2 (iAdd .i64 s1 1)
          )
        ) (
        K true
        )
      ) 0
    )
def x_law12_sameInts : Cx Try.prog := ⟨tys, [], [], [], mixed⟩
def h_law12_sameInts : Hint := (.seq .d (.seq .d (.seq (.seq .d (.blk (.loop [.slot 5 (tInt .i64)] 67106864 [] (.seq .d (.seq (.blk (.seq (.reg (.run [0, 4, 8, 16, 20, 24, 14, 30, 32] .nil)) .d)) .d))))) .d)))
theorem w_law12_sameInts : ∀ (a : Den [tSl, tSl]) (K : Den [tBool] → HP) (h : H), m_law12_sameInts a.1 a.2 K h = wpF x_law12_sameInts Try.f71 [tSl, tSl] [tBool] h_law12_sameInts a K h := fun a K h => by kernel_rfl
def s_law12_sameInts : Spec Try.prog := mkSpec x_law12_sameInts 71 Try.f71 [tSl, tSl] [tBool] false h_law12_sameInts (fun a => m_law12_sameInts a.1 a.2) w_law12_sameInts callee71 rfl
/-! sesame/sesamelaw12.head -/
def m_law12_head (K : (Bool) → H → Prop) : H → Prop :=
  m_quota_New 2 3 fun r1 =>
  mIf ((!decide (r1.2 = 0)) || (r1.1.isNone)) (
    K false
    ) (
    m_quota_Quota_Add r1.1 7 fun r2 =>
    m_quota_Quota_Add r1.1 7 fun r3 =>
    m_quota_Quota_Add r1.1 7 fun r4 =>
    m_quota_Quota_Add r1.1 (-1) fun r5 =>
    m_quota_Quota_Add r1.1 8 fun r6 =>
    mJoin (fun (s8 : Bool) =>
      mJoin (fun (s11 : Bool) =>
        mIf s11 (
          m_quota_Quota_Objects r1.1 fun r16 =>
          mNew 3 #[(Value.int .i64 (-1)), (Value.int .i64 7)] fun ad17 =>
          m_law12_sameInts r16 (⟨some ad17, 2, 2⟩ : Sl) fun r18 =>
          K r18
          ) (
          K false
          )
        ) (fun j12 =>
        mIf s8 (
          m_quota_Quota_All r1.1 fun r19 =>
          j12 (decide (r19 = 3))
          ) (
          j12 false
          ))
      ) (fun j9 =>
      mIf (((((decide (r2 = 0)) && (decide (r3 = 0))) && (decide (r4 = 9))) && (decide (r5 = 0))) && (decide (r6 = 10))) (
        m_quota_Quota_Of r1.1 7 fun r20 =>
        j9 (decide (r20 = 2))
        ) (
        j9 false
        ))
    )
def x_law12_head : Cx Try.prog := ⟨tys, [s_quota_New, s_quota_Quota_Add, s_quota_Quota_Objects, s_law12_sameInts, s_quota_Quota_All, s_quota_Quota_Of], [], [], mixed⟩
def h_law12_head : Hint := (.seq .d (.seq .d (.seq (.seq (.reg (.run [3, 7, 11] (.sel 14 17 229376 (.run [15, 19, 23] .nil) (.run [15, 19, 23] .nil) .nil))) .d) (.seq .d (.seq .d (.seq (.reg (.run [3, 7, 11] (.sel 30 33 15032385536 (.run [15, 19, 23] .nil) (.run [15, 19, 23] .nil) (.run [27] (.sel 34 37 240518168576 (.run [31, 35, 39] .nil) (.run [31, 35, 39] .nil) (.run [43] (.sel 38 41 3848290697216 (.run [47, 51, 55] .nil) (.run [47, 51, 55] .nil) (.run [59] (.sel 42 45 61572651155456 (.run [63, 67, 71] .nil) (.run [63, 67, 71] .nil) (.run [75] (.join [.slot 50 tBool] 2111062325329920 [] (.split 46 (.run [79, 83, 87, 91] .nil) (.run [79, 83, 87, 91] .nil)) (.run [95] (.join [.slot 55 tBool] 67553994410557440 [] (.split 51 (.run [99, 103, 107, 111] .nil) (.run [99, 103, 107, 111] .nil)) (.run [115] (.split 56 (.run [119, 123, 127, 131, 135, 139] .nil) (.run [119, 123, 127, 131, 135, 139] .nil)))))))))))))))) .d))))))
theorem w_law12_head : ∀ (a : Den []) (K : Den [tBool] → HP) (h : H), m_law12_head K h = wpF x_law12_head Try.f66 [] [tBool] h_law12_head a K h := fun a K h => by kernel_rfl
def s_law12_head : Spec Try.prog := mkSpec x_law12_head 66 Try.f66 [] [tBool] false h_law12_head (fun _ => m_law12_head) w_law12_head callee66 rfl
/-! sesame/sesamelaw12.QuotaFresh -/
def m_law12_QuotaFresh (a0 : Sl) (K : (Bool) → H → Prop) : H → Prop :=
  m_quota_New 9 200 fun r1 =>
  m_ref12_New 9 200 fun r2 =>
  m_law12_head fun r3 =>
  mIf ((((!r3) || (!decide (r1.2 = 0))) || (!decide (r2.2 = 0))) || (r1.1.isNone)) (
    K false
    ) (
    mLoop (fun (rec5 : Int → H → Prop) (s4 : Int) =>
      mIf (decide (s4 < (a0.len : Int))) (
        mIdx a0 s4 4 fun ad6 =>
        mLoad (cInt .i64) (ad6.add 2) fun x7 =>
        m_quota_Quota_Add r1.1 x7 fun _ =>
        mIdx a0 s4 4 fun ad9 =>
        mLoad (cInt .i64) (ad9.add 2) fun x10 =>
        m_ref12_Quota_Add r2.1 x10 fun _ =>
        rec5 (iAdd .i64 s4 1)
        ) (
        m_ref12_Quota_Objects r2.1 fun r12 =>
        m_quota_Quota_Objects r1.1 fun r13 =>
        m_quota_Quota_Objects r1.1 fun r14 =>
        m_law12_sameInts r13 r12 fun r15 =>
        mJoin (fun (s17 : Bool) =>
          mIf s17 (
            K false
            ) (
            mLoop (fun (rec20 : Int → H → Prop) (s19 : Int) =>
              mIf (decide (s19 < (r12.len : Int))) (
                mIdx r13 s19 1 fun ad21 =>
                mStore ad21 [(Value.int .i64 1099511627776)] <|
                mIdx r14 s19 1 fun ad22 =>
                mStore ad22 [(Value.int .i64 2199023255552)] <|
                rec20 (iAdd .i64 s19 1)
                ) (
                mApp 3 1 8 #[(Value.int .i64 0)] 1 [(Value.int .i64 1099511627776)] r13 fun s23 =>
                mApp 3 1 8 #[(Value.int .i64 0)] 1 [(Value.int .i64 2199023255552)] r14 fun s24 =>
                mLoop (fun (rec26 : Int → H → Prop) (s25 : Int) =>
                  mIf (decide (s25 < (s23.len : Int))) (
                    mIdx s23 s25 1 fun ad27 =>
                    mLoad (cInt .i64) ad27 fun x28 =>
                    mJoin (fun (s31 : Bool) =>
                      mJoin (fun (s49 : Bool) =>
                        mIf s49 (
                          K false
                          ) (
                          rec26 (iAdd .i64 s25 1)
                          )
                        ) (fun j50 =>
                        mIf s31 (
                          j50 true
                          ) (
                          mIf (decide (s25 < (r13.len : Int))) (
                            mIdx r13 s25 1 fun ad59 =>
                            mLoad (cInt .i64) ad59 fun x60 =>
                            mIf (!decide (x60 = 1099511627776)) (
                              j50 true
                              ) (
                              mIdx r14 s25 1 fun ad63 =>
                              mLoad (cInt .i64) ad63 fun x64 =>
                              j50 (!decide (x64 = 2199023255552))
                              )
                            ) (
                            j50 false
                            )
                          ))
                      ) (fun j32 =>
                      mIf (!decide (x28 = 1099511627776)) (
                        j32 true
                        ) (
                        mIdx s24 s25 1 fun ad65 =>
                        mLoad (cInt .i64) ad65 fun x66 =>
                        j32 (!decide (x66 = 2199023255552))
                        ))
                    ) (
                    m_quota_Quota_Objects r1.1 fun r67 =>
                    m_law12_sameInts r67 r12 fun r68 =>
                    mIf r68 (
                      mDeref r2.1 fun ad76 =>
                      mJoin (fun (s77 : Int × Int) =>
                        K (decide (s77.1 = s77.2))
                        ) (fun j78 =>
                        mBoth (
                          m_quota_Quota_All r1.1 fun r79 =>
                          mLoad cSl (ad76.add 2) fun x80 =>
                          j78 (r79, (x80.len : Int))
                          ) (
                          mLoad cSl (ad76.add 2) fun x81 =>
                          m_quota_Quota_All r1.1 fun r82 =>
                          j78 (r82, (x81.len : Int))
                          ))
                      ) (
                      K false
                      )
                    )
                  ) 0
                )
              ) 0
            )
          ) (fun j18 =>
          mIf (!r15) (
            j18 true
            ) (
            m_law12_sameInts r14 r12 fun r83 =>
            j18 (!r83)
            ))
        )
      ) 0
    )
def x_law12_QuotaFresh : Cx Try.prog := ⟨tys, [s_quota_New, s_ref12_New, s_law12_head, s_quota_Quota_Add, s_ref12_Quota_Add, s_ref12_Quota_Objects, s_quota_Quota_Objects, s_law12_sameInts, s_quota_Quota_All], [86, 89], [], mixed⟩
def h_law12_QuotaFresh : Hint := (.seq .d (.seq .d (.seq .d (.seq (.seq (.reg (.run [3, 7, 11] (.sel 25 28 469762048 (.run [15, 19, 23] .nil) (.run [15, 19, 23] .nil) (.run [27] (.sel 29 32 7516192768 (.run [31, 35, 39] .nil) (.run [31, 35, 39] .nil) (.run [43] (.sel 33 36 120259084288 (.run [47, 51, 55] .nil) (.run [47, 51, 55] .nil) .nil))))))) .d) (.seq (.seq .d (.blk (.loop [.slot 7 (tInt .i64)] 144115050636902528 [] .d))) (.seq .d (.seq .d (.seq (.seq (.reg (.run [3, 7, 11, 15, 19] (.join [.slot 72 tBool] 9149585060559937601536 [] (.split 67 (.run [23, 27, 31, 35, 39] .nil) (.run [23, 27, 31, 35, 39] .nil)) .nil))) .d) (.seq (.seq .d (.blk (.loop [.slot 11 (tInt .i64)] 38676181494702394300172288 [] .d))) (.seq .d (.seq (.seq .d (.blk (.loop [.slot 14 (tInt .i64)] 680564733839401046848178454313738190852 [] (.seq .d (.seq (.blk (.seq (.reg (.run [3, 7, 11, 15, 19, 23] (.join [.slot 108 tBool] 638895902515027618354338415509504 [] (.split 102 (.run [27, 31, 35, 39, 43, 47] .nil) (.run [27, 31, 35, 39, 43, 47] .nil)) (.run [51] (.join [.slot 128 tBool] 680563435767662293219842082239454117888 [] (.split 109 (.run [55, 59, 63, 67, 71, 75, 79, 83, 87, 91, 95, 99, 103, 107, 111, 115, 119, 123, 127] .nil) (.run [55, 59, 63, 67, 71] (.split 114 (.run [75, 79, 83, 87, 91, 95] (.split 120 (.run [99, 103, 107, 111, 115, 119, 123, 127] .nil) (.run [99, 103, 107, 111, 115, 119, 123, 127] .nil))) (.run [75, 79, 83, 87, 91, 95, 99, 103, 107, 111, 115, 119, 123, 127] .nil)))) .nil))))) .d)) .d))))) (.seq (.reg (.run [0, 8, 7, 15, 16] (.split 133 (.run [20, 28, 32, 36] (.join [.slot 135 (tInt .i64), .slot 140 (tInt .i64)] 2134251005328126042842285537812050222252032 [] (.both 6 10 (.run [42, 44] .nil) (.run [44, 27] .nil)) (.run [48, 52, 56] .nil))) (.run [20, 24, 28, 32, 36, 40, 44, 48, 52, 56] .nil)))) .d))))))))))))
theorem w_law12_QuotaFresh : ∀ (a : Den [tSl]) (K : Den [tBool] → HP) (h : H), m_law12_QuotaFresh a K h = wpF x_law12_QuotaFresh Try.f9 [tSl] [tBool] h_law12_QuotaFresh a K h := fun a K h => by kernel_rfl
def s_law12_QuotaFresh : Spec Try.prog := mkSpec x_law12_QuotaFresh 9 Try.f9 [tSl] [tBool] false h_law12_QuotaFresh (fun a => m_law12_QuotaFresh a) w_law12_QuotaFresh callee9 rfl
/-! sesame/sesamelaw12.QuotaAll -/
def m_law12_QuotaAll (a0 : Int) (a1 : Int) (a2 : Sl) (K : (Bool) → H → Prop) : H → Prop :=
  m_law12_head fun r1 =>
  mIf (!r1) (
    K false
    ) (
    mNew 138 #[(Value.pointer none), (Value.pointer none)] fun ad2 =>
    mNew 139 #[(Value.pointer none), (Value.pointer none)] fun ad3 =>
    mLoop (fun (rec5 : Int → H → Prop) (s4 : Int) =>
      mIf (decide (s4 < 2)) (
        m_quota_New a0 a1 fun r6 =>
        m_ref12_New a0 a1 fun r7 =>
        mIf ((!decide (r6.2 = r7.2)) || (!((r6.1.isNone) == (r7.1.isNone)))) (
          K false
          ) (
          mIf (r7.1.isNone) (
            K true
            ) (
            mIdx (⟨some ad2, 2, 2⟩ : Sl) s4 1 fun ad8 =>
            mStore ad8 [(Value.pointer r6.1)] <|
            mIdx (⟨some ad3, 2, 2⟩ : Sl) s4 1 fun ad9 =>
            mStore ad9 [(Value.pointer r7.1)] <|
            rec5 (iAdd .i64 s4 1)
            )
          )
        ) (
        mLoop (fun (rec11 : Int → H → Prop) (s10 : Int) =>
          mIf (decide (s10 < (a2.len : Int))) (
            mIdx a2 s10 4 fun ad12 =>
            mLoad S_law12_Op.cells ad12 fun x13 =>
            mJoin (fun (s14 : Int × Int) =>
              mJoin (fun (s26 : Bool) =>
                mIf s26 (
                  K false
                  ) (
                  mLoop (fun (rec29 : Int → H → Prop) (s28 : Int) =>
                    mIf (decide (s28 < 2)) (
                      mIdx (⟨some ad2, 2, 2⟩ : Sl) s28 1 fun ad30 =>
                      mIdx (⟨some ad3, 2, 2⟩ : Sl) s28 1 fun ad31 =>
                      mLoad cPtr ad30 fun x32 =>
                      mJoin (fun (s33 : Int × Option Addr) =>
                        m_ref12_Quota_Of s33.2 x13.Obj fun r39 =>
                        mJoin (fun (s55 : Bool) =>
                          mJoin (fun (s68 : Bool) =>
                            mIf s68 (
                              K false
                              ) (
                              rec29 (iAdd .i64 s28 1)
                              )
                            ) (fun j69 =>
                            mIf s55 (
                              j69 true
                              ) (
                              mIdx (⟨some ad2, 2, 2⟩ : Sl) s28 1 fun ad70 =>
                              mIdx (⟨some ad3, 2, 2⟩ : Sl) s28 1 fun ad71 =>
                              mLoad cPtr ad70 fun x72 =>
                              mJoin (fun (s73 : Sl × Option Addr) =>
                                m_ref12_Quota_Objects s73.2 fun r79 =>
                                m_law12_sameInts s73.1 r79 fun r80 =>
                                j69 (!r80)
                                ) (fun j74 =>
                                mBoth (
                                  m_quota_Quota_Objects x72 fun r75 =>
                                  mLoad cPtr ad71 fun x76 =>
                                  j74 (r75, x76)
                                  ) (
                                  mLoad cPtr ad71 fun x77 =>
                                  m_quota_Quota_Objects x72 fun r78 =>
                                  j74 (r78, x77)
                                  ))
                              ))
                          ) (fun j56 =>
                          mIf (!decide (s33.1 = r39)) (
                            j56 true
                            ) (
                            mIdx (⟨some ad2, 2, 2⟩ : Sl) s28 1 fun ad81 =>
                            mIdx (⟨some ad3, 2, 2⟩ : Sl) s28 1 fun ad82 =>
                            mLoad cPtr ad81 fun x83 =>
                            mJoin (fun (s84 : Int × Int) =>
                              j56 (!decide (s84.1 = s84.2))
                              ) (fun j85 =>
                              mBoth (
                                m_quota_Quota_All x83 fun r86 =>
                                mLoad cPtr ad82 fun x87 =>
                                mDeref x87 fun ad88 =>
                                mLoad cSl (ad88.add 2) fun x89 =>
                                j85 (r86, (x89.len : Int))
                                ) (
                                mLoad cPtr ad82 fun x90 =>
                                mDeref x90 fun ad91 =>
                                mBoth (
                                  m_quota_Quota_All x83 fun r92 =>
                                  mLoad cSl (ad91.add 2) fun x93 =>
                                  j85 (r92, (x93.len : Int))
                                  ) (
                                  mLoad cSl (ad91.add 2) fun x94 =>
                                  m_quota_Quota_All x83 fun r95 =>
                                  j85 (r95, (x94.len : Int))
                                  )
                                ))
                            ))
                        ) (fun j34 =>
                        mBoth (
                          m_quota_Quota_Of x32 x13.Obj fun r35 =>
                          mLoad cPtr ad31 fun x36 =>
                          j34 (r35, x36)
                          ) (
                          mLoad cPtr ad31 fun x37 =>
                          m_quota_Quota_Of x32 x13.Obj fun r38 =>
                          j34 (r38, x37)
                          ))
                      ) (
                      rec11 (iAdd .i64 s10 1)
                      )
                    ) 0
                  )
                ) (fun j27 =>
                mIf (!decide (s14.1 = s14.2)) (
                  j27 true
                  ) (
                  mIdx (⟨some ad2, 2, 2⟩ : Sl) (iAnd .i64 x13.Which 1) 1 fun ad96 =>
                  mIdx (⟨some ad3, 2, 2⟩ : Sl) (iAnd .i64 x13.Which 1) 1 fun ad97 =>
                  mLoad cPtr ad96 fun x98 =>
                  mJoin (fun (s99 : Int × Option Addr) =>
                    m_ref12_Quota_May s99.2 x13.Obj fun r105 =>
                    j27 (!decide (s99.1 = r105))
                    ) (fun j100 =>
                    mBoth (
                      m_quota_Quota_May x98 x13.Obj fun r101 =>
                      mLoad cPtr ad97 fun x102 =>
                      j100 (r101, x102)
                      ) (
                      mLoad cPtr ad97 fun x103 =>
                      m_quota_Quota_May x98 x13.Obj fun r104 =>
                      j100 (r104, x103)
                      ))
                  ))
              ) (fun j15 =>
              mIf (decide (x13.Kind = 0)) (
                mIdx (⟨some ad2, 2, 2⟩ : Sl) (iAnd .i64 x13.Which 1) 1 fun ad106 =>
                mLoad cPtr ad106 fun x107 =>
                m_quota_Quota_Add x107 x13.Obj fun r108 =>
                mIdx (⟨some ad3, 2, 2⟩ : Sl) (iAnd .i64 x13.Which 1) 1 fun ad109 =>
                mLoad cPtr ad109 fun x110 =>
                m_ref12_Quota_Add x110 x13.Obj fun r111 =>
                j15 (r108, r111)
                ) (
                mIf (decide (x13.Kind = 1)) (
                  mIdx (⟨some ad2, 2, 2⟩ : Sl) (iAnd .i64 x13.Which 1) 1 fun ad112 =>
                  mLoad cPtr ad112 fun x113 =>
                  m_quota_Quota_Sub x113 x13.Obj x13.N fun r114 =>
                  mIdx (⟨some ad3, 2, 2⟩ : Sl) (iAnd .i64 x13.Which 1) 1 fun ad115 =>
                  mLoad cPtr ad115 fun x116 =>
                  m_ref12_Quota_Sub x116 x13.Obj x13.N fun r117 =>
                  j15 (r114, r117)
                  ) (
                  j15 (0, 0)
                  )
                )
              )
            ) (
            K true
            )
          ) 0
        )
      ) 0
    )
def x_law12_QuotaAll : Cx Try.prog := ⟨tys, [s_quota_New, s_ref12_New, s_law12_head, s_quota_Quota_Add, s_ref12_Quota_Add, s_ref12_Quota_Objects, s_quota_Quota_Objects, s_law12_sameInts, s_quota_Quota_All, s_quota_Quota_Sub, s_ref12_Quota_Sub, s_quota_Quota_May, s_ref12_Quota_May, s_quota_Quota_Of, s_ref12_Quota_Of], [15], [], mixed⟩
def h_law12_QuotaAll : Hint := (.seq .d (.seq .d (.seq .d (.seq .d (.seq (.seq .d (.blk (.loop [.slot 9 (tInt .i64)] 72057594033749568 [] (.seq .d (.seq (.blk (.seq .d (.seq .d (.seq (.seq (.reg (.run [3, 7, 11, 15] (.sel 41 47 277076930199552 (.run [19, 23, 27, 31, 35, 39] .nil) (.run [19, 23, 27, 31, 35, 39] .nil) .nil))) .d) .d)))) .d))))) (.seq (.seq .d (.blk (.loop [.slot 14 (tInt .i64)] 23384026197294446691258957323460456256900883791936 [] (.seq .d (.seq (.blk (.seq .d (.seq .d (.seq .d (.join [.slot 17 (tInt .i64), .slot 18 (tInt .i64)] 10141204801235539401614920384512 [] (.seq .d (.blk (.seq .d (.cond (.seq (.reg (.run [0, 4, 12, 17, 10, 23, 24] .nil)) (.reg (.run [0, 4, 12, 17, 10, 23, 24] .nil))) (.seq .d (.cond (.seq (.reg (.run [0, 4, 12, 20, 17, 25, 10, 31, 32] .nil)) (.reg (.run [0, 4, 12, 20, 17, 25, 10, 31, 32] .nil))) .d)))))) (.seq (.seq (.reg (.run [0, 4, 8, 12] (.join [.slot 120 tBool] 2658293732293002532444222542550401024 [] (.split 106 (.run [16, 20, 24, 28, 32, 36, 40, 44, 48, 52, 56, 60, 64, 68] .nil) (.run [16, 20, 28, 40, 44, 52, 33, 57, 26] (.join [.slot 112 (tInt .i64), .slot 115 tPtr] 46730671726813448656774466962980864 [] (.both 9 12 (.run [50] .nil) (.run [39] .nil)) (.run [63, 64, 68] .nil)))) .nil))) .d) (.seq .d (.blk (.loop [.slot 19 (tInt .i64)] 23384026197291788235267387491714720700374360522816 [] (.seq .d (.seq (.blk (.seq (.reg (.run [0, 4, 12, 24, 28, 36, 17, 41, 10] (.join [.slot 130 (tInt .i64), .slot 133 tPtr] 12250165209153784684681485867543655612416 [] (.both 5 8 (.run [34] .nil) (.run [23] .nil)) (.run [47, 48, 52] (.join [.slot 151 tBool] 5708293872536385442259970886601960284233924608 [] (.split 138 (.run [56, 60, 64, 68, 72, 76, 80, 84, 88, 92, 96, 100, 104] .nil) (.run [56, 60, 72, 76, 66] (.join [.slot 142 (tInt .i64), .slot 149 (tInt .i64)] 1388221388608531290560598462472360503747280896 [] (.both 17 20 (.run [82, 84, 88, 94, 96] .nil) (.run [84, 88] (.both 17 23 (.run [94, 96] .nil) (.run [96, 71] .nil)))) (.run [100, 104] .nil)))) (.run [108] (.join [.slot 163 tBool] 23372608215752799012210491035704932353403858714624 [] (.split 152 (.run [112, 116, 120, 124, 128, 132, 136, 140, 144, 148, 152] .nil) (.run [112, 116, 128, 132, 122] (.join [.slot 156 tSl, .slot 159 tPtr] 822094670998632891489572718402909198556462055424 [] (.both 31 34 (.run [138] .nil) (.run [127] .nil)) (.run [143, 147, 148, 152] .nil)))) .nil))))))) .d)) .d))))))))))) .d))))) .d))))))
theorem w_law12_QuotaAll : ∀ (a : Den [(tInt .i64), (tInt .i64), tSl]) (K : Den [tBool] → HP) (h : H), m_law12_QuotaAll a.1 a.2.1 a.2.2 K h = wpF x_law12_QuotaAll Try.f10 [(tInt .i64), (tInt .i64), tSl] [tBool] h_law12_QuotaAll a K h := fun a K h => by kernel_rfl
def s_law12_QuotaAll : Spec Try.prog := mkSpec x_law12_QuotaAll 10 Try.f10 [(tInt .i64), (tInt .i64), tSl] [tBool] false h_law12_QuotaAll (fun a => m_law12_QuotaAll a.1 a.2.1 a.2.2) w_law12_QuotaAll callee10 rfl
/-! sesame/sesamelaw12.QuotaSums -/
def m_law12_QuotaSums (a0 : Int) (a1 : Int) (a2 : Sl) (K : (Bool) → H → Prop) : H → Prop :=
  m_law12_head fun r1 =>
  mIf (!r1) (
    K false
    ) (
    m_quota_New (iAdd .i64 1 (iAnd .i64 a0 255)) (iAdd .i64 1 (iAnd .i64 a1 255)) fun r2 =>
    mIf ((!decide (r2.2 = 0)) || (r2.1.isNone)) (
      K false
      ) (
      mLoop (fun (rec4 : Int → H → Prop) (s3 : Int) =>
        mIf (decide (s3 < (a2.len : Int))) (
          mIdx a2 s3 4 fun ad5 =>
          mLoad S_law12_Op.cells ad5 fun x6 =>
          m_quota_Quota_Of r2.1 x6.Obj fun r7 =>
          m_quota_Quota_All r2.1 fun r8 =>
          mJoin (fun (s9 : Int) =>
            mJoin (fun (s16 : Bool) =>
              mIf s16 (
                K false
                ) (
                m_quota_Quota_Objects r2.1 fun r18 =>
                mLoop (fun (rec20 : (Int × Int) → H → Prop) (s19 : Int × Int) =>
                  mIf (decide (s19.2 < (r18.len : Int))) (
                    mIdx r18 s19.2 1 fun ad21 =>
                    mLoad (cInt .i64) ad21 fun x22 =>
                    m_quota_Quota_Of r2.1 x22 fun r23 =>
                    mJoin (fun (s34 : Bool) =>
                      mIf s34 (
                        K false
                        ) (
                        rec20 ((iAdd .i64 s19.1 r23), (iAdd .i64 s19.2 1))
                        )
                      ) (fun j35 =>
                      mIf ((decide (r23 < 1)) || (decide ((iAdd .i64 1 (iAnd .i64 a0 255)) < r23))) (
                        j35 true
                        ) (
                        mIf (decide (0 < s19.2)) (
                          mIdx r18 s19.2 1 fun ad40 =>
                          mIdx r18 (iSub .i64 s19.2 1) 1 fun ad41 =>
                          mLoad (cInt .i64) ad40 fun x42 =>
                          mLoad (cInt .i64) ad41 fun x43 =>
                          j35 (decide (x42 ≤ x43))
                          ) (
                          j35 false
                          )
                        ))
                    ) (
                    m_quota_Quota_All r2.1 fun r44 =>
                    mIf ((!decide (s19.1 = r44)) || (decide ((iAdd .i64 1 (iAnd .i64 a1 255)) < s19.1))) (
                      K false
                      ) (
                      rec4 (iAdd .i64 s3 1)
                      )
                    )
                  ) (0, 0)
                )
              ) (fun j17 =>
              mIf (!decide (s9 = 0)) (
                m_quota_Quota_Of r2.1 x6.Obj fun r45 =>
                mIf (!decide (r45 = r7)) (
                  j17 true
                  ) (
                  m_quota_Quota_All r2.1 fun r47 =>
                  j17 (!decide (r47 = r8))
                  )
                ) (
                j17 false
                ))
            ) (fun j10 =>
            mIf (decide (x6.Kind = 1)) (
              m_quota_Quota_Sub r2.1 x6.Obj x6.N fun r48 =>
              mJoin (fun (s59 : Bool) =>
                mIf s59 (
                  K false
                  ) (
                  j10 r48
                  )
                ) (fun j60 =>
                mIf (!((decide (r48 = 0)) == ((decide (0 ≤ x6.N)) && (decide (x6.N ≤ r7))))) (
                  j60 true
                  ) (
                  mIf (decide (r48 = 0)) (
                    m_quota_Quota_Of r2.1 x6.Obj fun r66 =>
                    mIf (!decide (r66 = (iSub .i64 r7 x6.N))) (
                      j60 true
                      ) (
                      m_quota_Quota_All r2.1 fun r68 =>
                      j60 (!decide (r68 = (iSub .i64 r8 x6.N)))
                      )
                    ) (
                    j60 false
                    )
                  ))
              ) (
              m_quota_Quota_Add r2.1 x6.Obj fun r69 =>
              mJoin (fun (s80 : Bool) =>
                mIf s80 (
                  K false
                  ) (
                  j10 r69
                  )
                ) (fun j81 =>
                mIf (!((decide (r69 = 0)) == ((decide (r7 < (iAdd .i64 1 (iAnd .i64 a0 255)))) && (decide (r8 < (iAdd .i64 1 (iAnd .i64 a1 255))))))) (
                  j81 true
                  ) (
                  mIf (decide (r69 = 0)) (
                    m_quota_Quota_Of r2.1 x6.Obj fun r87 =>
                    mIf (!decide (r87 = (iAdd .i64 r7 1))) (
                      j81 true
                      ) (
                      m_quota_Quota_All r2.1 fun r89 =>
                      j81 (!decide (r89 = (iAdd .i64 r8 1)))
                      )
                    ) (
                    j81 false
                    )
                  ))
              )
            )
          ) (
          m_quota_Quota_Objects r2.1 fun r90 =>
          mLoop (fun (rec92 : Int → H → Prop) (s91 : Int) =>
            mIf (decide (s91 < (r90.len : Int))) (
              mIdx r90 s91 1 fun ad93 =>
              mIdx r90 s91 1 fun ad94 =>
              mLoad (cInt .i64) ad94 fun x95 =>
              mJoin (fun (s96 : Int × Int) =>
                m_quota_Quota_Sub r2.1 s96.1 s96.2 fun r102 =>
                mIf (!decide (r102 = 0)) (
                  K false
                  ) (
                  rec92 (iAdd .i64 s91 1)
                  )
                ) (fun j97 =>
                mBoth (
                  mLoad (cInt .i64) ad93 fun x98 =>
                  m_quota_Quota_Of r2.1 x95 fun r99 =>
                  j97 (x98, r99)
                  ) (
                  m_quota_Quota_Of r2.1 x95 fun r100 =>
                  mLoad (cInt .i64) ad93 fun x101 =>
                  j97 (x101, r100)
                  ))
              ) (
              m_quota_Quota_All r2.1 fun r103 =>
              mIf (decide (r103 = 0)) (
                m_quota_Quota_Objects r2.1 fun r105 =>
                K (decide ((r105.len : Int) = 0))
                ) (
                K false
                )
              )
            ) 0
          )
        ) 0
      )
    )
def x_law12_QuotaSums : Cx Try.prog := ⟨tys, [s_quota_New, s_law12_head, s_quota_Quota_Add, s_quota_Quota_Objects, s_quota_Quota_All, s_quota_Quota_Sub, s_quota_Quota_Of], [10], [], mixed⟩
def h_law12_QuotaSums : Hint := (.seq .d (.seq .d (.seq .d (.seq (.seq (.reg (.run [3, 7, 11] (.sel 33 36 120259084288 (.run [15, 19, 23] .nil) (.run [15, 19, 23] .nil) .nil))) .d) (.seq (.seq .d (.blk (.loop [.slot 9 (tInt .i64)] 102844034832575377634685573909834406561420991602098604020465472 [] (.seq .d (.seq (.blk (.seq .d (.seq .d (.join [.slot 8 (tInt .i64)] 174224571863520493293247789997866069524800 [] (.seq .d (.cond (.seq .d (.seq (.reg (.run [0, 4, 8, 13, 16, 20] (.sel 67 72 9149585060559937601536 (.run [24, 32, 29, 36, 40] .nil) (.run [24, 28, 32, 36, 40] .nil) (.run [44, 48] (.join [.slot 97 tBool] 316912612278125487417014091776 [] (.split 74 (.run [52, 56, 60, 64, 68, 72, 76, 80, 84, 88, 92, 96, 100, 104, 108, 112, 116, 120, 124, 128, 132, 136, 140] .nil) (.run [52, 56, 60] (.split 77 (.run [64, 68, 80, 84, 73, 89, 92, 79, 96, 100] (.split 87 (.run [104, 108, 112, 116, 120, 124, 128, 132, 136, 140] .nil) (.run [104, 112, 116, 121, 124, 111, 128, 132, 136, 140] .nil))) (.run [64, 68, 72, 76, 80, 84, 88, 92, 96, 100, 104, 108, 112, 116, 120, 124, 128, 132, 136, 140] .nil)))) .nil))))) .d)) (.seq .d (.seq (.reg (.run [3, 7, 11, 15, 19, 23, 27, 31] (.sel 109 115 81778675521923535149355317185216512 (.run [35, 39, 43, 47, 51, 55] .nil) (.run [35, 39, 43, 47, 51, 55] .nil) (.run [59, 63] (.join [.slot 136 tBool] 174224239556521547064279573053300254179328 [] (.split 117 (.run [67, 71, 75, 79, 83, 87, 91, 95, 99, 103, 107, 111, 115, 119, 123, 127, 131, 135, 139] .nil) (.run [67, 71, 75] (.split 120 (.run [79, 83, 87, 91, 95, 99, 103, 107] (.split 128 (.run [111, 115, 119, 123, 127, 131, 135, 139] .nil) (.run [111, 115, 119, 123, 127, 131, 135, 139] .nil))) (.run [79, 83, 87, 91, 95, 99, 103, 107, 111, 115, 119, 123, 127, 131, 135, 139] .nil)))) .nil))))) .d)))) (.seq (.seq (.reg (.run [3, 7, 11] (.join [.slot 152 tBool] 11416587745072770884519941773203920568467849216 [] (.split 139 (.run [15, 19, 23, 27, 31, 35, 39] (.split 146 (.run [43, 47, 51, 55, 59, 63] .nil) (.run [43, 47, 51, 55, 59, 63] .nil))) (.run [15, 19, 23, 27, 31, 35, 39, 43, 47, 51, 55, 59, 63] .nil)) .nil))) .d) (.seq .d (.seq .d (.seq (.seq .d (.blk (.loop [.slot 14 (tInt .i64), .slot 15 (tInt .i64)] 50216813883047774184519724669467466177796459711348028325952 [] (.seq .d (.seq (.blk (.seq .d (.seq (.seq (.reg (.run [0, 4, 8] (.sel 169 175 94284393627491209059156115928192850164043520212467712 (.run [12, 16, 20, 24, 28, 32] .nil) (.run [12, 16, 20, 24, 28, 32] .nil) (.run [36] (.join [.slot 191 tBool] 6276910173444072527728494629829272627454403102073761562624 [] (.split 176 (.run [40, 44, 48, 52, 56, 60, 64, 68, 72, 76, 80, 84, 88, 92, 96] .nil) (.run [40, 44, 48] (.split 179 (.run [52, 56, 60, 68, 72, 76, 80, 66, 86, 88, 92, 96] .nil) (.run [52, 56, 60, 64, 68, 72, 76, 80, 84, 88, 92, 96] .nil)))) .nil))))) .d) .d))) .d))))) (.seq (.reg (.run [3, 7, 11, 15, 19] (.sel 199 205 101237096788316387359143611817493243958898788608315948623986688 (.run [23, 27, 31, 35, 39, 43] .nil) (.run [23, 27, 31, 35, 39, 43] .nil) .nil))) .d))))))))) .d))))) (.seq .d (.seq (.seq .d (.blk (.loop [.slot 18 (tInt .i64)] 215679161961065788055825581953861406051470909696358171453863045103680 [] (.seq .d (.seq (.blk (.seq (.reg (.run [0, 4, 8, 12, 20, 24, 28, 32, 38] (.join [.slot 218 (tInt .i64), .slot 224 (tInt .i64)] 27381195833824868541458687197754312402912724804142768926120854159360 [] (.both 4 10 (.run [43] .nil) (.run [18] .nil)) (.run [47, 48] .nil)))) .d)) .d))))) (.seq (.reg (.run [3, 7, 11, 15] (.split 230 (.run [19, 23, 27, 31, 35, 39] .nil) (.run [19, 23, 27, 31, 35, 39] .nil)))) .d))))))))
theorem w_law12_QuotaSums : ∀ (a : Den [(tInt .i64), (tInt .i64), tSl]) (K : Den [tBool] → HP) (h : H), m_law12_QuotaSums a.1 a.2.1 a.2.2 K h = wpF x_law12_QuotaSums Try.f11 [(tInt .i64), (tInt .i64), tSl] [tBool] h_law12_QuotaSums a K h := fun a K h => by kernel_rfl
def s_law12_QuotaSums : Spec Try.prog := mkSpec x_law12_QuotaSums 11 Try.f11 [(tInt .i64), (tInt .i64), tSl] [tBool] false h_law12_QuotaSums (fun a => m_law12_QuotaSums a.1 a.2.1 a.2.2) w_law12_QuotaSums callee11 rfl
end Go.Proofs.Ytlnlmideghepnaa.K
