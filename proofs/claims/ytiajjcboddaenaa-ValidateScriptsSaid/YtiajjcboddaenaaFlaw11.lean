/- Functions of the program, printed by a program of mine: law11_sameCaps, law11_known, law11_sameTokens, law11_Pair_step, law11_Pair_whole, law11_CatalogueAll, law11_into, law11_grown, law11_under, law11_told, law11_CatalogueFalls -/
import Derived.Test.YtiajjcboddaenaaT
import Derived.Test.YtiajjcboddaenaaFcatalogue
import Derived.Test.YtiajjcboddaenaaFref11
namespace Go.Proofs.Ytiajjcboddaenaa.K
open Go Go.Proofs
/-! sesame/sesamelaw11.sameCaps -/
def m_law11_sameCaps (a0 : Sl) (a1 : Sl) (K : (Bool) → H → Prop) : H → Prop :=
  mIf (!decide ((a0.len : Int) = (a1.len : Int))) (
    K false
    ) (
    mLoop (fun (rec2 : Int → H → Prop) (s1 : Int) =>
      mIf (decide (s1 < (a0.len : Int))) (
        mIdx a0 s1 3 fun ad3 =>
        mIdx a1 s1 3 fun ad4 =>
        mLoad S_api_Cap.cells ad3 fun x5 =>
        mLoad S_api_Cap.cells ad4 fun x6 =>
        mIf (!((decide (x5.Obj = x6.Obj)) && (((decide (x5.Pass.Hi = x6.Pass.Hi)) && ((decide (x5.Pass.Lo = x6.Pass.Lo)) && true)) && true))) (
          K false
          ) (
          rec2 (iAdd .i64 s1 1)
          )
        ) (
        K true
        )
      ) 0
    )
def x_law11_sameCaps : Cx Try.prog := ⟨tys, [], [], [], mixed⟩
def h_law11_sameCaps : Hint := (.seq .d (.seq .d (.seq (.seq .d (.blk (.loop [.slot 5 (tInt .i64)] 67106864 [] (.seq .d (.seq (.blk (.seq (.reg (.run [0, 4, 8, 16, 20, 24, 14, 30, 32] .nil)) .d)) .d))))) .d)))
theorem w_law11_sameCaps : ∀ (a : Den [tSl, tSl]) (K : Den [tBool] → HP) (h : H), m_law11_sameCaps a.1 a.2 K h = wpF x_law11_sameCaps Try.f56 [tSl, tSl] [tBool] h_law11_sameCaps a K h := fun a K h => by kernel_rfl
def s_law11_sameCaps : Spec Try.prog := mkSpec x_law11_sameCaps 56 Try.f56 [tSl, tSl] [tBool] false h_law11_sameCaps (fun a => m_law11_sameCaps a.1 a.2) w_law11_sameCaps callee56 rfl
/-! sesame/sesamelaw11.known -/
def m_law11_known (K : (Bool) → H → Prop) : H → Prop :=
  m_catalogue_New 3 64 fun r1 =>
  mIf ((!decide (r1.2 = 0)) || (r1.1.isNone)) (
    K false
    ) (
    m_catalogue_Catalogue_Root r1.1 (⟨7, ⟨0, 1⟩⟩ : S_api_Cap) 31 fun r2 =>
    m_catalogue_Catalogue_Child r1.1 r2.1 (⟨7, ⟨0, 2⟩⟩ : S_api_Cap) 3 fun r3 =>
    m_catalogue_Catalogue_At r1.1 r3.1 fun r4 =>
    mJoin (fun (s6 : Bool) =>
      mIf s6 (
        K false
        ) (
        m_catalogue_Catalogue_Drop r1.1 r2.1 fun r8 =>
        mJoin (fun (s11 : Bool) =>
          mIf s11 (
            m_catalogue_Catalogue_Count r1.1 fun r14 =>
            K (decide (r14 = 0))
            ) (
            K false
            )
          ) (fun j12 =>
          mIf (decide (r8.2 = 0)) (
            mNew 39 #[(Value.int .i64 7), (Value.int .u64 0), (Value.int .u64 1), (Value.int .i64 7), (Value.int .u64 0), (Value.int .u64 2)] fun ad15 =>
            m_law11_sameCaps r8.1 (⟨some ad15, 2, 2⟩ : Sl) fun r16 =>
            j12 r16
            ) (
            j12 false
            ))
        )
      ) (fun j7 =>
      mIf ((((((!decide (r2.2 = 0)) || (!decide (r3.2 = 0))) || (!decide (r2.1 = 0))) || (!decide (r3.1 = 1))) || (!r4.2)) || (!(((decide (r4.1.Cap.Obj = 7)) && (((decide (r4.1.Cap.Pass.Hi = 0)) && ((decide (r4.1.Cap.Pass.Lo = 2)) && true)) && true)) && ((decide (r4.1.Rights = 3)) && ((decide (r4.1.Parent = 0)) && true))))) (
        j7 true
        ) (
        m_catalogue_Catalogue_In r1.1 7 fun r17 =>
        j7 (!decide (r17 = 2))
        ))
    )
def x_law11_known : Cx Try.prog := ⟨tys, [s_catalogue_New, s_catalogue_Catalogue_Root, s_catalogue_Catalogue_Child, s_catalogue_Catalogue_Count, s_catalogue_Catalogue_In, s_catalogue_Catalogue_At, s_catalogue_Catalogue_Drop, s_law11_sameCaps], [3, 4, 9], [], mixed⟩
def h_law11_known : Hint := (.seq .d (.seq .d (.seq (.seq (.reg (.run [3, 7, 11] (.sel 19 22 7340032 (.run [15, 19, 23] .nil) (.run [15, 19, 23] .nil) .nil))) .d) (.seq .d (.seq .d (.seq .d (.seq .d (.seq .d (.seq (.seq (.reg (.run [3, 7, 11] (.sel 48 51 3940649673949184 (.run [15, 19, 23] .nil) (.run [15, 19, 23] .nil) (.run [27] (.sel 52 55 63050394783186944 (.run [31, 35, 39] .nil) (.run [31, 35, 39] .nil) (.run [43] (.sel 56 59 1008806316530991104 (.run [47, 51, 55] .nil) (.run [47, 51, 55] .nil) (.run [59] (.sel 60 63 16140901064495857664 (.run [63, 67, 71] .nil) (.run [63, 67, 71] .nil) (.run [75] (.sel 64 69 1143698132569992200192 (.run [79, 83, 87, 91, 95] .nil) (.run [79, 83, 87, 91, 95] .nil) (.run [99] (.join [.slot 74 tBool] 35417748621522339102720 [] (.split 70 (.run [103, 107, 111, 115] .nil) (.run [103, 107, 111, 115] .nil)) .nil))))))))))))) .d) (.seq .d (.seq (.reg (.run [3, 7, 11] (.join [.slot 89 tBool] 1218597226171546208103825408 [] (.split 83 (.run [15, 19, 23, 27, 31, 35] .nil) (.run [15, 19, 23, 27, 31, 35] .nil)) (.run [39] (.split 90 (.run [43, 47, 51, 55, 59] .nil) (.run [43, 47, 51, 55, 59] .nil)))))) .d)))))))))))
theorem w_law11_known : ∀ (a : Den []) (K : Den [tBool] → HP) (h : H), m_law11_known K h = wpF x_law11_known Try.f44 [] [tBool] h_law11_known a K h := fun a K h => by kernel_rfl
def s_law11_known : Spec Try.prog := mkSpec x_law11_known 44 Try.f44 [] [tBool] false h_law11_known (fun _ => m_law11_known) w_law11_known callee44 rfl
/-! sesame/sesamelaw11.sameTokens -/
def m_law11_sameTokens (a0 : Sl) (a1 : Sl) (K : (Bool) → H → Prop) : H → Prop :=
  mIf (!decide ((a0.len : Int) = (a1.len : Int))) (
    K false
    ) (
    mLoop (fun (rec2 : Int → H → Prop) (s1 : Int) =>
      mIf (decide (s1 < (a0.len : Int))) (
        mIdx a0 s1 5 fun ad3 =>
        mIdx a1 s1 5 fun ad4 =>
        mLoad S_api_Token.cells ad3 fun x5 =>
        mLoad S_api_Token.cells ad4 fun x6 =>
        mIf (!(((decide (x5.Cap.Obj = x6.Cap.Obj)) && (((decide (x5.Cap.Pass.Hi = x6.Cap.Pass.Hi)) && ((decide (x5.Cap.Pass.Lo = x6.Cap.Pass.Lo)) && true)) && true)) && ((decide (x5.Rights = x6.Rights)) && ((decide (x5.Parent = x6.Parent)) && true)))) (
          K false
          ) (
          rec2 (iAdd .i64 s1 1)
          )
        ) (
        K true
        )
      ) 0
    )
def x_law11_sameTokens : Cx Try.prog := ⟨tys, [], [], [], mixed⟩
def h_law11_sameTokens : Hint := (.seq .d (.seq .d (.seq (.seq .d (.blk (.loop [.slot 5 (tInt .i64)] 67106864 [] (.seq .d (.seq (.blk (.seq (.reg (.run [0, 4, 8, 16, 20, 24, 14, 30, 32] .nil)) .d)) .d))))) .d)))
theorem w_law11_sameTokens : ∀ (a : Den [tSl, tSl]) (K : Den [tBool] → HP) (h : H), m_law11_sameTokens a.1 a.2 K h = wpF x_law11_sameTokens Try.f55 [tSl, tSl] [tBool] h_law11_sameTokens a K h := fun a K h => by kernel_rfl
def s_law11_sameTokens : Spec Try.prog := mkSpec x_law11_sameTokens 55 Try.f55 [tSl, tSl] [tBool] false h_law11_sameTokens (fun a => m_law11_sameTokens a.1 a.2) w_law11_sameTokens callee55 rfl
/-! (sesame/sesamelaw11.Pair).step -/
def m_law11_Pair_step (a0 : S_law11_Pair) (a1 : S_law11_Step) (K : (Bool) → H → Prop) : H → Prop :=
  mIf (decide (a1.Kind = 0)) (
    m_catalogue_Catalogue_Root a0.P a1.C a1.Rights fun r1 =>
    m_ref11_Catalogue_Root a0.R a1.C a1.Rights fun r2 =>
    K ((decide (r1.1 = r2.1)) && (decide (r1.2 = r2.2)))
    ) (
    mIf (decide (a1.Kind = 1)) (
      m_catalogue_Catalogue_Child a0.P a1.N a1.C a1.Rights fun r3 =>
      m_ref11_Catalogue_Child a0.R a1.N a1.C a1.Rights fun r4 =>
      K ((decide (r3.1 = r4.1)) && (decide (r3.2 = r4.2)))
      ) (
      mIf (decide (a1.Kind = 2)) (
        m_catalogue_Catalogue_Find a0.P a1.C fun r5 =>
        m_ref11_Catalogue_Find a0.R a1.C fun r6 =>
        K ((decide (r5.1 = r6.1)) && (r5.2 == r6.2))
        ) (
        mIf (decide (a1.Kind = 3)) (
          m_catalogue_Catalogue_At a0.P a1.N fun r7 =>
          m_ref11_Catalogue_At a0.R a1.N fun r8 =>
          K ((((decide (r7.1.Cap.Obj = r8.1.Cap.Obj)) && (((decide (r7.1.Cap.Pass.Hi = r8.1.Cap.Pass.Hi)) && ((decide (r7.1.Cap.Pass.Lo = r8.1.Cap.Pass.Lo)) && true)) && true)) && ((decide (r7.1.Rights = r8.1.Rights)) && ((decide (r7.1.Parent = r8.1.Parent)) && true))) && (r7.2 == r8.2))
          ) (
          mIf (decide (a1.Kind = 4)) (
            m_catalogue_Catalogue_Drop a0.P a1.N fun r9 =>
            m_ref11_Catalogue_Drop a0.R a1.N fun r10 =>
            m_law11_sameCaps r9.1 r10.1 fun r11 =>
            K (r11 && (decide (r9.2 = r10.2)))
            ) (
            mIf (decide (a1.Kind = 5)) (
              m_catalogue_Catalogue_Of a0.P a1.C.Obj fun r12 =>
              m_ref11_Catalogue_Of a0.R a1.C.Obj fun r13 =>
              m_law11_sameTokens r12 r13 fun r14 =>
              K r14
              ) (
              mIf (decide (a1.Kind = 6)) (
                m_catalogue_Catalogue_Count a0.P fun r15 =>
                m_ref11_Catalogue_Count a0.R fun r16 =>
                mIf (decide (r15 = r16)) (
                  m_catalogue_Catalogue_In a0.P a1.C.Obj fun r19 =>
                  m_ref11_Catalogue_In a0.R a1.C.Obj fun r20 =>
                  K (decide (r19 = r20))
                  ) (
                  K false
                  )
                ) (
                K true
                )
              )
            )
          )
        )
      )
    )
def x_law11_Pair_step : Cx Try.prog := ⟨tys, [s_catalogue_Catalogue_Root, s_ref11_Catalogue_Root, s_catalogue_Catalogue_Child, s_ref11_Catalogue_Child, s_catalogue_Catalogue_Count, s_ref11_Catalogue_Count, s_catalogue_Catalogue_In, s_ref11_Catalogue_In, s_catalogue_Catalogue_At, s_catalogue_Catalogue_Find, s_catalogue_Catalogue_Drop, s_catalogue_Catalogue_Of, s_law11_sameTokens, s_law11_sameCaps, s_ref11_Catalogue_Find, s_ref11_Catalogue_At, s_ref11_Catalogue_Drop, s_ref11_Catalogue_Of], [2, 3, 17, 19], [], mixed⟩
def h_law11_Pair_step : Hint := (.seq .d (.seq (.seq .d (.blk (.seq .d (.cond (.seq .d (.seq .d (.seq (.reg (.run [3, 7, 11, 15] (.sel 52 56 135107988821114880 (.run [19, 23, 27, 31] .nil) (.run [19, 23, 27, 31] .nil) (.run [35] .nil)))) .d))) (.seq .d (.cond (.seq .d (.seq .d (.seq (.reg (.run [3, 7, 11, 15] (.sel 86 90 2321137573660088015435857920 (.run [19, 23, 27, 31] .nil) (.run [19, 23, 27, 31] .nil) (.run [35] .nil)))) .d))) (.seq .d (.cond (.seq .d (.seq .d (.seq (.reg (.run [3, 7, 11, 15] (.sel 112 116 155768905756044828855914889876602880 (.run [19, 23, 27, 31] .nil) (.run [19, 23, 27, 31] .nil) (.run [35] .nil)))) .d))) (.seq .d (.cond (.seq .d (.seq .d (.seq (.reg (.run [3, 7, 11, 15] (.sel 138 142 10453474311811229597594867940303919455928320 (.run [19, 23, 27, 31] .nil) (.run [19, 23, 27, 31] .nil) (.run [35] .nil)))) .d))) (.seq .d (.cond (.seq .d (.seq .d (.seq (.reg (.run [3, 7, 11, 15] (.sel 164 168 701520785918833400737768719703815849434847620628480 (.run [19, 23, 27, 31] .nil) (.run [19, 23, 27, 31] .nil) (.run [35] .nil)))) .d))) (.seq .d (.cond (.seq (.reg (.run [0, 8, 12, 24, 32, 36, 5, 17, 29, 41, 23, 47, 51, 52] .nil)) .d) (.seq .d (.cond (.seq (.reg (.run [0, 12, 5, 17, 11, 23, 24, 28] (.split 193 (.run [32, 40, 44, 56, 64, 68, 37, 49, 61, 73, 55, 79, 80, 84, 88] .nil) (.run [32, 36, 40, 44, 48, 52, 56, 60, 64, 68, 72, 76, 80, 84, 88] .nil)))) .d) .d)))))))))))))))) .d))
theorem w_law11_Pair_step : ∀ (a : Den [S_law11_Pair.ty, S_law11_Step.ty]) (K : Den [tBool] → HP) (h : H), m_law11_Pair_step a.1 a.2 K h = wpF x_law11_Pair_step Try.f45 [S_law11_Pair.ty, S_law11_Step.ty] [tBool] h_law11_Pair_step a K h := fun a K h => by kernel_rfl
def s_law11_Pair_step : Spec Try.prog := mkSpec x_law11_Pair_step 45 Try.f45 [S_law11_Pair.ty, S_law11_Step.ty] [tBool] false h_law11_Pair_step (fun a => m_law11_Pair_step a.1 a.2) w_law11_Pair_step callee45 rfl
/-! (sesame/sesamelaw11.Pair).whole -/
def m_law11_Pair_whole (a0 : S_law11_Pair) (K : (Bool) → H → Prop) : H → Prop :=
  mLoop (fun (rec2 : Int → H → Prop) (s1 : Int) =>
    mDeref a0.R fun ad3 =>
    mLoad cSl (ad3.add 0) fun x4 =>
    mIf (decide (s1 < (x4.len : Int))) (
      m_ref11_Catalogue_At a0.R s1 fun r5 =>
      m_law11_Pair_step a0 (⟨false, 3, s1, ⟨0, ⟨0, 0⟩⟩, 0⟩ : S_law11_Step) fun r6 =>
      mJoin (fun (s8 : Bool) =>
        mJoin (fun (s11 : Bool) =>
          mJoin (fun (s14 : Bool) =>
            mIf s14 (
              K false
              ) (
              rec2 (iAdd .i64 s1 1)
              )
            ) (fun j15 =>
            mIf s11 (
              j15 true
              ) (
              m_law11_Pair_step a0 (⟨false, 2, 0, ⟨r5.1.Cap.Obj, ⟨r5.1.Cap.Pass.Hi, r5.1.Cap.Pass.Lo⟩⟩, 0⟩ : S_law11_Step) fun r16 =>
              j15 (!r16)
              ))
          ) (fun j12 =>
          mIf s8 (
            j12 true
            ) (
            m_law11_Pair_step a0 (⟨false, 6, 0, ⟨r5.1.Cap.Obj, ⟨r5.1.Cap.Pass.Hi, r5.1.Cap.Pass.Lo⟩⟩, 0⟩ : S_law11_Step) fun r17 =>
            j12 (!r17)
            ))
        ) (fun j9 =>
        mIf (!r6) (
          j9 true
          ) (
          m_law11_Pair_step a0 (⟨false, 5, 0, ⟨r5.1.Cap.Obj, ⟨r5.1.Cap.Pass.Hi, r5.1.Cap.Pass.Lo⟩⟩, 0⟩ : S_law11_Step) fun r18 =>
          j9 (!r18)
          ))
      ) (
      K true
      )
    ) 0
def x_law11_Pair_whole : Cx Try.prog := ⟨tys, [s_law11_Pair_step, s_ref11_Catalogue_At], [1, 4], [], mixed⟩
def h_law11_Pair_whole : Hint := (.seq .d (.seq (.seq .d (.blk (.loop [.slot 3 (tInt .i64)] 4503599627370492 [] (.seq .d (.seq (.blk (.seq .d (.seq (.reg (.run [3, 7, 11, 15, 19, 23] (.join [.slot 35 tBool] 68182605824 [] (.split 28 (.run [27, 31, 35, 39, 43, 47, 51] .nil) (.run [27, 31, 35, 39, 43, 47, 51] .nil)) (.run [55] (.join [.slot 43 tBool] 17454747090944 [] (.split 36 (.run [59, 63, 67, 71, 75, 79, 83] .nil) (.run [59, 63, 67, 71, 75, 79, 83] .nil)) (.run [87] (.join [.slot 51 tBool] 4468415255281664 [] (.split 44 (.run [91, 95, 99, 103, 107, 111, 115] .nil) (.run [91, 95, 99, 103, 107, 111, 115] .nil)) .nil))))))) .d))) .d))))) .d))
theorem w_law11_Pair_whole : ∀ (a : Den [S_law11_Pair.ty]) (K : Den [tBool] → HP) (h : H), m_law11_Pair_whole a K h = wpF x_law11_Pair_whole Try.f46 [S_law11_Pair.ty] [tBool] h_law11_Pair_whole a K h := fun a K h => by kernel_rfl
def s_law11_Pair_whole : Spec Try.prog := mkSpec x_law11_Pair_whole 46 Try.f46 [S_law11_Pair.ty] [tBool] false h_law11_Pair_whole (fun a => m_law11_Pair_whole a) w_law11_Pair_whole callee46 rfl
/-! sesame/sesamelaw11.CatalogueAll -/
def m_law11_CatalogueAll (a0 : S_law11_Sizes) (a1 : Sl) (K : (Bool) → H → Prop) : H → Prop :=
  m_catalogue_New a0.Entries a0.Knob fun r1 =>
  m_ref11_New a0.Entries a0.Knob fun r2 =>
  m_catalogue_New a0.Other a0.Twist fun r3 =>
  m_ref11_New a0.Other a0.Twist fun r4 =>
  m_law11_known fun r5 =>
  mIf (((((!r5) || (!decide (r1.2 = r2.2))) || (!decide (r3.2 = r4.2))) || (!((r1.1.isNone) == (!decide (r2.2 = 0))))) || (!((r3.1.isNone) == (!decide (r4.2 = 0))))) (
    K false
    ) (
    mLoop (fun (rec7 : Int → H → Prop) (s6 : Int) =>
      mIf (decide (s6 < (a1.len : Int))) (
        mJoin (fun (s8 : Bool) =>
          mIf (!s8) (
            K false
            ) (
            rec7 (iAdd .i64 s6 1)
            )
          ) (fun j9 =>
          mIdx a1 s6 7 fun ad10 =>
          mLoad cBool (ad10.add 0) fun x11 =>
          mIf (x11 && (!r3.1.isNone)) (
            mIdx a1 s6 7 fun ad12 =>
            mLoad S_law11_Step.cells ad12 fun x13 =>
            m_law11_Pair_step (⟨r3.1, r4.1⟩ : S_law11_Pair) x13 fun r14 =>
            j9 r14
            ) (
            mIdx a1 s6 7 fun ad15 =>
            mLoad cBool (ad15.add 0) fun x16 =>
            mIf ((!x16) && (!r1.1.isNone)) (
              mIdx a1 s6 7 fun ad17 =>
              mLoad S_law11_Step.cells ad17 fun x18 =>
              m_law11_Pair_step (⟨r1.1, r2.1⟩ : S_law11_Pair) x18 fun r19 =>
              j9 r19
              ) (
              j9 true
              )
            )
          )
        ) (
        mJoin (fun (s21 : Bool) =>
          mIf s21 (
            mIf (r3.1.isNone) (
              K true
              ) (
              m_law11_Pair_whole (⟨r3.1, r4.1⟩ : S_law11_Pair) fun r28 =>
              K r28
              )
            ) (
            K false
            )
          ) (fun j22 =>
          mIf (r1.1.isNone) (
            j22 true
            ) (
            m_law11_Pair_whole (⟨r1.1, r2.1⟩ : S_law11_Pair) fun r29 =>
            j22 r29
            ))
        )
      ) 0
    )
def x_law11_CatalogueAll : Cx Try.prog := ⟨tys, [s_catalogue_New, s_ref11_New, s_law11_known, s_law11_Pair_step, s_law11_Pair_whole], [2, 13, 14], [], mixed⟩
def h_law11_CatalogueAll : Hint := (.seq .d (.seq .d (.seq .d (.seq .d (.seq .d (.seq (.seq (.reg (.run [3, 7, 11] (.sel 51 55 67553994410557440 (.run [15, 19, 23, 27] .nil) (.run [15, 19, 23, 27] .nil) (.run [31] (.sel 56 60 2161727821137838080 (.run [35, 39, 43, 47] .nil) (.run [35, 39, 43, 47] .nil) (.run [51] (.sel 61 67 290536219160925437952 (.run [55, 59, 63, 67, 71, 75] .nil) (.run [55, 59, 63, 67, 71, 75] .nil) (.run [79] (.sel 68 74 37188636052598456057856 (.run [83, 87, 91, 95, 99, 103] .nil) (.run [83, 87, 91, 95, 99, 103] .nil) .nil))))))))) .d) (.seq .d (.seq .d (.seq (.seq .d (.blk (.loop [.slot 15 (tInt .i64)] 1329227995782498021264577801931030544 [] (.seq .d (.seq (.blk (.seq .d (.join [.slot 16 tBool] 332306998791486463315279230707761152 [] (.seq (.reg (.run [3, 7, 11, 15, 19, 23] (.sel 92 95 69324642199981295394350956544 (.run [27, 31, 35] .nil) (.run [27, 31, 35] .nil) .nil))) (.cond (.reg (.run [4, 8, 12, 1, 18, 23, 24] .nil)) (.seq (.reg (.run [3, 7, 11, 15, 19, 23, 27] (.sel 108 111 4543259751217974174964184288067584 (.run [31, 35, 39] .nil) (.run [31, 35, 39] .nil) .nil))) (.cond (.reg (.run [4, 8, 12, 1, 18, 23, 24] .nil)) .d)))) .d))) .d))))) (.seq (.reg (.run [3, 7, 11] (.join [.slot 125 tBool] 74436767763955288882613195375699296256 [] (.split 122 (.run [15, 19, 23] .nil) (.run [15, 19, 23] .nil)) (.run [27] (.split 126 (.run [31, 35, 39] (.split 129 (.run [43, 47, 51, 55, 59] .nil) (.run [43, 47, 51, 55, 59] .nil))) (.run [31, 35, 39, 43, 47, 51, 55, 59] .nil)))))) .d))))))))))
theorem w_law11_CatalogueAll : ∀ (a : Den [S_law11_Sizes.ty, tSl]) (K : Den [tBool] → HP) (h : H), m_law11_CatalogueAll a.1 a.2 K h = wpF x_law11_CatalogueAll Try.f5 [S_law11_Sizes.ty, tSl] [tBool] h_law11_CatalogueAll a K h := fun a K h => by kernel_rfl
def s_law11_CatalogueAll : Spec Try.prog := mkSpec x_law11_CatalogueAll 5 Try.f5 [S_law11_Sizes.ty, tSl] [tBool] false h_law11_CatalogueAll (fun a => m_law11_CatalogueAll a.1 a.2) w_law11_CatalogueAll callee5 rfl
/-! sesame/sesamelaw11.into -/
def m_law11_into (a0 : Int) (a1 : Int) (K : (Int) → H → Prop) : H → Prop :=
  mNZ a1 <|
  mIf (decide ((iRem .i64 a0 a1) < 0)) (
    K (iAdd .i64 (iRem .i64 a0 a1) a1)
    ) (
    K (iRem .i64 a0 a1)
    )
def x_law11_into : Cx Try.prog := ⟨tys, [], [], [], mixed⟩
def h_law11_into : Hint := .d
theorem w_law11_into : ∀ (a : Den [(tInt .i64), (tInt .i64)]) (K : Den [(tInt .i64)] → HP) (h : H), m_law11_into a.1 a.2 K h = wpF x_law11_into Try.f47 [(tInt .i64), (tInt .i64)] [(tInt .i64)] h_law11_into a K h := fun a K h => by kernel_rfl
def s_law11_into : Spec Try.prog := mkSpec x_law11_into 47 Try.f47 [(tInt .i64), (tInt .i64)] [(tInt .i64)] true h_law11_into (fun a => m_law11_into a.1 a.2) w_law11_into callee47 rfl
/-! sesame/sesamelaw11.grown -/
def m_law11_grown (a0 : Int) (a1 : Int) (a2 : Sl) (K : (Option Addr) → H → Prop) : H → Prop :=
  mPure (m_law11_into a1 65) fun r1 =>
  m_catalogue_New a0 r1 fun r2 =>
  mIf ((!decide (r2.2 = 0)) || (r2.1.isNone)) (
    K none
    ) (
    mLoop (fun (rec4 : Int → H → Prop) (s3 : Int) =>
      mIf (decide (s3 < (a2.len : Int))) (
        mIdx a2 s3 7 fun ad5 =>
        mLoad S_law11_Step.cells ad5 fun x6 =>
        mIf (decide (x6.Kind = 0)) (
          m_catalogue_Catalogue_Root r2.1 x6.C x6.Rights fun _ =>
          rec4 (iAdd .i64 s3 1)
          ) (
          mIf (decide (x6.Kind = 1)) (
            mPure (m_law11_into x6.N a0) fun r8 =>
            m_catalogue_Catalogue_Child r2.1 r8 x6.C x6.Rights fun _ =>
            rec4 (iAdd .i64 s3 1)
            ) (
            mIf (decide (x6.Kind = 4)) (
              mPure (m_law11_into x6.N a0) fun r10 =>
              m_catalogue_Catalogue_Drop r2.1 r10 fun _ =>
              rec4 (iAdd .i64 s3 1)
              ) (
              rec4 (iAdd .i64 s3 1)
              )
            )
          )
        ) (
        K r2.1
        )
      ) 0
    )
def x_law11_grown : Cx Try.prog := ⟨tys, [s_catalogue_New, s_catalogue_Catalogue_Root, s_catalogue_Catalogue_Child, s_law11_into, s_catalogue_Catalogue_Drop], [10], [], mixed⟩
def h_law11_grown : Hint := (.seq .d (.seq .d (.seq (.seq (.reg (.run [3, 7, 11] (.sel 20 23 14680064 (.run [15, 19, 23] .nil) (.run [15, 19, 23] .nil) .nil))) .d) (.seq (.seq .d (.blk (.loop [.slot 9 (tInt .i64)] 18446744073692775936 [] (.seq .d (.seq (.blk (.seq .d (.seq .d (.blk (.seq .d (.cond .d (.seq .d (.cond (.reg (.run [0, 4, 12, 20, 28, 9, 16, 25, 33, 39] .nil)) .d)))))))) .d))))) .d))))
theorem w_law11_grown : ∀ (a : Den [(tInt .i64), (tInt .i64), tSl]) (K : Den [tPtr] → HP) (h : H), m_law11_grown a.1 a.2.1 a.2.2 K h = wpF x_law11_grown Try.f48 [(tInt .i64), (tInt .i64), tSl] [tPtr] h_law11_grown a K h := fun a K h => by kernel_rfl
def s_law11_grown : Spec Try.prog := mkSpec x_law11_grown 48 Try.f48 [(tInt .i64), (tInt .i64), tSl] [tPtr] false h_law11_grown (fun a => m_law11_grown a.1 a.2.1 a.2.2) w_law11_grown callee48 rfl
/-! sesame/sesamelaw11.under -/
def m_law11_under (a0 : Option Addr) (a1 : Int) (a2 : Int) (K : (Bool) → H → Prop) : H → Prop :=
  mLoop (fun (rec2 : (Int × Int) → H → Prop) (s1 : Int × Int) =>
    mIf (decide (s1.2 < 300)) (
      mIf (decide (s1.1 = a2)) (
        K true
        ) (
        m_catalogue_Catalogue_At a0 s1.1 fun r3 =>
        mIf ((!r3.2) || (decide (r3.1.Parent < 0))) (
          K false
          ) (
          rec2 (r3.1.Parent, (iAdd .i64 s1.2 1))
          )
        )
      ) (
      K false
      )
    ) (a1, 0)
def x_law11_under : Cx Try.prog := ⟨tys, [s_catalogue_Catalogue_At], [8], [], mixed⟩
def h_law11_under : Hint := (.seq .d (.seq (.seq .d (.blk (.loop [.slot 1 (tInt .i64), .slot 7 (tInt .i64)] 4294967234 [] (.seq .d (.seq (.blk (.seq .d (.seq .d (.seq (.seq (.reg (.run [3, 7, 11] (.sel 25 29 1006632960 (.run [15, 19, 23, 27] .nil) (.run [15, 19, 23, 27] .nil) .nil))) .d) .d)))) .d))))) .d))
theorem w_law11_under : ∀ (a : Den [tPtr, (tInt .i64), (tInt .i64)]) (K : Den [tBool] → HP) (h : H), m_law11_under a.1 a.2.1 a.2.2 K h = wpF x_law11_under Try.f50 [tPtr, (tInt .i64), (tInt .i64)] [tBool] h_law11_under a K h := fun a K h => by kernel_rfl
def s_law11_under : Spec Try.prog := mkSpec x_law11_under 50 Try.f50 [tPtr, (tInt .i64), (tInt .i64)] [tBool] false h_law11_under (fun a => m_law11_under a.1 a.2.1 a.2.2) w_law11_under callee50 rfl
/-! sesame/sesamelaw11.told -/
def m_law11_told (a0 : Option Addr) (a1 : Int) (K : (Bool) → H → Prop) : H → Prop :=
  m_catalogue_Catalogue_Of a0 a1 fun r1 =>
  m_catalogue_Catalogue_In a0 a1 fun r2 =>
  mIf ((!decide ((r1.len : Int) = r2)) || (decide ((r1.len : Int) = 0))) (
    K false
    ) (
    mLoop (fun (rec4 : Int → H → Prop) (s3 : Int) =>
      mIf (decide (s3 < (r1.len : Int))) (
        mIdx r1 s3 5 fun ad5 =>
        mLoad S_api_Cap.cells (ad5.add 0) fun x6 =>
        m_catalogue_Catalogue_Find a0 x6 fun r7 =>
        m_catalogue_Catalogue_At a0 r7.1 fun r8 =>
        mJoin (fun (s11 : Bool) =>
          mJoin (fun (s15 : Bool) =>
            mJoin (fun (s19 : Bool) =>
              mJoin (fun (s23 : Bool) =>
                mIf s23 (
                  K false
                  ) (
                  mJoin (fun (_s25 : Unit) =>
                    mLoop (fun (rec28 : Int → H → Prop) (s27 : Int) =>
                      mIf (decide (s27 < s3)) (
                        mIdx r1 s27 5 fun ad29 =>
                        mIdx r1 s3 5 fun ad30 =>
                        mLoad S_api_Cap.cells (ad29.add 0) fun x31 =>
                        mLoad S_api_Cap.cells (ad30.add 0) fun x32 =>
                        mIf ((decide (x31.Obj = x32.Obj)) && (((decide (x31.Pass.Hi = x32.Pass.Hi)) && ((decide (x31.Pass.Lo = x32.Pass.Lo)) && true)) && true)) (
                          K false
                          ) (
                          rec28 (iAdd .i64 s27 1)
                          )
                        ) (
                        rec4 (iAdd .i64 s3 1)
                        )
                      ) 0
                    ) (fun j26 =>
                    mIf (decide (0 < s3)) (
                      m_catalogue_Catalogue_At a0 r8.1.Parent fun r33 =>
                      mIdx r1 s3 5 fun ad34 =>
                      mLoad (cInt .i64) (ad34.add 4) fun x35 =>
                      mJoin (fun (s40 : Bool) =>
                        mIf s40 (
                          K false
                          ) (
                          j26 ()
                          )
                        ) (fun j41 =>
                        mIf (decide (x35 < 0)) (
                          j41 true
                          ) (
                          mIdx r1 s3 5 fun ad42 =>
                          mLoad (cInt .i64) (ad42.add 4) fun x43 =>
                          mIdx r1 x43 5 fun ad44 =>
                          mLoad S_api_Cap.cells (ad44.add 0) fun x45 =>
                          j41 (!((decide (x45.Obj = r33.1.Cap.Obj)) && (((decide (x45.Pass.Hi = r33.1.Cap.Pass.Hi)) && ((decide (x45.Pass.Lo = r33.1.Cap.Pass.Lo)) && true)) && true)))
                          ))
                      ) (
                      j26 ()
                      )
                    )
                  )
                ) (fun j24 =>
                mIf s19 (
                  j24 true
                  ) (
                  mIdx r1 s3 5 fun ad46 =>
                  mLoad (cInt .i64) (ad46.add 4) fun x47 =>
                  j24 (decide (s3 ≤ x47))
                  ))
              ) (fun j20 =>
              mIf (s15 || (!((decide (s3 = 0)) == (decide (r8.1.Parent = (-1)))))) (
                j20 true
                ) (
                mIdx r1 s3 5 fun ad48 =>
                mLoad (cInt .i64) (ad48.add 4) fun x49 =>
                j20 (!((decide (s3 = 0)) == (decide (x49 = (-1)))))
                ))
            ) (fun j16 =>
            mIf s11 (
              j16 true
              ) (
              mIdx r1 s3 5 fun ad50 =>
              mLoad (cInt .i64) (ad50.add 3) fun x51 =>
              j16 (!decide (x51 = r8.1.Rights))
              ))
          ) (fun j12 =>
          mIf (!r7.2) (
            j12 true
            ) (
            mIdx r1 s3 5 fun ad52 =>
            mLoad (cInt .i64) ((ad52.add 0).add 0) fun x53 =>
            j12 (!decide (x53 = a1))
            ))
        ) (
        K true
        )
      ) 0
    )
def x_law11_told : Cx Try.prog := ⟨tys, [s_catalogue_Catalogue_In, s_catalogue_Catalogue_At, s_catalogue_Catalogue_Find, s_catalogue_Catalogue_Of], [9, 11], [], mixed⟩
def h_law11_told : Hint := (.seq .d (.seq .d (.seq (.seq (.reg (.run [3, 7, 11, 15, 19, 23, 27] (.sel 23 27 251658240 (.run [31, 35, 39, 43] .nil) (.run [31, 35, 39, 43] .nil) .nil))) .d) (.seq (.seq .d (.blk (.loop [.slot 6 (tInt .i64)] 44601490397061246283071436545296722743541712 [] (.seq .d (.seq (.blk (.seq .d (.seq .d (.seq (.seq (.reg (.run [0, 4, 8] (.join [.slot 61 tBool] 4602678819172646912 [] (.split 52 (.run [12, 16, 20, 24, 28, 32, 36, 40, 44] .nil) (.run [12, 16, 20, 24, 28, 36, 34, 40, 44] .nil)) (.run [48] (.join [.slot 71 tBool] 4713143110832790437888 [] (.split 62 (.run [52, 56, 60, 64, 68, 72, 76, 80, 84] .nil) (.run [52, 56, 60, 64, 72, 77, 70, 80, 84] .nil)) (.run [88] (.sel 72 79 1199481086648889884278784 (.run [92, 96, 100, 104, 108, 112, 116] .nil) (.run [92, 96, 100, 105, 108, 112, 116] .nil) (.run [120] (.join [.slot 90 tBool] 2473462226931531291448836096 [] (.split 80 (.run [124, 128, 132, 136, 140, 144, 148, 152, 156, 160] .nil) (.run [124, 128, 132, 136, 140, 144, 150, 152, 156, 160] .nil)) (.run [164] (.join [.slot 99 tBool] 1262698840071087880397106708480 [] (.split 91 (.run [168, 172, 176, 180, 184, 188, 192, 196] .nil) (.run [168, 172, 176, 180, 188, 186, 192, 196] .nil)) .nil))))))))))) .d) (.join [] 680564732574226326698519813366833223696 [] (.seq .d (.cond (.seq .d (.seq (.reg (.run [0, 4, 8, 12, 18, 20, 24] (.join [.slot 128 tBool] 680481657092140369684692726922268901376 [] (.split 115 (.run [28, 32, 36, 40, 44, 48, 52, 56, 60, 64, 68, 72, 76] .nil) (.run [28, 32, 36, 40, 44, 64, 69, 50, 52, 56, 62, 72, 76] .nil)) .nil))) .d)) .d)) (.seq .d (.blk (.loop [.slot 13 (tInt .i64)] 44600809832327404406144509796081859475546128 [] (.seq .d (.seq (.blk (.seq (.reg (.run [0, 4, 8, 12, 20, 24, 28, 32, 18, 38, 40] .nil)) .d)) .d)))))))))) .d))))) .d))))
theorem w_law11_told : ∀ (a : Den [tPtr, (tInt .i64)]) (K : Den [tBool] → HP) (h : H), m_law11_told a.1 a.2 K h = wpF x_law11_told Try.f52 [tPtr, (tInt .i64)] [tBool] h_law11_told a K h := fun a K h => by kernel_rfl
def s_law11_told : Spec Try.prog := mkSpec x_law11_told 52 Try.f52 [tPtr, (tInt .i64)] [tBool] false h_law11_told (fun a => m_law11_told a.1 a.2) w_law11_told callee52 rfl
/-! sesame/sesamelaw11.CatalogueFalls -/
def m_law11_CatalogueFalls (a0 : Int) (a1 : Int) (a2 : Sl) (a3 : Int) (K : (Bool) → H → Prop) : H → Prop :=
  mPure (m_law11_into a0 60) fun r1 =>
  m_law11_grown (iAdd .i64 1 r1) a1 a2 fun r2 =>
  mJoin (fun (s4 : Bool) =>
    mIf s4 (
      K false
      ) (
      mPure (m_law11_into a3 (iAdd .i64 1 r1)) fun r6 =>
      mMake 98 40 #[(Value.int .i64 0), (Value.int .u64 0), (Value.int .u64 0), (Value.int .i64 0), (Value.int .i64 0)] (iAdd .i64 1 r1) (iAdd .i64 1 r1) fun s7 =>
      mMake 4 1 #[(Value.bool false)] (iAdd .i64 1 r1) (iAdd .i64 1 r1) fun s8 =>
      mMake 4 1 #[(Value.bool false)] (iAdd .i64 1 r1) (iAdd .i64 1 r1) fun s9 =>
      mLoop (fun (rec11 : (Int × Int) → H → Prop) (s10 : Int × Int) =>
        mIf (decide (s10.2 < (iAdd .i64 1 r1))) (
          m_catalogue_Catalogue_At r2 s10.2 fun r12 =>
          mIdx s7 s10.2 5 fun ad13 =>
          mStore ad13 [(Value.int .i64 r12.1.Cap.Obj), (Value.int .u64 r12.1.Cap.Pass.Hi), (Value.int .u64 r12.1.Cap.Pass.Lo), (Value.int .i64 r12.1.Rights), (Value.int .i64 r12.1.Parent)] <|
          mIdx s8 s10.2 1 fun ad14 =>
          mStore ad14 [(Value.bool r12.2)] <|
          mJoin (fun (s16 : Bool) =>
            mIdx s9 s10.2 1 fun ad18 =>
            mStore ad18 [(Value.bool s16)] <|
            mIf (!r12.2) (
              rec11 (s10.1, (iAdd .i64 s10.2 1))
              ) (
              m_catalogue_Catalogue_Find r2 r12.1.Cap fun r19 =>
              mIf ((((!r19.2) || (!decide (r19.1 = s10.2))) || (decide (r12.1.Rights < 1))) || (decide (31 < r12.1.Rights))) (
                K false
                ) (
                mJoin (fun (_s20 : Unit) =>
                  m_law11_told r2 r12.1.Cap.Obj fun r22 =>
                  mIf (!r22) (
                    K false
                    ) (
                    rec11 ((iAdd .i64 s10.1 1), (iAdd .i64 s10.2 1))
                    )
                  ) (fun j21 =>
                  mIf (decide (0 ≤ r12.1.Parent)) (
                    m_catalogue_Catalogue_At r2 r12.1.Parent fun r23 =>
                    mIf (((!r23.2) || (!decide (r23.1.Cap.Obj = r12.1.Cap.Obj))) || (!decide ((iOr .i64 r23.1.Rights r12.1.Rights) = r23.1.Rights))) (
                      K false
                      ) (
                      j21 ()
                      )
                    ) (
                    j21 ()
                    )
                  )
                )
              )
            ) (fun j17 =>
            mIf r12.2 (
              m_law11_under r2 s10.2 r6 fun r24 =>
              j17 r24
              ) (
              j17 false
              ))
          ) (
          m_catalogue_Catalogue_Count r2 fun r25 =>
          mIf (!decide (r25 = s10.1)) (
            K false
            ) (
            m_catalogue_Catalogue_Drop r2 r6 fun r26 =>
            mIdx s8 r6 1 fun ad27 =>
            mLoad cBool ad27 fun x28 =>
            mJoin (fun (s49 : Bool) =>
              mIf s49 (
                K false
                ) (
                mLoop (fun (rec52 : (Int × Int) → H → Prop) (s51 : Int × Int) =>
                  mIf (decide (s51.2 < (iAdd .i64 1 r1))) (
                    m_catalogue_Catalogue_At r2 s51.2 fun r53 =>
                    mIdx s8 s51.2 1 fun ad54 =>
                    mLoad cBool ad54 fun x55 =>
                    mJoin (fun (s58 : Bool) =>
                      mJoin (fun (s66 : Bool) =>
                        mIf s66 (
                          K false
                          ) (
                          mIdx s9 s51.2 1 fun ad68 =>
                          mLoad cBool ad68 fun x69 =>
                          mIf x69 (
                            mIdx s7 s51.2 5 fun ad70 =>
                            mLoad S_api_Cap.cells (ad70.add 0) fun x71 =>
                            m_catalogue_Catalogue_Find r2 x71 fun r72 =>
                            mIf r72.2 (
                              K false
                              ) (
                              rec52 ((iAdd .i64 s51.1 1), (iAdd .i64 s51.2 1))
                              )
                            ) (
                            rec52 (s51.1, (iAdd .i64 s51.2 1))
                            )
                          )
                        ) (fun j67 =>
                        mIf (!(r53.2 == s58)) (
                          j67 true
                          ) (
                          mIf r53.2 (
                            mIdx s7 s51.2 5 fun ad75 =>
                            mLoad S_api_Token.cells ad75 fun x76 =>
                            j67 (!(((decide (r53.1.Cap.Obj = x76.Cap.Obj)) && (((decide (r53.1.Cap.Pass.Hi = x76.Cap.Pass.Hi)) && ((decide (r53.1.Cap.Pass.Lo = x76.Cap.Pass.Lo)) && true)) && true)) && ((decide (r53.1.Rights = x76.Rights)) && ((decide (r53.1.Parent = x76.Parent)) && true))))
                            ) (
                            j67 false
                            )
                          ))
                      ) (fun j59 =>
                      mIf x55 (
                        mIdx s9 s51.2 1 fun ad77 =>
                        mLoad cBool ad77 fun x78 =>
                        j59 (!x78)
                        ) (
                        j59 false
                        ))
                    ) (
                    mIf (decide (s51.1 = (r26.1.len : Int))) (
                      m_catalogue_Catalogue_Count r2 fun r80 =>
                      K (decide (r80 = (iSub .i64 s10.1 s51.1)))
                      ) (
                      K false
                      )
                    )
                  ) (0, 0)
                )
              ) (fun j50 =>
              mIf ((!((decide (r26.2 = 0)) == x28)) || ((!decide (r26.2 = 0)) && ((!decide (r26.2 = 20)) || (!decide ((r26.1.len : Int) = 0))))) (
                j50 true
                ) (
                mIf (decide (r26.2 = 0)) (
                  mIf (decide ((r26.1.len : Int) = 0)) (
                    j50 true
                    ) (
                    mIdx r26.1 0 3 fun ad95 =>
                    mIdx s7 r6 5 fun ad96 =>
                    mLoad S_api_Cap.cells ad95 fun x97 =>
                    mLoad S_api_Cap.cells (ad96.add 0) fun x98 =>
                    j50 (!((decide (x97.Obj = x98.Obj)) && (((decide (x97.Pass.Hi = x98.Pass.Hi)) && ((decide (x97.Pass.Lo = x98.Pass.Lo)) && true)) && true)))
                    )
                  ) (
                  j50 false
                  )
                ))
            )
          )
        ) (0, 0)
      )
    ) (fun j5 =>
    mIf (r2.isNone) (
      j5 true
      ) (
      m_law11_known fun r99 =>
      j5 (!r99)
      ))
def x_law11_CatalogueFalls : Cx Try.prog := ⟨tys, [s_catalogue_Catalogue_Count, s_law11_known, s_law11_into, s_law11_grown, s_catalogue_Catalogue_At, s_law11_under, s_catalogue_Catalogue_Find, s_law11_told, s_catalogue_Catalogue_Drop], [15, 19, 25], [], mixed⟩
def h_law11_CatalogueFalls : Hint := (.seq .d (.seq .d (.seq .d (.seq (.seq (.reg (.run [3, 7, 11] (.join [.slot 41 tBool] 3848290697216 [] (.split 38 (.run [15, 19, 23] .nil) (.run [15, 19, 23] .nil)) .nil))) .d) (.seq .d (.seq .d (.seq .d (.seq .d (.seq .d (.seq (.seq .d (.blk (.loop [.slot 13 (tInt .i64), .slot 14 (tInt .i64)] 44601490397061246283071436543044923200364800 [] (.seq .d (.seq (.blk (.seq .d (.seq .d (.seq .d (.seq (.reg (.run [3, 7, 11, 15] (.join [.slot 78 tBool] 585573443875836006498304 [] (.split 73 (.run [19, 23, 27, 31, 35] .nil) (.run [19, 23, 27, 31, 35] .nil)) (.run [39, 43] .nil)))) (.seq .d (.seq .d (.seq .d (.seq (.seq (.reg (.run [3, 7, 11] (.sel 93 97 297105609428491265975789813760 (.run [15, 19, 23, 27] .nil) (.run [15, 19, 23, 27] .nil) (.run [31] (.sel 98 102 9507379501711720511225274040320 (.run [35, 39, 43, 47] .nil) (.run [35, 39, 43, 47] .nil) (.run [51] (.sel 103 107 304236144054775056359208769290240 (.run [55, 59, 63, 67] .nil) (.run [55, 59, 63, 67] .nil) .nil))))))) .d) (.join [] 696898287129563419514564469237105278058752 [] (.seq .d (.cond (.seq .d (.seq (.reg (.run [3, 7, 11] (.sel 120 128 677906277850307095180941600742975733760 (.run [15, 19, 23, 27, 31, 35, 39, 43] .nil) (.run [15, 19, 23, 27, 31, 35, 39, 43] .nil) (.run [47] (.sel 129 138 695537157986398219319137697590534224216064 (.run [51, 55, 59, 63, 67, 71, 75, 79, 83] .nil) (.run [51, 55, 59, 63, 67, 71, 75, 79, 83] .nil) .nil))))) .d)) .d)) .d)))))))))) .d))))) (.seq .d (.seq .d (.seq (.seq (.reg (.run [0, 4, 8, 12, 16, 22, 24, 28] (.sel 162 174 47878793638960379600352715119785431723928350107893760 (.run [32, 36, 40, 44, 48, 52, 56, 60, 64, 68, 72, 76] .nil) (.run [32, 36, 40] (.sel 165 173 23851706721240335625084136469929738880784819101368320 (.run [44, 48, 52] (.sel 168 172 11224332574701334411804299515261053590957561930055680 (.run [56, 60, 64, 68] .nil) (.run [56, 60, 64, 68] .nil) (.run [72] .nil))) (.run [44, 48, 52, 56, 60, 64, 68, 72] .nil) (.run [76] .nil))) (.run [80] (.join [.slot 194 tBool] 50216718102122141992632667988972134434494867384517139628032 [] (.split 175 (.run [84, 88, 92, 96, 100, 104, 108, 112, 116, 120, 124, 128, 132, 136, 140, 144, 148, 152, 156] .nil) (.run [84, 88, 92] (.split 178 (.run [96, 100, 104, 108] (.split 182 (.run [112, 116, 120, 124, 128, 132, 136, 140, 144, 148, 152, 156] .nil) (.run [112, 116, 124, 128, 132, 136, 122, 142, 144, 148, 152, 156] .nil))) (.run [96, 100, 104, 108, 112, 116, 120, 124, 128, 132, 136, 140, 144, 148, 152, 156] .nil)))) .nil))))) .d) (.seq .d (.seq (.seq .d (.blk (.loop [.slot 23 (tInt .i64), .slot 24 (tInt .i64)] 226156424291633143969848197001647459339602553138747897820722038053707710720 [] (.seq .d (.seq (.blk (.seq .d (.seq (.seq (.reg (.run [0, 4, 8, 12, 18, 20] (.join [.slot 217 tBool] 414667148444943922623052234004452327255649438139662125563849474048 [] (.split 211 (.run [24, 28, 32, 38, 40, 44] .nil) (.run [24, 28, 32, 36, 40, 44] .nil)) (.run [48, 52] (.join [.slot 229 tBool] 1723751590030944031871522277126317636195674921516187853010562080309248 [] (.split 219 (.run [56, 60, 64, 68, 72, 76, 80, 84, 88, 92] .nil) (.run [56, 60] (.split 221 (.run [68, 72, 76, 65, 82, 84, 88, 92] .nil) (.run [64, 68, 72, 76, 80, 84, 88, 92] .nil)))) .nil))))) .d) .d))) .d))))) (.seq (.reg (.run [3, 7, 11, 15, 19] (.split 251 (.run [23, 27, 31, 35, 39, 43, 47, 51] .nil) (.run [23, 27, 31, 35, 39, 43, 47, 51] .nil)))) .d))))))))))))))))
theorem w_law11_CatalogueFalls : ∀ (a : Den [(tInt .i64), (tInt .i64), tSl, (tInt .i64)]) (K : Den [tBool] → HP) (h : H), m_law11_CatalogueFalls a.1 a.2.1 a.2.2.1 a.2.2.2 K h = wpF x_law11_CatalogueFalls Try.f6 [(tInt .i64), (tInt .i64), tSl, (tInt .i64)] [tBool] h_law11_CatalogueFalls a K h := fun a K h => by kernel_rfl
def s_law11_CatalogueFalls : Spec Try.prog := mkSpec x_law11_CatalogueFalls 6 Try.f6 [(tInt .i64), (tInt .i64), tSl, (tInt .i64)] [tBool] false h_law11_CatalogueFalls (fun a => m_law11_CatalogueFalls a.1 a.2.1 a.2.2.1 a.2.2.2) w_law11_CatalogueFalls callee6 rfl
end Go.Proofs.Ytiajjcboddaenaa.K
