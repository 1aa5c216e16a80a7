/- Functions of the program, printed by a program of mine: law13_known, law13_IssueObjects -/
import Derived.Test.YtiajjcboddaenaaT
import Derived.Test.YtiajjcboddaenaaFcatalogue
import Derived.Test.YtiajjcboddaenaaFdraws
import Derived.Test.YtiajjcboddaenaaFissue
import Derived.Test.YtiajjcboddaenaaFref04
import Derived.Test.YtiajjcboddaenaaFref11
import Derived.Test.YtiajjcboddaenaaFref13
namespace Go.Proofs.Ytiajjcboddaenaa.K
open Go Go.Proofs
/-! sesame/sesamelaw13.known -/
def m_law13_known (K : (Bool) → H → Prop) : H → Prop :=
  mNew 37 #[(Value.int .u64 0), (Value.int .u64 1), (Value.int .u64 0), (Value.int .u64 1), (Value.int .u64 0), (Value.int .u64 2)] fun ad1 =>
  m_draws_New (⟨some ad1, 3, 3⟩ : Sl) 8 fun r2 =>
  mIf ((!decide (r2.2 = 0)) || (r2.1.isNone)) (
    K false
    ) (
    m_issue_Draw r2.1 Sl.nil fun r3 =>
    mNew 37 #[(Value.int .u64 0), (Value.int .u64 1)] fun ad4 =>
    m_issue_Draw r2.1 (⟨some ad4, 1, 1⟩ : Sl) fun r5 =>
    m_issue_Draw r2.1 Sl.nil fun r6 =>
    mIf (((((decide (r3.2 = 0)) && ((decide (r3.1.Hi = 0)) && ((decide (r3.1.Lo = 1)) && true))) && (decide (r5.2 = 0))) && ((decide (r5.1.Hi = 0)) && ((decide (r5.1.Lo = 2)) && true))) && (decide (r6.2 = 11))) (
      m_draws_Draws_Taken r2.1 fun r8 =>
      K (decide (r8 = 3))
      ) (
      K false
      )
    )
def x_law13_known : Cx Try.prog := ⟨tys, [s_draws_New, s_draws_Draws_Taken, s_issue_Draw], [3, 5, 7], [], mixed⟩
def h_law13_known : Hint := (.seq .d (.seq .d (.seq (.seq (.reg (.run [3, 7, 11] (.sel 19 22 7340032 (.run [15, 19, 23] .nil) (.run [15, 19, 23] .nil) .nil))) .d) (.seq .d (.seq .d (.seq .d (.seq (.reg (.run [3, 7, 11] (.sel 42 46 131941395333120 (.run [15, 19, 23, 27] .nil) (.run [15, 19, 23, 27] .nil) (.run [31] (.sel 47 50 1970324836974592 (.run [35, 39, 43] .nil) (.run [35, 39, 43] .nil) (.run [47] (.sel 51 55 67553994410557440 (.run [51, 55, 59, 63] .nil) (.run [51, 55, 59, 63] .nil) (.run [67] (.sel 56 59 1008806316530991104 (.run [71, 75, 79] .nil) (.run [71, 75, 79] .nil) (.run [83] (.split 60 (.run [87, 91, 95, 99, 103] .nil) (.run [87, 91, 95, 99, 103] .nil)))))))))))) .d)))))))
theorem w_law13_known : ∀ (a : Den []) (K : Den [tBool] → HP) (h : H), m_law13_known K h = wpF x_law13_known Try.f31 [] [tBool] h_law13_known a K h := fun a K h => by kernel_rfl
def s_law13_known : Spec Try.prog := mkSpec x_law13_known 31 Try.f31 [] [tBool] false h_law13_known (fun _ => m_law13_known) w_law13_known callee31 rfl
/-! sesame/sesamelaw13.IssueObjects -/
def m_law13_IssueObjects (a0 : Sl) (a1 : Int) (a2 : Sl) (a3 : Sl) (K : (Bool) → H → Prop) : H → Prop :=
  m_ref04_New a0 a1 fun r1 =>
  m_draws_New a0 a1 fun r2 =>
  m_catalogue_New 64 64 fun r3 =>
  m_ref11_New 64 64 fun r4 =>
  m_law13_known fun r5 =>
  mIf (((((!r5) || (!decide (r2.2 = r1.2))) || (!((r2.1.isNone) == (!decide (r1.2 = 0))))) || (!decide (r3.2 = 0))) || (r3.1.isNone)) (
    K false
    ) (
    mLoop (fun (rec7 : Int → H → Prop) (s6 : Int) =>
      mIf (decide (s6 < (a2.len : Int))) (
        mIdx a2 s6 5 fun ad8 =>
        mLoad (cInt .i64) (ad8.add 0) fun x9 =>
        mIf (decide (x9 < 0)) (
          mIdx a2 s6 5 fun ad10 =>
          mIdx a2 s6 5 fun ad11 =>
          mLoad S_api_Cap.cells (ad10.add 1) fun x12 =>
          mLoad (cInt .i64) (ad11.add 4) fun x13 =>
          m_catalogue_Catalogue_Root r3.1 x12 x13 fun _ =>
          mIdx a2 s6 5 fun ad15 =>
          mIdx a2 s6 5 fun ad16 =>
          mLoad S_api_Cap.cells (ad15.add 1) fun x17 =>
          mLoad (cInt .i64) (ad16.add 4) fun x18 =>
          m_ref11_Catalogue_Root r4.1 x17 x18 fun _ =>
          rec7 (iAdd .i64 s6 1)
          ) (
          mIdx a2 s6 5 fun ad20 =>
          mIdx a2 s6 5 fun ad21 =>
          mIdx a2 s6 5 fun ad22 =>
          mLoad (cInt .i64) (ad20.add 0) fun x23 =>
          mLoad S_api_Cap.cells (ad21.add 1) fun x24 =>
          mLoad (cInt .i64) (ad22.add 4) fun x25 =>
          m_catalogue_Catalogue_Child r3.1 x23 x24 x25 fun _ =>
          mIdx a2 s6 5 fun ad27 =>
          mIdx a2 s6 5 fun ad28 =>
          mIdx a2 s6 5 fun ad29 =>
          mLoad (cInt .i64) (ad27.add 0) fun x30 =>
          mLoad S_api_Cap.cells (ad28.add 1) fun x31 =>
          mLoad (cInt .i64) (ad29.add 4) fun x32 =>
          m_ref11_Catalogue_Child r4.1 x30 x31 x32 fun _ =>
          rec7 (iAdd .i64 s6 1)
          )
        ) (
        mLoop (fun (rec35 : Int → H → Prop) (s34 : Int) =>
          mIf ((decide (s34 < (a3.len : Int))) && (decide (r1.2 = 0))) (
            mIdx a3 s34 1 fun ad36 =>
            mLoad (cInt .i64) ad36 fun x37 =>
            m_ref13_Of r1.1 r4.1 x37 fun r38 =>
            mIdx a3 s34 1 fun ad39 =>
            mLoad (cInt .i64) ad39 fun x40 =>
            m_issue_Of r2.1 r3.1 x40 fun r41 =>
            mJoin (fun (s44 : Bool) =>
              mJoin (fun (s48 : Bool) =>
                mJoin (fun (s60 : Bool) =>
                  mIf s60 (
                    K false
                    ) (
                    rec35 (iAdd .i64 s34 1)
                    )
                  ) (fun j61 =>
                  mIf s48 (
                    j61 true
                    ) (
                    mIdx a3 s34 1 fun ad62 =>
                    mIdx a3 s34 1 fun ad63 =>
                    mLoad (cInt .i64) ad62 fun x64 =>
                    mJoin (fun (s65 : Int × Int) =>
                      m_ref11_Catalogue_In r4.1 s65.2 fun r71 =>
                      j61 (!decide (s65.1 = r71))
                      ) (fun j66 =>
                      mBoth (
                        m_catalogue_Catalogue_In r3.1 x64 fun r67 =>
                        mLoad (cInt .i64) ad63 fun x68 =>
                        j66 (r67, x68)
                        ) (
                        mLoad (cInt .i64) ad63 fun x69 =>
                        m_catalogue_Catalogue_In r3.1 x64 fun r70 =>
                        j66 (r70, x69)
                        ))
                    ))
                ) (fun j49 =>
                mIf s44 (
                  j49 true
                  ) (
                  m_catalogue_Catalogue_Count r3.1 fun r72 =>
                  m_ref11_Catalogue_Count r4.1 fun r73 =>
                  j49 (!decide (r72 = r73))
                  ))
              ) (fun j45 =>
              mIf ((!((decide (r41.1.Hi = r38.1.Hi)) && ((decide (r41.1.Lo = r38.1.Lo)) && true))) || (!decide (r41.2 = r38.2))) (
                j45 true
                ) (
                m_draws_Draws_Taken r2.1 fun r74 =>
                m_ref04_Draws_Taken r1.1 fun r75 =>
                j45 (!decide (r74 = r75))
                ))
            ) (
            K true
            )
          ) 0
        )
      ) 0
    )
def x_law13_IssueObjects : Cx Try.prog := ⟨tys, [s_ref04_New, s_draws_New, s_catalogue_New, s_ref11_New, s_law13_known, s_catalogue_Catalogue_Root, s_ref11_Catalogue_Root, s_catalogue_Catalogue_Child, s_ref11_Catalogue_Child, s_ref13_Of, s_issue_Of, s_draws_Draws_Taken, s_ref04_Draws_Taken, s_catalogue_Catalogue_Count, s_ref11_Catalogue_Count, s_catalogue_Catalogue_In, s_ref11_Catalogue_In], [19, 21], [], mixed⟩
def h_law13_IssueObjects : Hint := (.seq .d (.seq .d (.seq .d (.seq .d (.seq .d (.seq (.seq (.reg (.run [3, 7, 11] (.sel 45 49 1055531162664960 (.run [15, 19, 23, 27] .nil) (.run [15, 19, 23, 27] .nil) (.run [31] (.sel 50 56 141863388262170624 (.run [35, 39, 43, 47, 51, 55] .nil) (.run [35, 39, 43, 47, 51, 55] .nil) (.run [59] (.sel 57 60 2017612633061982208 (.run [63, 67, 71] .nil) (.run [63, 67, 71] .nil) (.run [75] (.sel 61 64 32281802128991715328 (.run [79, 83, 87] .nil) (.run [79, 83, 87] .nil) .nil))))))))) .d) (.seq (.seq .d (.blk (.loop [.slot 17 (tInt .i64)] 43556142965880123323275056263118912094208 [] (.seq .d (.seq (.blk (.seq .d (.cond (.seq (.reg (.run [0, 4, 8, 12, 16, 24, 28, 32, 36, 22, 42, 47] .nil)) (.reg (.run [0, 4, 8, 12, 16, 24, 28, 32, 36, 22, 42, 47] .nil))) (.seq (.reg (.run [0, 4, 8, 12, 16, 24, 28, 32, 36, 44, 48, 52, 56, 22, 42, 62, 67] .nil)) (.reg (.run [0, 4, 8, 12, 16, 24, 28, 32, 36, 44, 48, 52, 56, 22, 42, 62, 67] .nil)))))) .d))))) (.seq (.seq .d (.blk (.loop [.slot 18 (tInt .i64)] 6427752177035961102124292226398770286765500025379905018265856 [] (.seq (.seq (.reg (.run [3, 7, 11, 15, 19] (.sel 139 142 9756576024357147624421876744283658158866432 (.run [23, 27, 31] .nil) (.run [23, 27, 31] .nil) .nil))) .d) (.seq (.blk (.seq .d (.seq .d (.seq (.reg (.run [1, 5, 8, 12] (.sel 168 172 11224332574701334411804299515261053590957561930055680 (.run [16, 20, 24, 28] .nil) (.run [16, 20, 24, 28] .nil) (.run [32] (.join [.slot 179 tBool] 1508550298039859344946497854851085602624696323399483392 [] (.split 173 (.run [36, 40, 44, 48, 52, 56] .nil) (.run [36, 44, 43, 51, 52, 56] .nil)) (.run [60] (.join [.slot 186 tBool] 193094438149101996153151725420938957135961129395133874176 [] (.split 180 (.run [64, 68, 72, 76, 80, 84] .nil) (.run [64, 72, 71, 79, 80, 84] .nil)) (.run [88] (.join [.slot 201 tBool] 6427359858177499434620108632525699930937805577915892339048448 [] (.split 187 (.run [92, 96, 100, 104, 108, 112, 116, 120, 124, 128, 132, 136, 140, 144] .nil) (.run [92, 96, 100, 104, 116, 120, 124, 128, 110] (.join [.slot 193 (tInt .i64), .slot 198 (tInt .i64)] 414288714535520930413162101931705983462755459334626277851136 [] (.both 28 33 (.run [134] .nil) (.run [115] .nil)) (.run [139, 140, 144] .nil)))) .nil))))))))) .d)))) .d))))) .d))))))))
theorem w_law13_IssueObjects : ∀ (a : Den [tSl, (tInt .i64), tSl, tSl]) (K : Den [tBool] → HP) (h : H), m_law13_IssueObjects a.1 a.2.1 a.2.2.1 a.2.2.2 K h = wpF x_law13_IssueObjects Try.f4 [tSl, (tInt .i64), tSl, tSl] [tBool] h_law13_IssueObjects a K h := fun a K h => by kernel_rfl
def s_law13_IssueObjects : Spec Try.prog := mkSpec x_law13_IssueObjects 4 Try.f4 [tSl, (tInt .i64), tSl, tSl] [tBool] false h_law13_IssueObjects (fun a => m_law13_IssueObjects a.1 a.2.1 a.2.2.1 a.2.2.2) w_law13_IssueObjects callee4 rfl
end Go.Proofs.Ytiajjcboddaenaa.K
