/- Functions of the program, printed by a program of mine: law19_Desk_step, law19_ValidateScripts -/
import Derived.Test.YtiajjcboddaenaaT
import Derived.Test.YtiajjcboddaenaaFcatalogue
import Derived.Test.YtiajjcboddaenaaFlaw19
import Derived.Test.YtiajjcboddaenaaFref11
import Derived.Test.YtiajjcboddaenaaFref19
import Derived.Test.YtiajjcboddaenaaFvalidate
namespace Go.Proofs.Ytiajjcboddaenaa.K
open Go Go.Proofs
/-! (*sesame/sesamelaw19.Desk).step -/
def m_law19_Desk_step (a0 : Option Addr) (a1 : S_law19_Op) (K : (Bool) → H → Prop) : H → Prop :=
  mIf (decide (a1.Kind = 1)) (
    mDeref a0 fun ad1 =>
    mLoad cPtr (ad1.add 0) fun x2 =>
    m_catalogue_Catalogue_Root x2 a1.C a1.N fun r3 =>
    mDeref a0 fun ad4 =>
    mLoad cPtr (ad4.add 2) fun x5 =>
    m_ref11_Catalogue_Root x5 a1.C a1.N fun r6 =>
    mIf (decide (r3.1 = r6.1)) (
      mPure (m_law19_num r3.2) fun r8 =>
      K (decide (r8 = r6.2))
      ) (
      K false
      )
    ) (
    mIf (decide (a1.Kind = 2)) (
      mDeref a0 fun ad9 =>
      mLoad cPtr (ad9.add 0) fun x10 =>
      m_catalogue_Catalogue_Child x10 a1.P a1.C a1.N fun r11 =>
      mDeref a0 fun ad12 =>
      mLoad cPtr (ad12.add 2) fun x13 =>
      m_ref11_Catalogue_Child x13 a1.P a1.C a1.N fun r14 =>
      mIf (decide (r11.1 = r14.1)) (
        mPure (m_law19_num r11.2) fun r16 =>
        K (decide (r16 = r14.2))
        ) (
        K false
        )
      ) (
      mIf (decide (a1.Kind = 3)) (
        mDeref a0 fun ad17 =>
        mLoad cPtr (ad17.add 0) fun x18 =>
        m_catalogue_Catalogue_Drop x18 a1.P fun r19 =>
        mDeref a0 fun ad20 =>
        mLoad cPtr (ad20.add 2) fun x21 =>
        m_ref11_Catalogue_Drop x21 a1.P fun r22 =>
        mDeref a0 fun ad23 =>
        mLoad cPtr (ad23.add 1) fun x24 =>
        m_validate_Validator_Gone x24 fun _ =>
        m_law19_caps r19.1 r22.1 fun r26 =>
        mIf r26 (
          mPure (m_law19_num r19.2) fun r28 =>
          K (decide (r28 = r22.2))
          ) (
          K false
          )
        ) (
        mIf (decide (a1.Kind = 4)) (
          mDeref a0 fun ad29 =>
          mDeref a0 fun ad30 =>
          mLoad cPtr (ad29.add 1) fun x31 =>
          mJoin (fun (s32 : Int × Option Addr) =>
            m_ref19_Given s32.2 a1.C a1.N fun r40 =>
            K (decide (s32.1 = r40))
            ) (fun j33 =>
            mBoth (
              m_validate_Validator_Given x31 a1.C a1.N fun r34 =>
              mPure (m_law19_num r34) fun r35 =>
              mLoad cPtr (ad30.add 2) fun x36 =>
              j33 (r35, x36)
              ) (
              mLoad cPtr (ad30.add 2) fun x37 =>
              m_validate_Validator_Given x31 a1.C a1.N fun r38 =>
              mPure (m_law19_num r38) fun r39 =>
              j33 (r39, x37)
              ))
          ) (
          mIf (decide (a1.Kind = 5)) (
            m_law19_listed a1.L fun r41 =>
            mDeref a0 fun ad42 =>
            mCut r41 0 (a1.L.len : Int) 3 fun s43 =>
            mLoad cPtr (ad42.add 1) fun x44 =>
            mJoin (fun (s45 : Addr × S_api_Cap × Int) =>
              mStore s45.1 [(Value.int .i64 s45.2.1.Obj), (Value.int .u64 s45.2.1.Pass.Hi), (Value.int .u64 s45.2.1.Pass.Lo)] <|
              mDeref a0 fun ad51 =>
              mLoad cPtr (ad51.add 2) fun x52 =>
              mJoin (fun (s53 : Addr × S_api_Cap × Int) =>
                mStore s53.1 [(Value.int .i64 s53.2.1.Obj), (Value.int .u64 s53.2.1.Pass.Hi), (Value.int .u64 s53.2.1.Pass.Lo)] <|
                mLoad S_api_Cap.cells s45.1 fun x59 =>
                mLoad S_api_Cap.cells s53.1 fun x60 =>
                mJoin (fun (s62 : Bool) =>
                  mJoin (fun (s66 : Bool) =>
                    mLoop (fun (rec69 : Int → H → Prop) (s68 : Int) =>
                      mIf (decide (s68 < (r41.len : Int))) (
                        mIdx r41 s68 3 fun ad70 =>
                        mStore ad70 [(Value.int .i64 (-1)), (Value.int .u64 0), (Value.int .u64 0)] <|
                        rec69 (iAdd .i64 s68 1)
                        ) (
                        K s66
                        )
                      ) 0
                    ) (fun j67 =>
                    mIf s62 (
                      m_law19_listed a1.L fun r71 =>
                      m_law19_caps r41 r71 fun r72 =>
                      j67 r72
                      ) (
                      j67 false
                      ))
                  ) (fun j63 =>
                  mIf ((decide (x59.Obj = x60.Obj)) && (((decide (x59.Pass.Hi = x60.Pass.Hi)) && ((decide (x59.Pass.Lo = x60.Pass.Lo)) && true)) && true)) (
                    mPure (m_law19_num s45.2.2) fun r73 =>
                    j63 (decide (r73 = s53.2.2))
                    ) (
                    j63 false
                    ))
                ) (fun j54 =>
                mBoth (
                  m_ref19_Named x52 a1.P a1.N a1.L fun r55 =>
                  mNew 39 #[(Value.int .i64 0), (Value.int .u64 0), (Value.int .u64 0)] fun ad56 =>
                  j54 (ad56, r55.1, r55.2)
                  ) (
                  mNew 39 #[(Value.int .i64 0), (Value.int .u64 0), (Value.int .u64 0)] fun ad57 =>
                  m_ref19_Named x52 a1.P a1.N a1.L fun r58 =>
                  j54 (ad57, r58.1, r58.2)
                  ))
              ) (fun j46 =>
              mBoth (
                m_validate_Validator_Named x44 a1.P a1.N s43 fun r47 =>
                mNew 39 #[(Value.int .i64 0), (Value.int .u64 0), (Value.int .u64 0)] fun ad48 =>
                j46 (ad48, r47.1, r47.2)
                ) (
                mNew 39 #[(Value.int .i64 0), (Value.int .u64 0), (Value.int .u64 0)] fun ad49 =>
                m_validate_Validator_Named x44 a1.P a1.N s43 fun r50 =>
                j46 (ad49, r50.1, r50.2)
                ))
            ) (
            mDeref a0 fun ad74 =>
            mLoad cPtr (ad74.add 1) fun x75 =>
            m_validate_Validator_Gone x75 fun _ =>
            K true
            )
          )
        )
      )
    )
def x_law19_Desk_step : Cx Try.prog := ⟨tys, [s_catalogue_Catalogue_Root, s_ref11_Catalogue_Root, s_catalogue_Catalogue_Child, s_ref11_Catalogue_Child, s_catalogue_Catalogue_Drop, s_validate_Validator_Gone, s_validate_Validator_Given, s_law19_num, s_validate_Validator_Named, s_ref19_Given, s_ref11_Catalogue_Drop, s_law19_caps, s_law19_listed, s_ref19_Named], [3], [], mixed⟩
def h_law19_Desk_step : Hint := (.seq .d (.seq (.seq .d (.blk (.seq .d (.cond (.seq (.reg (.run [0, 4, 8, 16, 24, 21, 29, 14, 35, 36, 40, 44, 48, 52] .nil)) (.seq (.reg (.run [0, 4, 8, 16, 24, 21, 29, 14, 35, 36, 40, 44, 48, 52] .nil)) (.seq (.reg (.run [3, 7, 11, 15] (.split 55 (.run [19, 23, 27, 31, 35, 39] .nil) (.run [19, 23, 27, 31, 35, 39] .nil)))) .d))) (.seq .d (.cond (.seq (.reg (.run [0, 4, 8, 16, 24, 32, 21, 29, 37, 14, 43, 44, 48, 52, 56, 60] .nil)) (.seq (.reg (.run [0, 4, 8, 16, 24, 32, 21, 29, 37, 14, 43, 44, 48, 52, 56, 60] .nil)) (.seq (.reg (.run [3, 7, 11, 15] (.split 94 (.run [19, 23, 27, 31, 35, 39] .nil) (.run [19, 23, 27, 31, 35, 39] .nil)))) .d))) (.seq .d (.cond (.seq (.reg (.run [0, 4, 8, 16, 21, 14, 27, 28, 32, 36, 40, 44] .nil)) (.seq (.reg (.run [0, 4, 8, 16, 21, 14, 27, 28, 32, 36, 40, 44] .nil)) (.seq .d (.seq (.reg (.run [3, 7, 11, 15] (.split 130 (.run [19, 23, 27, 31, 35, 39] .nil) (.run [19, 23, 27, 31, 35, 39] .nil)))) .d)))) (.seq .d (.cond (.seq (.reg (.run [0, 4, 8, 16, 24, 40, 44, 48, 56, 64, 21, 29, 61, 69, 14] (.join [.slot 147 (tInt .i64), .slot 151 tPtr] 3122104327794287239815000558170770610837258240 [] (.both 8 13 (.run [36, 54] .nil) (.run [35, 36] .nil)) (.run [75, 76, 80] .nil)))) .d) (.seq .d (.cond (.seq .d (.seq (.reg (.run [0, 4, 8, 16, 24, 32, 36, 21, 29, 41, 44, 48, 14] (.join [.slot 18 tAdr, .slot 178 S_api_Cap.ty, .slot 179 (tInt .i64)] 1340945290270751398286899278235182265930553979371257856 [] (.both 13 17 (.run [56, 60, 64, 70] .nil) (.run [55, 56, 60, 64] .nil)) (.run [75, 76] .nil)))) (.seq (.reg (.run [0, 4, 8, 16, 24, 32, 21, 29, 37, 14] (.join [.slot 20 tAdr, .slot 192 S_api_Cap.ty, .slot 193 (tInt .i64)] 21971388569394248562283621328253982765541862794746305445888 [] (.both 10 14 (.run [44, 48, 52, 58] .nil) (.run [43, 44, 48, 52] .nil)) (.run [63, 64] .nil)))) (.seq (.reg (.run [3, 7, 11, 15] (.join [.slot 202 tBool] 12453769843007174635450206215644010169547073201816644473585664 [] (.split 197 (.run [19, 23, 27, 31, 35] .nil) (.run [19, 23, 27, 31, 35] .nil)) (.run [39] (.join [.slot 209 tBool] 1619793548613062197746297789079891903342380617733055177983787008 [] (.split 203 (.run [43, 47, 51, 55, 59, 63] .nil) (.run [43, 47, 51, 55, 59, 63] .nil)) (.run [67] .nil)))))) (.seq (.seq .d (.blk (.loop [.slot 23 (tInt .i64)] 1683351162139593781124533473756169566597338790543152200205635420160 [] .d))) .d))))) .d)))))))))))) .d))
theorem w_law19_Desk_step : ∀ (a : Den [tPtr, S_law19_Op.ty]) (K : Den [tBool] → HP) (h : H), m_law19_Desk_step a.1 a.2 K h = wpF x_law19_Desk_step Try.f66 [tPtr, S_law19_Op.ty] [tBool] h_law19_Desk_step a K h := fun a K h => by kernel_rfl
def s_law19_Desk_step : Spec Try.prog := mkSpec x_law19_Desk_step 66 Try.f66 [tPtr, S_law19_Op.ty] [tBool] false h_law19_Desk_step (fun a => m_law19_Desk_step a.1 a.2) w_law19_Desk_step callee66 rfl
/-! sesame/sesamelaw19.ValidateScripts -/
def m_law19_ValidateScripts (a0 : Int) (a1 : S_law19_Numbers) (a2 : Sl) (K : (Bool) → H → Prop) : H → Prop :=
  m_law19_desk a0 a1 fun r1 =>
  mJoin (fun (s3 : Bool) =>
    mIf s3 (
      K false
      ) (
      mLoop (fun (rec6 : Int → H → Prop) (s5 : Int) =>
        mIf (decide (s5 < (a2.len : Int))) (
          mIdx a2 s5 7 fun ad7 =>
          mLoad S_law19_Op.cells ad7 fun x8 =>
          m_law19_Desk_step r1 x8 fun r9 =>
          mJoin (fun (s20 : Bool) =>
            mIf s20 (
              K false
              ) (
              rec6 (iAdd .i64 s5 1)
              )
            ) (fun j21 =>
            mIf (!r9) (
              j21 true
              ) (
              mDeref r1 fun ad22 =>
              mDeref r1 fun ad23 =>
              mLoad cPtr (ad22.add 0) fun x24 =>
              mJoin (fun (s25 : Int × Option Addr) =>
                m_ref11_Catalogue_Count s25.2 fun r31 =>
                j21 (!decide (s25.1 = r31))
                ) (fun j26 =>
                mBoth (
                  m_catalogue_Catalogue_Count x24 fun r27 =>
                  mLoad cPtr (ad23.add 2) fun x28 =>
                  j26 (r27, x28)
                  ) (
                  mLoad cPtr (ad23.add 2) fun x29 =>
                  m_catalogue_Catalogue_Count x24 fun r30 =>
                  j26 (r30, x29)
                  ))
              ))
          ) (
          mLoop (fun (rec33 : Int → H → Prop) (s32 : Int) =>
            mIf (decide (s32 < (a2.len : Int))) (
              mIdx a2 s32 7 fun ad34 =>
              mLoad S_api_Cap.cells (ad34.add 1) fun x35 =>
              mLoop (fun (rec37 : Int → H → Prop) (s36 : Int) =>
                mIf (decide (s36 ≤ 16)) (
                  mDeref r1 fun ad38 =>
                  mDeref r1 fun ad39 =>
                  mLoad cPtr (ad38.add 1) fun x40 =>
                  mJoin (fun (s41 : Int × Option Addr) =>
                    m_ref19_Given s41.2 x35 s36 fun r49 =>
                    mIf (!decide (s41.1 = r49)) (
                      K false
                      ) (
                      rec37 (iMul .i64 s36 2)
                      )
                    ) (fun j42 =>
                    mBoth (
                      m_validate_Validator_Given x40 x35 s36 fun r43 =>
                      mPure (m_law19_num r43) fun r44 =>
                      mLoad cPtr (ad39.add 2) fun x45 =>
                      j42 (r44, x45)
                      ) (
                      mLoad cPtr (ad39.add 2) fun x46 =>
                      m_validate_Validator_Given x40 x35 s36 fun r47 =>
                      mPure (m_law19_num r47) fun r48 =>
                      j42 (r48, x46)
                      ))
                  ) (
                  mDeref r1 fun ad50 =>
                  mLoad cPtr (ad50.add 0) fun x51 =>
                  m_catalogue_Catalogue_Find x51 x35 fun r52 =>
                  mDeref r1 fun ad53 =>
                  mLoad cPtr (ad53.add 2) fun x54 =>
                  m_ref11_Catalogue_Find x54 x35 fun r55 =>
                  mIf ((!decide (r52.1 = r55.1)) || (!(r52.2 == r55.2))) (
                    K false
                    ) (
                    rec33 (iAdd .i64 s32 1)
                    )
                  )
                ) 1
              ) (
              K true
              )
            ) 0
          )
        ) 0
      )
    ) (fun j4 =>
    mIf (r1.isNone) (
      j4 true
      ) (
      m_law19_alive fun r56 =>
      j4 (!r56)
      ))
def x_law19_ValidateScripts : Cx Try.prog := ⟨tys, [s_catalogue_Catalogue_Count, s_ref11_Catalogue_Count, s_catalogue_Catalogue_Find, s_law19_desk, s_law19_alive, s_validate_Validator_Given, s_law19_num, s_law19_Desk_step, s_ref19_Given, s_ref11_Catalogue_Find], [4, 10], [], mixed⟩
def h_law19_ValidateScripts : Hint := (.seq .d (.seq .d (.seq (.seq (.reg (.run [3, 7, 11] (.join [.slot 24 tBool] 29360128 [] (.split 21 (.run [15, 19, 23] .nil) (.run [15, 19, 23] .nil)) .nil))) .d) (.seq (.seq .d (.blk (.loop [.slot 8 (tInt .i64)] 2251799780131136 [] (.seq .d (.seq (.blk (.seq (.reg (.run [0, 4, 8, 12, 18, 23, 24, 28] (.join [.slot 50 tBool] 2251250057871360 [] (.split 38 (.run [32, 36, 40, 44, 48, 52, 56, 60, 64, 68, 72, 76] .nil) (.run [32, 36, 40, 52, 56, 60, 46] (.join [.slot 43 (tInt .i64), .slot 47 tPtr] 149533581377536 [] (.both 12 16 (.run [66] .nil) (.run [51] .nil)) (.run [71, 72, 76] .nil)))) .nil))) .d)) .d))))) (.seq (.seq .d (.blk (.loop [.slot 9 (tInt .i64)] 324518553658426724531356206956096 [] (.seq .d (.seq (.blk (.seq .d (.seq (.seq .d (.blk (.loop [.slot 11 (tInt .i64)] 4835698666772498271438912 [] (.seq .d (.seq (.blk (.seq (.reg (.run [0, 4, 8, 20, 32, 36, 40, 52, 17, 49, 14] (.join [.slot 73 (tInt .i64), .slot 77 tPtr] 165282826900437582479360 [] (.both 6 11 (.run [28, 46] .nil) (.run [27, 28] .nil)) (.run [59, 60] .nil)))) .d)) .d))))) (.seq (.reg (.run [0, 4, 8, 17, 14, 23, 24, 28, 32, 36, 40] .nil)) (.seq (.reg (.run [0, 4, 8, 17, 14, 23, 24, 28, 32, 36, 40] .nil)) (.seq (.reg (.run [3, 7, 11, 15] (.sel 103 107 304236144054775056359208769290240 (.run [19, 23, 27, 31] .nil) (.run [19, 23, 27, 31] .nil) .nil))) .d)))))) .d))))) .d)))))
theorem w_law19_ValidateScripts : ∀ (a : Den [(tInt .i64), S_law19_Numbers.ty, tSl]) (K : Den [tBool] → HP) (h : H), m_law19_ValidateScripts a.1 a.2.1 a.2.2 K h = wpF x_law19_ValidateScripts Try.f10 [(tInt .i64), S_law19_Numbers.ty, tSl] [tBool] h_law19_ValidateScripts a K h := fun a K h => by kernel_rfl
def s_law19_ValidateScripts : Spec Try.prog := mkSpec x_law19_ValidateScripts 10 Try.f10 [(tInt .i64), S_law19_Numbers.ty, tSl] [tBool] false h_law19_ValidateScripts (fun a => m_law19_ValidateScripts a.1 a.2.1 a.2.2) w_law19_ValidateScripts callee10 rfl
end Go.Proofs.Ytiajjcboddaenaa.K
