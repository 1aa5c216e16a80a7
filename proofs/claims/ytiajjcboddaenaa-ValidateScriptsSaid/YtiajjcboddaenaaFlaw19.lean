/- Functions of the program, printed by a program of mine: law19_num, law19_Numbers_cut, law19_desk, law19_alive, law19_Desk_says, law19_named, law19_ValidateSame, law19_ValidateGone, law19_caps, law19_listed -/
import Derived.Test.YtiajjcboddaenaaT
import Derived.Test.YtiajjcboddaenaaFcache
import Derived.Test.YtiajjcboddaenaaFcatalogue
import Derived.Test.YtiajjcboddaenaaFref11
import Derived.Test.YtiajjcboddaenaaFvalidate
namespace Go.Proofs.Ytiajjcboddaenaa.K
open Go Go.Proofs
/-! sesame/sesamelaw19.num -/
def m_law19_num (a0 : Int) (K : (Int) → H → Prop) : H → Prop :=
  K a0
def x_law19_num : Cx Try.prog := ⟨tys, [], [], [], mixed⟩
def h_law19_num : Hint := .d
theorem w_law19_num : ∀ (a : Den [(tInt .i64)]) (K : Den [(tInt .i64)] → HP) (h : H), m_law19_num a K h = wpF x_law19_num Try.f62 [(tInt .i64)] [(tInt .i64)] h_law19_num a K h := fun a K h => by kernel_rfl
def s_law19_num : Spec Try.prog := mkSpec x_law19_num 62 Try.f62 [(tInt .i64)] [(tInt .i64)] true h_law19_num (fun a => m_law19_num a) w_law19_num callee62 rfl
/-! (sesame/sesamelaw19.Numbers).cut -/
def m_law19_Numbers_cut (a0 : S_law19_Numbers) (K : (S_law19_Numbers) → H → Prop) : H → Prop :=
  K (⟨(iRem .i64 (iAdd .i64 (iRem .i64 a0.Sets 17) 17) 17), (iAdd .i64 1 (iRem .i64 (iAdd .i64 (iRem .i64 a0.Ways 4) 4) 4)), (iRem .i64 (iAdd .i64 (iRem .i64 a0.Knob 65) 65) 65)⟩ : S_law19_Numbers)
def x_law19_Numbers_cut : Cx Try.prog := ⟨tys, [], [1, 2], [], mixed⟩
def h_law19_Numbers_cut : Hint := .d
theorem w_law19_Numbers_cut : ∀ (a : Den [S_law19_Numbers.ty]) (K : Den [S_law19_Numbers.ty] → HP) (h : H), m_law19_Numbers_cut a K h = wpF x_law19_Numbers_cut Try.f139 [S_law19_Numbers.ty] [S_law19_Numbers.ty] h_law19_Numbers_cut a K h := fun a K h => by kernel_rfl
def s_law19_Numbers_cut : Spec Try.prog := mkSpec x_law19_Numbers_cut 139 Try.f139 [S_law19_Numbers.ty] [S_law19_Numbers.ty] true h_law19_Numbers_cut (fun a => m_law19_Numbers_cut a) w_law19_Numbers_cut callee139 rfl
/-! sesame/sesamelaw19.desk -/
def m_law19_desk (a0 : Int) (a1 : S_law19_Numbers) (K : (Option Addr) → H → Prop) : H → Prop :=
  mPure (m_law19_Numbers_cut a1) fun r1 =>
  m_catalogue_New (iAdd .i64 1 (iRem .i64 (iAdd .i64 (iRem .i64 a0 20) 20) 20)) r1.Knob fun r2 =>
  m_cache_New r1.Sets r1.Ways r1.Knob fun r3 =>
  m_ref11_New (iAdd .i64 1 (iRem .i64 (iAdd .i64 (iRem .i64 a0 20) 20) 20)) r1.Knob fun r4 =>
  mJoin (fun (s6 : Bool) =>
    mJoin (fun (s9 : Bool) =>
      mIf (s9 || (!decide (r4.2 = 0))) (
        K none
        ) (
        m_validate_New r2.1 r3.1 fun r11 =>
        mIf (r11.isNone) (
          K none
          ) (
          mNew 122 #[(Value.pointer r2.1), (Value.pointer r11), (Value.pointer r4.1)] fun ad12 =>
          K (some ad12)
          )
        )
      ) (fun j10 =>
      mIf s6 (
        j10 true
        ) (
        mPure (m_law19_num r3.2) fun r13 =>
        j10 (!decide (r13 = 0))
        ))
    ) (fun j7 =>
    mIf ((r2.1.isNone) || (r3.1.isNone)) (
      j7 true
      ) (
      mPure (m_law19_num r2.2) fun r14 =>
      j7 (!decide (r14 = 0))
      ))
def x_law19_desk : Cx Try.prog := ⟨tys, [s_catalogue_New, s_ref11_New, s_law19_num, s_law19_Numbers_cut, s_cache_New, s_validate_New], [3, 5], [], mixed⟩
def h_law19_desk : Hint := (.seq .d (.seq .d (.seq .d (.seq .d (.seq .d (.seq .d (.seq (.seq (.reg (.run [3, 7, 11] (.sel 47 50 1970324836974592 (.run [15, 19, 23] .nil) (.run [15, 19, 23] .nil) (.run [27] (.join [.slot 55 tBool] 67553994410557440 [] (.split 51 (.run [31, 35, 39, 43] .nil) (.run [31, 35, 39, 43] .nil)) (.run [47] (.join [.slot 60 tBool] 2161727821137838080 [] (.split 56 (.run [51, 55, 59, 63] .nil) (.run [51, 55, 59, 63] .nil)) (.run [67] (.sel 61 64 32281802128991715328 (.run [71, 75, 79] .nil) (.run [71, 75, 79] .nil) .nil))))))))) .d) .d)))))))
theorem w_law19_desk : ∀ (a : Den [(tInt .i64), S_law19_Numbers.ty]) (K : Den [tPtr] → HP) (h : H), m_law19_desk a.1 a.2 K h = wpF x_law19_desk Try.f58 [(tInt .i64), S_law19_Numbers.ty] [tPtr] h_law19_desk a K h := fun a K h => by kernel_rfl
def s_law19_desk : Spec Try.prog := mkSpec x_law19_desk 58 Try.f58 [(tInt .i64), S_law19_Numbers.ty] [tPtr] false h_law19_desk (fun a => m_law19_desk a.1 a.2) w_law19_desk callee58 rfl
/-! sesame/sesamelaw19.alive -/
def m_law19_alive (K : (Bool) → H → Prop) : H → Prop :=
  m_law19_desk 4 (⟨1, 0, 64⟩ : S_law19_Numbers) fun r1 =>
  mIf (r1.isNone) (
    K false
    ) (
    mDeref r1 fun ad2 =>
    mLoad cPtr (ad2.add 0) fun x3 =>
    m_catalogue_Catalogue_Root x3 (⟨1, ⟨0, 5⟩⟩ : S_api_Cap) 31 fun _ =>
    mDeref r1 fun ad5 =>
    mLoad cPtr (ad5.add 0) fun x6 =>
    m_catalogue_Catalogue_Child x6 0 (⟨1, ⟨0, 7⟩⟩ : S_api_Cap) 1 fun _ =>
    mDeref r1 fun ad8 =>
    mLoad cPtr (ad8.add 1) fun x9 =>
    mNew 39 #[(Value.int .i64 1), (Value.int .u64 0), (Value.int .u64 7), (Value.int .i64 1), (Value.int .u64 0), (Value.int .u64 5)] fun ad10 =>
    mJoin (fun (s11 : Addr × S_api_Cap × Int) =>
      mStore s11.1 [(Value.int .i64 s11.2.1.Obj), (Value.int .u64 s11.2.1.Pass.Hi), (Value.int .u64 s11.2.1.Pass.Lo)] <|
      mDeref r1 fun ad17 =>
      mLoad cPtr (ad17.add 1) fun x18 =>
      m_validate_Validator_Given x18 (⟨1, ⟨0, 7⟩⟩ : S_api_Cap) 1 fun r19 =>
      mPure (m_law19_num r19) fun r20 =>
      mJoin (fun (s25 : Bool) =>
        mJoin (fun (s31 : Bool) =>
          mJoin (fun (s34 : Bool) =>
            mIf s34 (
              mPure (m_law19_num s11.2.2) fun r37 =>
              K (decide (r37 = 0))
              ) (
              K false
              )
            ) (fun j35 =>
            mIf s31 (
              mLoad S_api_Cap.cells s11.1 fun x38 =>
              j35 ((decide (x38.Obj = 1)) && (((decide (x38.Pass.Hi = 0)) && ((decide (x38.Pass.Lo = 5)) && true)) && true))
              ) (
              j35 false
              ))
          ) (fun j32 =>
          mIf s25 (
            mDeref r1 fun ad39 =>
            mLoad cPtr (ad39.add 1) fun x40 =>
            m_validate_Validator_Given x40 (⟨2, ⟨0, 0⟩⟩ : S_api_Cap) 1 fun r41 =>
            mPure (m_law19_num r41) fun r42 =>
            j32 (decide (r42 = 3))
            ) (
            j32 false
            ))
        ) (fun j26 =>
        mIf (decide (r20 = 0)) (
          mDeref r1 fun ad43 =>
          mLoad cPtr (ad43.add 1) fun x44 =>
          m_validate_Validator_Given x44 (⟨1, ⟨0, 7⟩⟩ : S_api_Cap) 2 fun r45 =>
          mPure (m_law19_num r45) fun r46 =>
          j26 (decide (r46 = 4))
          ) (
          j26 false
          ))
      ) (fun j12 =>
      mBoth (
        m_validate_Validator_Named x9 1 2 (⟨some ad10, 2, 2⟩ : Sl) fun r13 =>
        mNew 39 #[(Value.int .i64 0), (Value.int .u64 0), (Value.int .u64 0)] fun ad14 =>
        j12 (ad14, r13.1, r13.2)
        ) (
        mNew 39 #[(Value.int .i64 0), (Value.int .u64 0), (Value.int .u64 0)] fun ad15 =>
        m_validate_Validator_Named x9 1 2 (⟨some ad10, 2, 2⟩ : Sl) fun r16 =>
        j12 (ad15, r16.1, r16.2)
        ))
    )
def x_law19_alive : Cx Try.prog := ⟨tys, [s_catalogue_Catalogue_Root, s_catalogue_Catalogue_Child, s_law19_desk, s_validate_Validator_Given, s_law19_num, s_validate_Validator_Named], [2, 3], [], mixed⟩
def h_law19_alive : Hint := (.seq .d (.seq .d (.seq .d (.seq .d (.seq .d (.seq (.reg (.run [0, 4, 8, 17, 14, 23] .nil)) (.seq (.reg (.run [0, 4, 8, 17, 14, 23] .nil)) (.seq (.reg (.run [0, 4, 8, 17, 21, 14, 26] (.join [.slot 4 tAdr, .slot 35 S_api_Cap.ty, .slot 36 (tInt .i64)] 120326193168 [] (.both 7 11 (.run [32, 36, 40, 46] .nil) (.run [31, 32, 36, 40] .nil)) (.run [51, 52] .nil)))) (.seq (.reg (.run [0, 4, 8, 17, 14, 23, 24, 28, 32] (.join [.slot 54 tBool] 35958428274786304 [] (.split 45 (.run [36, 40, 44, 53, 50, 59, 60, 64, 68] .nil) (.run [36, 40, 44, 48, 52, 56, 60, 64, 68] .nil)) (.run [72] (.join [.slot 64 tBool] 36821430553381175296 [] (.split 55 (.run [76, 80, 84, 92, 90, 99, 100, 104, 108] .nil) (.run [76, 80, 84, 88, 92, 96, 100, 104, 108] .nil)) (.run [112] (.join [.slot 69 tBool] 1106804644422573096960 [] (.split 65 (.run [121, 118, 124, 128] .nil) (.run [116, 120, 124, 128] .nil)) (.run [132] (.split 70 (.run [136, 140, 144, 148, 152] .nil) (.run [136, 140, 144, 148, 152] .nil)))))))))) .d)))))))))
theorem w_law19_alive : ∀ (a : Den []) (K : Den [tBool] → HP) (h : H), m_law19_alive K h = wpF x_law19_alive Try.f59 [] [tBool] h_law19_alive a K h := fun a K h => by kernel_rfl
def s_law19_alive : Spec Try.prog := mkSpec x_law19_alive 59 Try.f59 [] [tBool] false h_law19_alive (fun _ => m_law19_alive) w_law19_alive callee59 rfl
/-! (*sesame/sesamelaw19.Desk).says -/
def m_law19_Desk_says (a0 : Option Addr) (a1 : S_api_Cap) (a2 : Int) (K : (Int) → H → Prop) : H → Prop :=
  mDeref a0 fun ad1 =>
  mLoad cPtr (ad1.add 0) fun x2 =>
  m_catalogue_Catalogue_Find x2 a1 fun r3 =>
  mIf (!r3.2) (
    K 3
    ) (
    mDeref a0 fun ad4 =>
    mLoad cPtr (ad4.add 0) fun x5 =>
    m_catalogue_Catalogue_At x5 r3.1 fun r6 =>
    mIf ((!r6.2) || (!((decide (r6.1.Cap.Obj = a1.Obj)) && (((decide (r6.1.Cap.Pass.Hi = a1.Pass.Hi)) && ((decide (r6.1.Cap.Pass.Lo = a1.Pass.Lo)) && true)) && true)))) (
      K (-1)
      ) (
      mIf (((decide (a2 < 1)) || (decide (31 < a2))) || (!decide ((iOr .i64 a2 r6.1.Rights) = r6.1.Rights))) (
        K 4
        ) (
        K 0
        )
      )
    )
def x_law19_Desk_says : Cx Try.prog := ⟨tys, [s_catalogue_Catalogue_At, s_catalogue_Catalogue_Find], [4, 9], [], mixed⟩
def h_law19_Desk_says : Hint := (.seq .d (.seq (.reg (.run [0, 4, 8, 17, 14, 23, 24, 28, 32, 36, 40] .nil)) (.seq .d (.seq .d (.seq (.seq (.reg (.run [3, 7, 11] (.sel 33 38 532575944704 (.run [15, 19, 23, 27, 31] .nil) (.run [15, 19, 23, 27, 31] .nil) .nil))) .d) (.seq (.seq (.reg (.run [3, 7, 11] (.sel 41 44 30786325577728 (.run [15, 19, 23] .nil) (.run [15, 19, 23] .nil) (.run [27] (.sel 45 53 17944029765304320 (.run [31, 35, 39, 43, 47, 51, 55, 59] .nil) (.run [31, 35, 39, 43, 47, 51, 55, 59] .nil) .nil))))) .d) .d))))))
theorem w_law19_Desk_says : ∀ (a : Den [tPtr, S_api_Cap.ty, (tInt .i64)]) (K : Den [(tInt .i64)] → HP) (h : H), m_law19_Desk_says a.1 a.2.1 a.2.2 K h = wpF x_law19_Desk_says Try.f63 [tPtr, S_api_Cap.ty, (tInt .i64)] [(tInt .i64)] h_law19_Desk_says a K h := fun a K h => by kernel_rfl
def s_law19_Desk_says : Spec Try.prog := mkSpec x_law19_Desk_says 63 Try.f63 [tPtr, S_api_Cap.ty, (tInt .i64)] [(tInt .i64)] false h_law19_Desk_says (fun a => m_law19_Desk_says a.1 a.2.1 a.2.2) w_law19_Desk_says callee63 rfl
/-! sesame/sesamelaw19.named -/
def m_law19_named (a0 : Option Addr) (a1 : Option Addr) (a2 : S_law19_Op) (K : (Bool) → H → Prop) : H → Prop :=
  mDeref a0 fun ad1 =>
  mLoad cPtr (ad1.add 1) fun x2 =>
  mJoin (fun (s3 : Addr × S_api_Cap × Int) =>
    mStore s3.1 [(Value.int .i64 s3.2.1.Obj), (Value.int .u64 s3.2.1.Pass.Hi), (Value.int .u64 s3.2.1.Pass.Lo)] <|
    mDeref a1 fun ad9 =>
    mLoad cPtr (ad9.add 1) fun x10 =>
    mJoin (fun (s11 : Addr × S_api_Cap × Int) =>
      mStore s11.1 [(Value.int .i64 s11.2.1.Obj), (Value.int .u64 s11.2.1.Pass.Hi), (Value.int .u64 s11.2.1.Pass.Lo)] <|
      mLoad S_api_Cap.cells s3.1 fun x17 =>
      mLoad S_api_Cap.cells s11.1 fun x18 =>
      mIf ((!((decide (x17.Obj = x18.Obj)) && (((decide (x17.Pass.Hi = x18.Pass.Hi)) && ((decide (x17.Pass.Lo = x18.Pass.Lo)) && true)) && true))) || (!decide (s3.2.2 = s11.2.2))) (
        K false
        ) (
        mLoop (fun (rec20 : (Bool × Int) → H → Prop) (s19 : Bool × Int) =>
          mIf (decide (s19.2 < (a2.L.len : Int))) (
            mIdx a2.L s19.2 3 fun ad21 =>
            mLoad (cInt .i64) (ad21.add 0) fun x22 =>
            mIf (!decide (x22 = a2.P)) (
              rec20 (s19.1, (iAdd .i64 s19.2 1))
              ) (
              mIdx a2.L s19.2 3 fun ad23 =>
              mLoad S_api_Cap.cells ad23 fun x24 =>
              m_law19_Desk_says a0 x24 a2.N fun r25 =>
              mIf (decide (r25 = 0)) (
                mPure (m_law19_num s3.2.2) fun r26 =>
                mJoin (fun (s30 : Bool) =>
                  mIf s30 (
                    mDeref a0 fun ad37 =>
                    mLoad cPtr (ad37.add 1) fun x38 =>
                    mLoad S_api_Cap.cells s3.1 fun x39 =>
                    m_validate_Validator_Given x38 x39 a2.N fun r40 =>
                    mPure (m_law19_num r40) fun r41 =>
                    K (decide (r41 = 0))
                    ) (
                    K false
                    )
                  ) (fun j31 =>
                  mIf (decide (r26 = 0)) (
                    mIdx a2.L s19.2 3 fun ad42 =>
                    mLoad S_api_Cap.cells s3.1 fun x43 =>
                    mLoad S_api_Cap.cells ad42 fun x44 =>
                    j31 ((decide (x43.Obj = x44.Obj)) && (((decide (x43.Pass.Hi = x44.Pass.Hi)) && ((decide (x43.Pass.Lo = x44.Pass.Lo)) && true)) && true))
                    ) (
                    j31 false
                    ))
                ) (
                rec20 ((s19.1 || (decide (r25 = 4))), (iAdd .i64 s19.2 1))
                )
              )
            ) (
            mLoad S_api_Cap.cells s3.1 fun x45 =>
            mIf ((decide (x45.Obj = 0)) && (((decide (x45.Pass.Hi = 0)) && ((decide (x45.Pass.Lo = 0)) && true)) && true)) (
              mPure (m_law19_num s3.2.2) fun r51 =>
              mIf ((decide (r51 = 4)) && s19.1) (
                K true
                ) (
                mPure (m_law19_num s3.2.2) fun r53 =>
                K ((decide (r53 = 3)) && (!s19.1))
                )
              ) (
              K false
              )
            )
          ) (false, 0)
        )
      ) (fun j12 =>
      mBoth (
        m_validate_Validator_Named x10 a2.P a2.N a2.L fun r13 =>
        mNew 39 #[(Value.int .i64 0), (Value.int .u64 0), (Value.int .u64 0)] fun ad14 =>
        j12 (ad14, r13.1, r13.2)
        ) (
        mNew 39 #[(Value.int .i64 0), (Value.int .u64 0), (Value.int .u64 0)] fun ad15 =>
        m_validate_Validator_Named x10 a2.P a2.N a2.L fun r16 =>
        j12 (ad15, r16.1, r16.2)
        ))
    ) (fun j4 =>
    mBoth (
      m_validate_Validator_Named x2 a2.P a2.N a2.L fun r5 =>
      mNew 39 #[(Value.int .i64 0), (Value.int .u64 0), (Value.int .u64 0)] fun ad6 =>
      j4 (ad6, r5.1, r5.2)
      ) (
      mNew 39 #[(Value.int .i64 0), (Value.int .u64 0), (Value.int .u64 0)] fun ad7 =>
      m_validate_Validator_Named x2 a2.P a2.N a2.L fun r8 =>
      j4 (ad7, r8.1, r8.2)
      ))
def x_law19_named : Cx Try.prog := ⟨tys, [s_validate_Validator_Given, s_law19_num, s_law19_Desk_says, s_validate_Validator_Named], [5], [], mixed⟩
def h_law19_named : Hint := (.seq .d (.seq (.reg (.run [0, 4, 8, 16, 24, 32, 21, 29, 37, 14] (.join [.slot 7 tAdr, .slot 26 S_api_Cap.ty, .slot 27 (tInt .i64)] 234897536 [] (.both 10 14 (.run [44, 48, 52, 58] .nil) (.run [43, 44, 48, 52] .nil)) (.run [63, 64] .nil)))) (.seq (.reg (.run [0, 4, 8, 16, 24, 32, 21, 29, 37, 14] (.join [.slot 9 tAdr, .slot 40 S_api_Cap.ty, .slot 41 (tInt .i64)] 3848559133184 [] (.both 10 14 (.run [44, 48, 52, 58] .nil) (.run [43, 44, 48, 52] .nil)) (.run [63, 64] .nil)))) (.seq (.seq (.reg (.run [3, 7, 11, 15] (.sel 45 49 1055531162664960 (.run [19, 23, 27, 31] .nil) (.run [19, 23, 27, 31] .nil) .nil))) .d) (.seq .d (.seq (.seq .d (.blk (.loop [.slot 11 tBool, .slot 12 (tInt .i64)] 81129638414606680569889098315840 [] (.seq .d (.seq (.blk (.seq (.seq (.reg (.run [0, 8, 24, 5, 12, 16, 29, 22, 32] .nil)) .d) (.seq (.reg (.run [0, 4, 12, 24, 9, 16, 29, 22, 35, 36] .nil)) (.seq (.seq .d (.cond (.seq (.reg (.run [0, 4, 8, 12] (.join [.slot 88 tBool] 616552168003460879100149760 [] (.split 80 (.run [20, 28, 25, 32, 18, 38, 40, 44] .nil) (.run [16, 20, 24, 28, 32, 36, 40, 44] .nil)) (.run [48] (.split 89 (.run [52, 56, 60, 72, 77, 66, 70, 83, 84, 88, 92, 96] .nil) (.run [52, 56, 60, 64, 68, 72, 76, 80, 84, 88, 92, 96] .nil)))))) .d) .d)) (.reg (.run [3, 7] (.sel 102 105 70988433612780846483815379501056 (.run [11, 15, 19] .nil) (.run [11, 15, 19] .nil) (.run [23] .nil)))))))) .d))))) (.seq (.reg (.run [3, 7, 11, 15] (.split 109 (.run [19, 23, 27, 31] (.sel 113 115 62307562302417931542365955950641152 (.run [35, 39] .nil) (.run [35, 39] .nil) (.run [43] (.split 116 (.run [47, 51, 55, 59, 63, 67, 71, 75, 79, 83] .nil) (.run [47, 51, 55, 59] (.sel 120 123 18609191940988822220653298843924824064 (.run [63, 67, 71] .nil) (.run [63, 67, 71] .nil) (.run [75, 79, 83] .nil))))))) (.run [19, 23, 27, 31, 35, 39, 43, 47, 51, 55, 59, 63, 67, 71, 75, 79, 83] .nil)))) .d)))))))
theorem w_law19_named : ∀ (a : Den [tPtr, tPtr, S_law19_Op.ty]) (K : Den [tBool] → HP) (h : H), m_law19_named a.1 a.2.1 a.2.2 K h = wpF x_law19_named Try.f64 [tPtr, tPtr, S_law19_Op.ty] [tBool] h_law19_named a K h := fun a K h => by kernel_rfl
def s_law19_named : Spec Try.prog := mkSpec x_law19_named 64 Try.f64 [tPtr, tPtr, S_law19_Op.ty] [tBool] false h_law19_named (fun a => m_law19_named a.1 a.2.1 a.2.2) w_law19_named callee64 rfl
/-! sesame/sesamelaw19.ValidateSame -/
def m_law19_ValidateSame (a0 : Int) (a1 : S_law19_Numbers) (a2 : S_law19_Numbers) (a3 : Sl) (K : (Bool) → H → Prop) : H → Prop :=
  m_law19_desk a0 a1 fun r1 =>
  m_law19_desk a0 a2 fun r2 =>
  mJoin (fun (s4 : Bool) =>
    mIf s4 (
      K false
      ) (
      mLoop (fun (rec7 : Int → H → Prop) (s6 : Int) =>
        mIf (decide (s6 < (a3.len : Int))) (
          mIdx a3 s6 7 fun ad8 =>
          mLoad S_law19_Op.cells ad8 fun x9 =>
          mIf (decide (x9.Kind = 1)) (
            mDeref r1 fun ad10 =>
            mLoad cPtr (ad10.add 0) fun x11 =>
            m_catalogue_Catalogue_Root x11 x9.C x9.N fun _ =>
            mDeref r2 fun ad13 =>
            mLoad cPtr (ad13.add 0) fun x14 =>
            m_catalogue_Catalogue_Root x14 x9.C x9.N fun _ =>
            rec7 (iAdd .i64 s6 1)
            ) (
            mIf (decide (x9.Kind = 2)) (
              mDeref r1 fun ad16 =>
              mLoad cPtr (ad16.add 0) fun x17 =>
              m_catalogue_Catalogue_Child x17 x9.P x9.C x9.N fun _ =>
              mDeref r2 fun ad19 =>
              mLoad cPtr (ad19.add 0) fun x20 =>
              m_catalogue_Catalogue_Child x20 x9.P x9.C x9.N fun _ =>
              rec7 (iAdd .i64 s6 1)
              ) (
              mIf (decide (x9.Kind = 3)) (
                mDeref r1 fun ad22 =>
                mLoad cPtr (ad22.add 0) fun x23 =>
                m_catalogue_Catalogue_Drop x23 x9.P fun _ =>
                mDeref r1 fun ad25 =>
                mLoad cPtr (ad25.add 1) fun x26 =>
                m_validate_Validator_Gone x26 fun _ =>
                mDeref r2 fun ad28 =>
                mLoad cPtr (ad28.add 0) fun x29 =>
                m_catalogue_Catalogue_Drop x29 x9.P fun _ =>
                mDeref r2 fun ad31 =>
                mLoad cPtr (ad31.add 1) fun x32 =>
                m_validate_Validator_Gone x32 fun _ =>
                rec7 (iAdd .i64 s6 1)
                ) (
                mIf (decide (x9.Kind = 4)) (
                  mDeref r1 fun ad34 =>
                  mLoad cPtr (ad34.add 1) fun x35 =>
                  m_validate_Validator_Given x35 x9.C x9.N fun r36 =>
                  mDeref r2 fun ad37 =>
                  mLoad cPtr (ad37.add 1) fun x38 =>
                  m_validate_Validator_Given x38 x9.C x9.N fun r39 =>
                  mJoin (fun (s42 : Bool) =>
                    mIf s42 (
                      K false
                      ) (
                      rec7 (iAdd .i64 s6 1)
                      )
                    ) (fun j43 =>
                    mIf (!decide (r36 = r39)) (
                      j43 true
                      ) (
                      mPure (m_law19_num r36) fun r44 =>
                      m_law19_Desk_says r1 x9.C x9.N fun r45 =>
                      j43 (!decide (r44 = r45))
                      ))
                  ) (
                  mIf (decide (x9.Kind = 5)) (
                    m_law19_named r1 r2 x9 fun r46 =>
                    mIf (!r46) (
                      K false
                      ) (
                      rec7 (iAdd .i64 s6 1)
                      )
                    ) (
                    rec7 (iAdd .i64 s6 1)
                    )
                  )
                )
              )
            )
          ) (
          K true
          )
        ) 0
      )
    ) (fun j5 =>
    mIf ((r1.isNone) || (r2.isNone)) (
      j5 true
      ) (
      m_law19_alive fun r47 =>
      j5 (!r47)
      ))
def x_law19_ValidateSame : Cx Try.prog := ⟨tys, [s_catalogue_Catalogue_Root, s_catalogue_Catalogue_Child, s_catalogue_Catalogue_Drop, s_law19_desk, s_law19_alive, s_validate_Validator_Gone, s_validate_Validator_Given, s_law19_num, s_law19_Desk_says, s_law19_named], [5, 6, 12], [], mixed⟩
def h_law19_ValidateSame : Hint := (.seq .d (.seq .d (.seq .d (.seq (.seq (.reg (.run [3, 7, 11] (.sel 22 25 58720256 (.run [15, 19, 23] .nil) (.run [15, 19, 23] .nil) (.run [27] (.join [.slot 29 tBool] 939524096 [] (.split 26 (.run [31, 35, 39] .nil) (.run [31, 35, 39] .nil)) .nil))))) .d) (.seq (.seq .d (.blk (.loop [.slot 11 (tInt .i64)] 5708990770823839524233143877797980544457259264 [] (.seq .d (.seq (.blk (.seq .d (.seq .d (.blk (.seq .d (.cond (.seq (.reg (.run [0, 4, 8, 16, 24, 21, 29, 14, 35] .nil)) (.reg (.run [0, 4, 8, 16, 24, 21, 29, 14, 35] .nil))) (.seq .d (.cond (.seq (.reg (.run [0, 4, 8, 16, 24, 32, 21, 29, 37, 14, 43] .nil)) (.reg (.run [0, 4, 8, 16, 24, 32, 21, 29, 37, 14, 43] .nil))) (.seq .d (.cond (.seq (.reg (.run [0, 4, 8, 16, 21, 14, 27] .nil)) (.seq .d (.seq (.reg (.run [0, 4, 8, 16, 21, 14, 27] .nil)) .d))) (.seq .d (.cond (.seq (.reg (.run [0, 4, 8, 16, 24, 21, 29, 14, 35, 36] .nil)) (.seq (.reg (.run [0, 4, 8, 12, 20, 28, 25, 33, 18, 39, 40, 44] (.join [.slot 144 tBool] 44557934254095366159748124595545456680894464 [] (.split 134 (.run [48, 52, 56, 60, 64, 68, 72, 76, 80, 84] .nil) (.run [48, 52, 56, 60, 68, 65, 73, 79, 80, 84] .nil)) .nil))) .d)) .d)))))))))))) .d))))) .d)))))
theorem w_law19_ValidateSame : ∀ (a : Den [(tInt .i64), S_law19_Numbers.ty, S_law19_Numbers.ty, tSl]) (K : Den [tBool] → HP) (h : H), m_law19_ValidateSame a.1 a.2.1 a.2.2.1 a.2.2.2 K h = wpF x_law19_ValidateSame Try.f8 [(tInt .i64), S_law19_Numbers.ty, S_law19_Numbers.ty, tSl] [tBool] h_law19_ValidateSame a K h := fun a K h => by kernel_rfl
def s_law19_ValidateSame : Spec Try.prog := mkSpec x_law19_ValidateSame 8 Try.f8 [(tInt .i64), S_law19_Numbers.ty, S_law19_Numbers.ty, tSl] [tBool] false h_law19_ValidateSame (fun a => m_law19_ValidateSame a.1 a.2.1 a.2.2.1 a.2.2.2) w_law19_ValidateSame callee8 rfl
/-! sesame/sesamelaw19.ValidateGone -/
def m_law19_ValidateGone (a0 : S_law19_Numbers) (a1 : Sl) (a2 : Int) (a3 : Int) (a4 : Int) (K : (Bool) → H → Prop) : H → Prop :=
  m_law19_desk 19 a0 fun r1 =>
  mJoin (fun (s3 : Bool) =>
    mIf s3 (
      K false
      ) (
      mDeref r1 fun ad5 =>
      mLoad cPtr (ad5.add 0) fun x6 =>
      m_catalogue_Catalogue_Root x6 (⟨1, ⟨1, 0⟩⟩ : S_api_Cap) 31 fun _ =>
      mLoop (fun (rec9 : Int → H → Prop) (s8 : Int) =>
        mIf ((decide (s8 < (a1.len : Int))) && (decide (s8 < 12))) (
          mIdx a1 s8 1 fun ad10 =>
          mLoad (cInt .u64) ad10 fun x11 =>
          mDeref r1 fun ad12 =>
          mLoad cPtr (ad12.add 0) fun x13 =>
          m_catalogue_Catalogue_Find x13 (⟨1, ⟨0, x11⟩⟩ : S_api_Cap) fun r14 =>
          mIf r14.2 (
            rec9 (iAdd .i64 s8 1)
            ) (
            mDeref r1 fun ad15 =>
            mLoad cPtr (ad15.add 0) fun x16 =>
            m_catalogue_Catalogue_Child x16 0 (⟨1, ⟨0, x11⟩⟩ : S_api_Cap) (iAdd .i64 1 (iRem .i64 (iAdd .i64 (iRem .i64 a2 31) 31) 31)) fun r17 =>
            mDeref r1 fun ad18 =>
            mLoad cPtr (ad18.add 1) fun x19 =>
            m_validate_Validator_Given x19 (⟨1, ⟨0, x11⟩⟩ : S_api_Cap) (iAdd .i64 1 (iRem .i64 (iAdd .i64 (iRem .i64 a4 31) 31) 31)) fun r20 =>
            mDeref r1 fun ad21 =>
            mLoad cPtr (ad21.add 1) fun x22 =>
            m_validate_Validator_Given x22 (⟨1, ⟨0, x11⟩⟩ : S_api_Cap) (iAdd .i64 1 (iRem .i64 (iAdd .i64 (iRem .i64 a4 31) 31) 31)) fun r23 =>
            mPure (m_law19_num r17.2) fun r24 =>
            mJoin (fun (s26 : Bool) =>
              mIf (s26 || (!decide (r20 = r23))) (
                K false
                ) (
                mDeref r1 fun ad28 =>
                mLoad cPtr (ad28.add 0) fun x29 =>
                m_catalogue_Catalogue_Drop x29 r17.1 fun _ =>
                mDeref r1 fun ad31 =>
                mLoad cPtr (ad31.add 1) fun x32 =>
                m_validate_Validator_Gone x32 fun _ =>
                mDeref r1 fun ad34 =>
                mLoad cPtr (ad34.add 1) fun x35 =>
                m_validate_Validator_Given x35 (⟨1, ⟨0, x11⟩⟩ : S_api_Cap) (iAdd .i64 1 (iRem .i64 (iAdd .i64 (iRem .i64 a4 31) 31) 31)) fun r36 =>
                mPure (m_law19_num r36) fun r37 =>
                mJoin (fun (s42 : Bool) =>
                  mIf s42 (
                    K false
                    ) (
                    mDeref r1 fun ad44 =>
                    mLoad cPtr (ad44.add 0) fun x45 =>
                    m_catalogue_Catalogue_Child x45 0 (⟨1, ⟨0, x11⟩⟩ : S_api_Cap) (iAdd .i64 1 (iRem .i64 (iAdd .i64 (iRem .i64 a3 31) 31) 31)) fun r46 =>
                    mDeref r1 fun ad47 =>
                    mLoad cPtr (ad47.add 1) fun x48 =>
                    mNew 39 #[(Value.int .i64 1), (Value.int .u64 0), (Value.int .u64 x11), (Value.int .i64 1), (Value.int .u64 1), (Value.int .u64 0)] fun ad49 =>
                    mJoin (fun (s50 : Addr × S_api_Cap × Int) =>
                      mStore s50.1 [(Value.int .i64 s50.2.1.Obj), (Value.int .u64 s50.2.1.Pass.Hi), (Value.int .u64 s50.2.1.Pass.Lo)] <|
                      mPure (m_law19_num r46.2) fun r56 =>
                      mJoin (fun (s61 : Bool) =>
                        mJoin (fun (s64 : Bool) =>
                          mJoin (fun (s67 : Bool) =>
                            mIf s67 (
                              K false
                              ) (
                              rec9 (iAdd .i64 s8 1)
                              )
                            ) (fun j68 =>
                            mIf s64 (
                              j68 true
                              ) (
                              mLoad S_api_Cap.cells s50.1 fun x69 =>
                              j68 (!(((decide (x69.Obj = 1)) && (((decide (x69.Pass.Hi = 0)) && ((decide (x69.Pass.Lo = x11)) && true)) && true)) == (decide ((iOr .i64 (iAdd .i64 1 (iRem .i64 (iAdd .i64 (iRem .i64 a4 31) 31) 31)) (iAdd .i64 1 (iRem .i64 (iAdd .i64 (iRem .i64 a3 31) 31) 31))) = (iAdd .i64 1 (iRem .i64 (iAdd .i64 (iRem .i64 a3 31) 31) 31))))))
                              ))
                          ) (fun j65 =>
                          mIf s61 (
                            j65 true
                            ) (
                            mPure (m_law19_num s50.2.2) fun r70 =>
                            j65 (!decide (r70 = 0))
                            ))
                        ) (fun j62 =>
                        mIf (!decide (r56 = 0)) (
                          j62 true
                          ) (
                          mDeref r1 fun ad71 =>
                          mLoad cPtr (ad71.add 1) fun x72 =>
                          m_validate_Validator_Given x72 (⟨1, ⟨0, x11⟩⟩ : S_api_Cap) (iAdd .i64 1 (iRem .i64 (iAdd .i64 (iRem .i64 a4 31) 31) 31)) fun r73 =>
                          mPure (m_law19_num r73) fun r74 =>
                          j62 (!((decide (r74 = 0)) == (decide ((iOr .i64 (iAdd .i64 1 (iRem .i64 (iAdd .i64 (iRem .i64 a4 31) 31) 31)) (iAdd .i64 1 (iRem .i64 (iAdd .i64 (iRem .i64 a3 31) 31) 31))) = (iAdd .i64 1 (iRem .i64 (iAdd .i64 (iRem .i64 a3 31) 31) 31))))))
                          ))
                      ) (fun j51 =>
                      mBoth (
                        m_validate_Validator_Named x48 1 (iAdd .i64 1 (iRem .i64 (iAdd .i64 (iRem .i64 a4 31) 31) 31)) (⟨some ad49, 2, 2⟩ : Sl) fun r52 =>
                        mNew 39 #[(Value.int .i64 0), (Value.int .u64 0), (Value.int .u64 0)] fun ad53 =>
                        j51 (ad53, r52.1, r52.2)
                        ) (
                        mNew 39 #[(Value.int .i64 0), (Value.int .u64 0), (Value.int .u64 0)] fun ad54 =>
                        m_validate_Validator_Named x48 1 (iAdd .i64 1 (iRem .i64 (iAdd .i64 (iRem .i64 a4 31) 31) 31)) (⟨some ad49, 2, 2⟩ : Sl) fun r55 =>
                        j51 (ad54, r55.1, r55.2)
                        ))
                    )
                  ) (fun j43 =>
                  mIf (!decide (r37 = 3)) (
                    j43 true
                    ) (
                    mDeref r1 fun ad75 =>
                    mLoad cPtr (ad75.add 1) fun x76 =>
                    m_validate_Validator_Given x76 (⟨1, ⟨1, 0⟩⟩ : S_api_Cap) (iAdd .i64 1 (iRem .i64 (iAdd .i64 (iRem .i64 a4 31) 31) 31)) fun r77 =>
                    mPure (m_law19_num r77) fun r78 =>
                    j43 (!decide (r78 = 0))
                    ))
                )
              ) (fun j27 =>
              mIf (!decide (r24 = 0)) (
                j27 true
                ) (
                mPure (m_law19_num r20) fun r79 =>
                j27 (!((decide (r79 = 0)) == (decide ((iOr .i64 (iAdd .i64 1 (iRem .i64 (iAdd .i64 (iRem .i64 a4 31) 31) 31)) (iAdd .i64 1 (iRem .i64 (iAdd .i64 (iRem .i64 a2 31) 31) 31))) = (iAdd .i64 1 (iRem .i64 (iAdd .i64 (iRem .i64 a2 31) 31) 31))))))
                ))
            )
          ) (
          K true
          )
        ) 0
      )
    ) (fun j4 =>
    mIf (r1.isNone) (
      j4 true
      ) (
      m_law19_alive fun r80 =>
      j4 (!r80)
      ))
def x_law19_ValidateGone : Cx Try.prog := ⟨tys, [s_catalogue_Catalogue_Root, s_catalogue_Catalogue_Child, s_catalogue_Catalogue_Find, s_catalogue_Catalogue_Drop, s_law19_desk, s_law19_alive, s_validate_Validator_Gone, s_validate_Validator_Given, s_law19_num, s_validate_Validator_Named], [5, 12, 17], [], mixed⟩
def h_law19_ValidateGone : Hint := (.seq .d (.seq .d (.seq (.seq (.reg (.run [3, 7, 11] (.join [.slot 33 tBool] 15032385536 [] (.split 30 (.run [15, 19, 23] .nil) (.run [15, 19, 23] .nil)) .nil))) .d) (.seq .d (.seq (.reg (.run [0, 4, 8, 17, 14, 23] .nil)) (.seq .d (.seq .d (.seq .d (.seq (.seq .d (.blk (.loop [.slot 16 (tInt .i64)] 52656145834278593348959013841835216159447547700130440439146677248 [] (.seq (.seq (.reg (.run [3, 7, 11, 15, 19] (.sel 61 64 32281802128991715328 (.run [23, 27, 31] .nil) (.run [23, 27, 31] .nil) .nil))) .d) (.seq (.blk (.seq .d (.seq (.reg (.run [0, 4, 8, 17, 14, 23, 24, 28, 32, 36, 40] .nil)) (.seq .d (.seq (.reg (.run [0, 4, 8, 20, 17, 14, 27, 28, 32, 36, 40, 44] .nil)) (.seq (.reg (.run [0, 4, 8, 20, 17, 14, 27, 28] .nil)) (.seq (.reg (.run [0, 4, 8, 20, 17, 14, 27, 28] .nil)) (.seq (.seq (.reg (.run [3, 7, 11, 15] (.join [.slot 120 tBool] 2655859843140564331993348872396079104 [] (.split 110 (.run [19, 23, 27, 31, 35, 39, 43, 47, 51, 55] .nil) (.run [19, 23, 27, 31, 35, 39, 43, 47, 51, 55] .nil)) (.run [59] (.sel 121 125 79753679747094952374228423616820674560 (.run [63, 67, 71, 75] .nil) (.run [63, 67, 71, 75] .nil) .nil))))) .d) (.seq .d (.seq .d (.seq (.seq (.reg (.run [0, 4, 8, 20, 17, 14, 27, 28, 32, 36] (.join [.slot 156 tBool] 182509298704774619790328318343354190564943724544 [] (.split 146 (.run [40, 44, 48, 52, 56, 60, 64, 68, 72, 76] .nil) (.run [40, 44, 48, 60, 57, 54, 67, 68, 72, 76] .nil)) .nil))) .d) (.seq (.reg (.run [0, 4, 8, 20, 17, 14, 27, 28, 32, 36, 40] .nil)) (.seq (.reg (.run [0, 4, 8, 16, 21, 25, 14, 30] (.join [.slot 24 tAdr, .slot 177 S_api_Cap.ty, .slot 178 (tInt .i64)] 670653871338404731105306896036847952059714325337604096 [] (.both 8 12 (.run [36, 40, 44, 50] .nil) (.run [35, 36, 40, 44] .nil)) (.run [55, 56] .nil)))) (.seq (.reg (.run [0, 4, 8, 12] (.join [.slot 198 tBool] 803456762165168210660114179394364098787632546978418948833280 [] (.split 182 (.run [16, 20, 24, 28, 32, 36, 40, 44, 48, 52, 56, 60, 64, 68, 72, 76] .nil) (.run [16, 20, 24, 36, 52, 56, 60, 64, 68, 33, 30, 43, 44, 48, 72, 76] .nil)) (.run [80] (.join [.slot 203 tBool] 24104070663884854133129431385117439037833044906741892529520640 [] (.split 199 (.run [84, 88, 92, 96] .nil) (.run [84, 88, 92, 96] .nil)) (.run [100] (.join [.slot 214 tBool] 52604723816862305660141671054880298956166837204473506256425844736 [] (.split 204 (.run [104, 108, 112, 116, 120, 124, 128, 132, 136, 140] .nil) (.run [116, 120, 124, 128, 132, 109, 106, 112, 136, 140] .nil)) .nil))))))) .d)))))))))))))) .d))))) .d)))))))))
theorem w_law19_ValidateGone : ∀ (a : Den [S_law19_Numbers.ty, tSl, (tInt .i64), (tInt .i64), (tInt .i64)]) (K : Den [tBool] → HP) (h : H), m_law19_ValidateGone a.1 a.2.1 a.2.2.1 a.2.2.2.1 a.2.2.2.2 K h = wpF x_law19_ValidateGone Try.f9 [S_law19_Numbers.ty, tSl, (tInt .i64), (tInt .i64), (tInt .i64)] [tBool] h_law19_ValidateGone a K h := fun a K h => by kernel_rfl
def s_law19_ValidateGone : Spec Try.prog := mkSpec x_law19_ValidateGone 9 Try.f9 [S_law19_Numbers.ty, tSl, (tInt .i64), (tInt .i64), (tInt .i64)] [tBool] false h_law19_ValidateGone (fun a => m_law19_ValidateGone a.1 a.2.1 a.2.2.1 a.2.2.2.1 a.2.2.2.2) w_law19_ValidateGone callee9 rfl
/-! sesame/sesamelaw19.caps -/
def m_law19_caps (a0 : Sl) (a1 : Sl) (K : (Bool) → H → Prop) : H → Prop :=
  mIf (!decide ((a0.len : Int) = (a1.len : Int))) (
    K false
    ) (
    mLoop (fun (rec2 : Int → H → Prop) (s1 : Int) =>
      mIf (decide (s1 < (a0.len : Int))) (
        mIdx a0 s1 3 fun ad3 =>
        mIdx a1 s1 3 fun ad4 =>
        mLoad S_api_Cap.cells ad3 fun x5 =>
        mLoad S_api_Cap.cells ad4 fun x6 =>
        mIf (!((decide (x5.Obj = x6.Obj)) && (((decide (x5.Pass.Hi = x6.Pass.Hi)) && ((decide (x5.Pass.Lo = x6.Pass.Lo)) && true)) && true))) (
          K false
          ) (
          rec2 (iAdd .i64 s1 1)
          )
        ) (
        K true
        )
      ) 0
    )
def x_law19_caps : Cx Try.prog := ⟨tys, [], [], [], mixed⟩
def h_law19_caps : Hint := (.seq .d (.seq .d (.seq (.seq .d (.blk (.loop [.slot 5 (tInt .i64)] 67106864 [] (.seq .d (.seq (.blk (.seq (.reg (.run [0, 4, 8, 16, 20, 24, 14, 30, 32] .nil)) .d)) .d))))) .d)))
theorem w_law19_caps : ∀ (a : Den [tSl, tSl]) (K : Den [tBool] → HP) (h : H), m_law19_caps a.1 a.2 K h = wpF x_law19_caps Try.f145 [tSl, tSl] [tBool] h_law19_caps a K h := fun a K h => by kernel_rfl
def s_law19_caps : Spec Try.prog := mkSpec x_law19_caps 145 Try.f145 [tSl, tSl] [tBool] false h_law19_caps (fun a => m_law19_caps a.1 a.2) w_law19_caps callee145 rfl
/-! sesame/sesamelaw19.listed -/
def m_law19_listed (a0 : Sl) (K : (Sl) → H → Prop) : H → Prop :=
  mAppend 39 3 24 #[(Value.int .i64 0), (Value.int .u64 0), (Value.int .u64 0)] Sl.nil a0 fun s1 =>
  mLoop (fun (rec3 : (Sl × Int) → H → Prop) (s2 : Sl × Int) =>
    mIf (decide (s2.2 < 40)) (
      mApp 39 3 24 #[(Value.int .i64 0), (Value.int .u64 0), (Value.int .u64 0)] 1 [(Value.int .i64 (-77)), (Value.int .u64 0), (Value.int .u64 (IntKind.wrap .u64 s2.2))] s2.1 fun s4 =>
      rec3 (s4, (iAdd .i64 s2.2 1))
      ) (
      K s2.1
      )
    ) (s1, 0)
def x_law19_listed : Cx Try.prog := ⟨tys, [], [17], [], mixed⟩
def h_law19_listed : Hint := (.seq .d (.seq .d (.seq .d (.seq (.seq .d (.blk (.loop [.slot 3 tSl, .slot 4 (tInt .i64)] 524056 [] .d))) .d))))
theorem w_law19_listed : ∀ (a : Den [tSl]) (K : Den [tSl] → HP) (h : H), m_law19_listed a K h = wpF x_law19_listed Try.f146 [tSl] [tSl] h_law19_listed a K h := fun a K h => by kernel_rfl
def s_law19_listed : Spec Try.prog := mkSpec x_law19_listed 146 Try.f146 [tSl] [tSl] false h_law19_listed (fun a => m_law19_listed a) w_law19_listed callee146 rfl
end Go.Proofs.Ytiajjcboddaenaa.K
