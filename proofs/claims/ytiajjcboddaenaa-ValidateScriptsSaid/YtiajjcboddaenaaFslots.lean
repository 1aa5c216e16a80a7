/- Functions of the program, printed by a program of mine: slots_New_int, slots_Table_int_find, slots_Table_int_put, slots_Table_int_anew, slots_Table_int_Put, slots_Table_int_Get, slots_Table_int_Len, slots_Table_int_Drop -/
import Derived.Test.YtiajjcboddaenaaT
import Derived.Test.YtiajjcboddaenaaFmix
namespace Go.Proofs.Ytiajjcboddaenaa.K
open Go Go.Proofs
/-! sesame/slots.New[int] -/
def m_slots_New_int (a0 : Int) (a1 : Int) (K : (Option Addr × Int) → H → Prop) : H → Prop :=
  mIf ((((decide (a0 < 1)) || (decide (256 < a0))) || (decide (a1 < 0))) || (decide (64 < a1))) (
    K (none, 16)
    ) (
    mLoop (fun (rec2 : Int → H → Prop) (s1 : Int) =>
      mIf (decide (s1 < (iMul .i64 2 a0))) (
        rec2 (iMul .i64 s1 2)
        ) (
        mMake 302 40 #[(Value.int .u8 0), (Value.int .i64 0), (Value.int .u64 0), (Value.int .u64 0), (Value.int .i64 0)] s1 s1 fun s3 =>
        mNew 294 #[(Value.int .i64 a0), (Value.int .i64 a1), (Sl.val s3), (Value.int .i64 0), (Value.int .i64 0)] fun ad4 =>
        K ((some ad4), 0)
        )
      ) 1
    )
def x_slots_New_int : Cx Try.prog := ⟨tys, [], [], [], mixed⟩
def h_slots_New_int : Hint := (.seq .d (.seq (.seq (.reg (.run [3, 7, 11] (.sel 9 12 7168 (.run [15, 19, 23] .nil) (.run [15, 19, 23] .nil) (.run [27] (.sel 13 16 114688 (.run [31, 35, 39] .nil) (.run [31, 35, 39] .nil) (.run [43] (.sel 17 20 1835008 (.run [47, 51, 55] .nil) (.run [47, 51, 55] .nil) .nil))))))) .d) (.seq .d (.seq (.blk (.loop [.slot 6 (tInt .i64)] 132120640 [] .d)) .d))))
theorem w_slots_New_int : ∀ (a : Den [(tInt .i64), (tInt .i64)]) (K : Den [tPtr, (tInt .i64)] → HP) (h : H), m_slots_New_int a.1 a.2 K h = wpF x_slots_New_int Try.f113 [(tInt .i64), (tInt .i64)] [tPtr, (tInt .i64)] h_slots_New_int a K h := fun a K h => by kernel_rfl
def s_slots_New_int : Spec Try.prog := mkSpec x_slots_New_int 113 Try.f113 [(tInt .i64), (tInt .i64)] [tPtr, (tInt .i64)] false h_slots_New_int (fun a => m_slots_New_int a.1 a.2) w_slots_New_int callee113 rfl
/-! (*sesame/slots.Table[int]).find -/
def m_slots_Table_int_find (a0 : Option Addr) (a1 : S_api_Cap) (K : (Int × Int) → H → Prop) : H → Prop :=
  mDeref a0 fun ad1 =>
  mLoad cSl (ad1.add 2) fun x2 =>
  mDeref a0 fun ad3 =>
  mLoad (cInt .i64) (ad3.add 1) fun x4 =>
  mPure (m_mix_Hash a1.Obj a1.Pass x4) fun r5 =>
  mNZ (IntKind.wrap .u64 (x2.len : Int)) <|
  mLoop (fun (rec7 : (Int × Int) → H → Prop) (s6 : Int × Int) =>
    mIf (decide (s6.2 < (x2.len : Int))) (
      mNZ (x2.len : Int) <|
      mDeref a0 fun ad8 =>
      mLoad cSl (ad8.add 2) fun x9 =>
      mIdx x9 (iRem .i64 (iAdd .i64 (IntKind.wrap .i64 (iRem .u64 r5 (IntKind.wrap .u64 (x2.len : Int)))) s6.2) (x2.len : Int)) 5 fun ad10 =>
      mLoad (cInt .u8) (ad10.add 0) fun x11 =>
      mIf (decide (x11 = 0)) (
        mIf (decide (s6.1 < 0)) (
          K ((-1), (iRem .i64 (iAdd .i64 (IntKind.wrap .i64 (iRem .u64 r5 (IntKind.wrap .u64 (x2.len : Int)))) s6.2) (x2.len : Int)))
          ) (
          K ((-1), s6.1)
          )
        ) (
        mLoad (cInt .u8) (ad10.add 0) fun x12 =>
        mIf (decide (x12 = 2)) (
          mIf (decide (s6.1 < 0)) (
            rec7 ((iRem .i64 (iAdd .i64 (IntKind.wrap .i64 (iRem .u64 r5 (IntKind.wrap .u64 (x2.len : Int)))) s6.2) (x2.len : Int)), (iAdd .i64 s6.2 1))
            ) (
            rec7 (s6.1, (iAdd .i64 s6.2 1))
            )
          ) (
          mLoad S_api_Cap.cells (ad10.add 1) fun x13 =>
          mIf ((decide (x13.Obj = a1.Obj)) && (((decide (x13.Pass.Hi = a1.Pass.Hi)) && ((decide (x13.Pass.Lo = a1.Pass.Lo)) && true)) && true)) (
            K ((iRem .i64 (iAdd .i64 (IntKind.wrap .i64 (iRem .u64 r5 (IntKind.wrap .u64 (x2.len : Int)))) s6.2) (x2.len : Int)), s6.1)
            ) (
            rec7 (s6.1, (iAdd .i64 s6.2 1))
            )
          )
        )
      ) (
      K ((-1), s6.1)
      )
    ) ((-1), 0)
def x_slots_Table_int_find : Cx Try.prog := ⟨tys, [s_mix_Hash], [3], [], mixed⟩
def h_slots_Table_int_find : Hint := (.seq .d (.seq .d (.seq (.reg (.run [0, 8, 16, 20, 24, 36, 40, 5, 13, 30, 32, 44, 48, 52, 56] .nil)) (.seq (.seq .d (.blk (.loop [.slot 8 (tInt .i64), .slot 31 (tInt .i64)] 18889465931476433375024 [] (.seq .d (.seq .d (.seq (.blk (.seq .d (.seq .d (.seq .d (.blk (.seq .d (.cond .d (.seq .d (.cond .d (.seq (.reg (.run [0, 4, 8, 17, 14, 20, 24] .nil)) .d)))))))))) .d)))))) .d))))
theorem w_slots_Table_int_find : ∀ (a : Den [tPtr, S_api_Cap.ty]) (K : Den [(tInt .i64), (tInt .i64)] → HP) (h : H), m_slots_Table_int_find a.1 a.2 K h = wpF x_slots_Table_int_find Try.f200 [tPtr, S_api_Cap.ty] [(tInt .i64), (tInt .i64)] h_slots_Table_int_find a K h := fun a K h => by kernel_rfl
def s_slots_Table_int_find : Spec Try.prog := mkSpec x_slots_Table_int_find 200 Try.f200 [tPtr, S_api_Cap.ty] [(tInt .i64), (tInt .i64)] false h_slots_Table_int_find (fun a => m_slots_Table_int_find a.1 a.2) w_slots_Table_int_find callee200 rfl
/-! (*sesame/slots.Table[int]).put -/
def m_slots_Table_int_put (a0 : Option Addr) (a1 : S_api_Cap) (a2 : Int) (K : (Unit) → H → Prop) : H → Prop :=
  m_slots_Table_int_find a0 a1 fun r1 =>
  mJoin (fun (_s2 : Unit) =>
    mDeref a0 fun ad4 =>
    mLoad cSl (ad4.add 2) fun x5 =>
    mIdx x5 r1.2 5 fun ad6 =>
    mStore ad6 [(Value.int .u8 1), (Value.int .i64 a1.Obj), (Value.int .u64 a1.Pass.Hi), (Value.int .u64 a1.Pass.Lo), (Value.int .i64 a2)] <|
    mDeref a0 fun ad7 =>
    mLoad (cInt .i64) (ad7.add 3) fun x8 =>
    mDeref a0 fun ad9 =>
    mStore (ad9.add 3) [(Value.int .i64 (iAdd .i64 x8 1))] <|
    K ()
    ) (fun j3 =>
    mDeref a0 fun ad10 =>
    mLoad cSl (ad10.add 2) fun x11 =>
    mIdx x11 r1.2 5 fun ad12 =>
    mLoad (cInt .u8) (ad12.add 0) fun x13 =>
    mIf (decide (x13 = 0)) (
      mDeref a0 fun ad14 =>
      mLoad (cInt .i64) (ad14.add 4) fun x15 =>
      mDeref a0 fun ad16 =>
      mStore (ad16.add 4) [(Value.int .i64 (iAdd .i64 x15 1))] <|
      j3 ()
      ) (
      j3 ()
      )
    )
def x_slots_Table_int_put : Cx Try.prog := ⟨tys, [s_slots_Table_int_find], [4], [], mixed⟩
def h_slots_Table_int_put : Hint := (.seq .d (.seq .d (.join [] 1073725440 [] .d (.seq (.reg (.run [0, 4, 8, 16, 24, 21, 28, 14, 32, 39] .nil)) .d))))
theorem w_slots_Table_int_put : ∀ (a : Den [tPtr, S_api_Cap.ty, (tInt .i64)]) (K : Den [] → HP) (h : H), m_slots_Table_int_put a.1 a.2.1 a.2.2 K h = wpF x_slots_Table_int_put Try.f242 [tPtr, S_api_Cap.ty, (tInt .i64)] [] h_slots_Table_int_put a K h := fun a K h => by kernel_rfl
def s_slots_Table_int_put : Spec Try.prog := mkSpec x_slots_Table_int_put 242 Try.f242 [tPtr, S_api_Cap.ty, (tInt .i64)] [] false h_slots_Table_int_put (fun a => m_slots_Table_int_put a.1 a.2.1 a.2.2) w_slots_Table_int_put callee242 rfl
/-! (*sesame/slots.Table[int]).anew -/
def m_slots_Table_int_anew (a0 : Option Addr) (K : (Unit) → H → Prop) : H → Prop :=
  mDeref a0 fun ad1 =>
  mLoad cSl (ad1.add 2) fun x2 =>
  mLoop (fun (rec4 : (Sl × Int) → H → Prop) (s3 : Sl × Int) =>
    mIf (decide (s3.2 < (x2.len : Int))) (
      mIdx x2 s3.2 5 fun ad5 =>
      mLoad S_slots_place_int.cells ad5 fun x6 =>
      mIf (decide (x6.xstate = 1)) (
        mApp 302 5 40 #[(Value.int .u8 0), (Value.int .i64 0), (Value.int .u64 0), (Value.int .u64 0), (Value.int .i64 0)] 1 [(Value.int .u8 x6.xstate), (Value.int .i64 x6.xc.Obj), (Value.int .u64 x6.xc.Pass.Hi), (Value.int .u64 x6.xc.Pass.Lo), (Value.int .i64 x6.xv)] s3.1 fun s7 =>
        rec4 (s7, (iAdd .i64 s3.2 1))
        ) (
        rec4 (s3.1, (iAdd .i64 s3.2 1))
        )
      ) (
      mDeref a0 fun ad8 =>
      mLoad cSl (ad8.add 2) fun x9 =>
      mClear #[(Value.int .u8 0), (Value.int .i64 0), (Value.int .u64 0), (Value.int .u64 0), (Value.int .i64 0)] x9 <|
      mDeref a0 fun ad10 =>
      mStore (ad10.add 3) [(Value.int .i64 0)] <|
      mDeref a0 fun ad11 =>
      mStore (ad11.add 4) [(Value.int .i64 0)] <|
      mLoop (fun (rec13 : Int → H → Prop) (s12 : Int) =>
        mIf (decide (s12 < (s3.1.len : Int))) (
          mIdx s3.1 s12 5 fun ad14 =>
          mLoad S_slots_place_int.cells ad14 fun x15 =>
          m_slots_Table_int_put a0 x15.xc x15.xv fun _ =>
          rec13 (iAdd .i64 s12 1)
          ) (
          K ()
          )
        ) 0
      )
    ) (Sl.nil, 0)
def x_slots_Table_int_anew : Cx Try.prog := ⟨tys, [s_slots_Table_int_put], [4, 6, 21], [], mixed⟩
def h_slots_Table_int_anew : Hint := (.seq .d (.seq (.seq .d (.blk (.loop [.slot 2 tSl, .slot 12 (tInt .i64)] 16773140 [] .d))) (.seq .d (.seq .d (.seq .d (.blk (.loop [.slot 36 (tInt .i64)] 140668768878656 [] .d)))))))
theorem w_slots_Table_int_anew : ∀ (a : Den [tPtr]) (K : Den [] → HP) (h : H), m_slots_Table_int_anew a K h = wpF x_slots_Table_int_anew Try.f241 [tPtr] [] h_slots_Table_int_anew a K h := fun a K h => by kernel_rfl
def s_slots_Table_int_anew : Spec Try.prog := mkSpec x_slots_Table_int_anew 241 Try.f241 [tPtr] [] false h_slots_Table_int_anew (fun a => m_slots_Table_int_anew a) w_slots_Table_int_anew callee241 rfl
/-! (*sesame/slots.Table[int]).Put -/
def m_slots_Table_int_Put (a0 : Option Addr) (a1 : S_api_Cap) (a2 : Int) (K : (Int) → H → Prop) : H → Prop :=
  m_slots_Table_int_find a0 a1 fun r1 =>
  mIf (decide (0 ≤ r1.1)) (
    K 19
    ) (
    mDeref a0 fun ad2 =>
    mDeref a0 fun ad3 =>
    mLoad (cInt .i64) (ad2.add 3) fun x4 =>
    mLoad (cInt .i64) (ad3.add 0) fun x5 =>
    mIf (decide (x5 ≤ x4)) (
      K 10
      ) (
      mJoin (fun (_s6 : Unit) =>
        m_slots_Table_int_put a0 a1 a2 fun _ =>
        K 0
        ) (fun j7 =>
        mDeref a0 fun ad9 =>
        mDeref a0 fun ad10 =>
        mLoad (cInt .i64) (ad9.add 4) fun x11 =>
        mLoad cSl (ad10.add 2) fun x12 =>
        mIf (decide ((iMul .i64 7 (x12.len : Int)) < (iMul .i64 8 (iAdd .i64 x11 1)))) (
          m_slots_Table_int_anew a0 fun _ =>
          j7 ()
          ) (
          j7 ()
          )
        )
      )
    )
def x_slots_Table_int_Put : Cx Try.prog := ⟨tys, [s_slots_Table_int_find, s_slots_Table_int_anew, s_slots_Table_int_put], [4], [], mixed⟩
def h_slots_Table_int_Put : Hint := (.seq .d (.seq .d (.seq (.seq (.reg (.run [0, 4, 8, 16, 20, 24, 14, 30, 32] .nil)) .d) (.join [] 2198956146688 [] (.seq (.reg (.run [0, 4, 8, 24, 28, 32, 14, 16, 20, 38, 40, 44, 48] .nil)) .d) .d))))
theorem w_slots_Table_int_Put : ∀ (a : Den [tPtr, S_api_Cap.ty, (tInt .i64)]) (K : Den [(tInt .i64)] → HP) (h : H), m_slots_Table_int_Put a.1 a.2.1 a.2.2 K h = wpF x_slots_Table_int_Put Try.f199 [tPtr, S_api_Cap.ty, (tInt .i64)] [(tInt .i64)] h_slots_Table_int_Put a K h := fun a K h => by kernel_rfl
def s_slots_Table_int_Put : Spec Try.prog := mkSpec x_slots_Table_int_Put 199 Try.f199 [tPtr, S_api_Cap.ty, (tInt .i64)] [(tInt .i64)] false h_slots_Table_int_Put (fun a => m_slots_Table_int_Put a.1 a.2.1 a.2.2) w_slots_Table_int_Put callee199 rfl
/-! (*sesame/slots.Table[int]).Get -/
def m_slots_Table_int_Get (a0 : Option Addr) (a1 : S_api_Cap) (K : (Int × Bool) → H → Prop) : H → Prop :=
  m_slots_Table_int_find a0 a1 fun r1 =>
  mIf (decide (0 ≤ r1.1)) (
    mDeref a0 fun ad2 =>
    mLoad cSl (ad2.add 2) fun x3 =>
    mIdx x3 r1.1 5 fun ad4 =>
    mLoad (cInt .i64) (ad4.add 4) fun x5 =>
    K (x5, true)
    ) (
    K (0, false)
    )
def x_slots_Table_int_Get : Cx Try.prog := ⟨tys, [s_slots_Table_int_find], [3], [], mixed⟩
def h_slots_Table_int_Get : Hint := .d
theorem w_slots_Table_int_Get : ∀ (a : Den [tPtr, S_api_Cap.ty]) (K : Den [(tInt .i64), tBool] → HP) (h : H), m_slots_Table_int_Get a.1 a.2 K h = wpF x_slots_Table_int_Get Try.f122 [tPtr, S_api_Cap.ty] [(tInt .i64), tBool] h_slots_Table_int_Get a K h := fun a K h => by kernel_rfl
def s_slots_Table_int_Get : Spec Try.prog := mkSpec x_slots_Table_int_Get 122 Try.f122 [tPtr, S_api_Cap.ty] [(tInt .i64), tBool] false h_slots_Table_int_Get (fun a => m_slots_Table_int_Get a.1 a.2) w_slots_Table_int_Get callee122 rfl
/-! (*sesame/slots.Table[int]).Len -/
def m_slots_Table_int_Len (a0 : Option Addr) (K : (Int) → H → Prop) : H → Prop :=
  mDeref a0 fun ad1 =>
  mLoad (cInt .i64) (ad1.add 3) fun x2 =>
  K x2
def x_slots_Table_int_Len : Cx Try.prog := ⟨tys, [], [], [], mixed⟩
def h_slots_Table_int_Len : Hint := .d
theorem w_slots_Table_int_Len : ∀ (a : Den [tPtr]) (K : Den [(tInt .i64)] → HP) (h : H), m_slots_Table_int_Len a K h = wpF x_slots_Table_int_Len Try.f131 [tPtr] [(tInt .i64)] h_slots_Table_int_Len a K h := fun a K h => by kernel_rfl
def s_slots_Table_int_Len : Spec Try.prog := mkSpec x_slots_Table_int_Len 131 Try.f131 [tPtr] [(tInt .i64)] false h_slots_Table_int_Len (fun a => m_slots_Table_int_Len a) w_slots_Table_int_Len callee131 rfl
/-! (*sesame/slots.Table[int]).Drop -/
def m_slots_Table_int_Drop (a0 : Option Addr) (a1 : S_api_Cap) (K : (Bool) → H → Prop) : H → Prop :=
  m_slots_Table_int_find a0 a1 fun r1 =>
  mIf (decide (r1.1 < 0)) (
    K false
    ) (
    mDeref a0 fun ad2 =>
    mLoad cSl (ad2.add 2) fun x3 =>
    mIdx x3 r1.1 5 fun ad4 =>
    mStore ad4 [(Value.int .u8 2), (Value.int .i64 0), (Value.int .u64 0), (Value.int .u64 0), (Value.int .i64 0)] <|
    mDeref a0 fun ad5 =>
    mLoad (cInt .i64) (ad5.add 3) fun x6 =>
    mDeref a0 fun ad7 =>
    mStore (ad7.add 3) [(Value.int .i64 (iSub .i64 x6 1))] <|
    K true
    )
def x_slots_Table_int_Drop : Cx Try.prog := ⟨tys, [s_slots_Table_int_find], [3], [], mixed⟩
def h_slots_Table_int_Drop : Hint := .d
theorem w_slots_Table_int_Drop : ∀ (a : Den [tPtr, S_api_Cap.ty]) (K : Den [tBool] → HP) (h : H), m_slots_Table_int_Drop a.1 a.2 K h = wpF x_slots_Table_int_Drop Try.f138 [tPtr, S_api_Cap.ty] [tBool] h_slots_Table_int_Drop a K h := fun a K h => by kernel_rfl
def s_slots_Table_int_Drop : Spec Try.prog := mkSpec x_slots_Table_int_Drop 138 Try.f138 [tPtr, S_api_Cap.ty] [tBool] false h_slots_Table_int_Drop (fun a => m_slots_Table_int_Drop a.1 a.2) w_slots_Table_int_Drop callee138 rfl
end Go.Proofs.Ytiajjcboddaenaa.K
