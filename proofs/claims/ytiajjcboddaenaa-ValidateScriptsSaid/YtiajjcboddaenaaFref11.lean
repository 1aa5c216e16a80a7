/- Functions of the program, printed by a program of mine: ref11_New, ref11_Catalogue_In, ref11_Valid, ref11_Catalogue_put, ref11_Catalogue_Root, ref11_Catalogue_Find, ref11_Catalogue_is, ref11_Part, ref11_Catalogue_Child, ref11_Catalogue_At, ref11_Catalogue_children, ref11_Catalogue_Down, ref11_Catalogue_Of, ref11_Catalogue_Count, ref11_Catalogue_Drop -/
import Derived.Test.YtiajjcboddaenaaT
namespace Go.Proofs.Ytiajjcboddaenaa.K
open Go Go.Proofs
/-! sesame/sesameref11.New -/
def m_ref11_New (a0 : Int) (a1 : Int) (K : (Option Addr × Int) → H → Prop) : H → Prop :=
  mIf ((((decide (a0 < 1)) || (decide (256 < a0))) || (decide (a1 < 0))) || (decide (64 < a1))) (
    K (none, 16)
    ) (
    mMake 230 56 #[(Value.bool false), (Value.int .i64 0), (Value.int .u64 0), (Value.int .u64 0), (Value.int .i64 0), (Value.int .i64 0), (Value.int .i64 0)] a0 a0 fun s1 =>
    mNew 221 #[(Sl.val s1), (Value.int .i64 0)] fun ad2 =>
    K ((some ad2), 0)
    )
def x_ref11_New : Cx Try.prog := ⟨tys, [], [], [], mixed⟩
def h_ref11_New : Hint := (.seq .d (.seq (.seq (.reg (.run [3, 7, 11] (.sel 8 11 3584 (.run [15, 19, 23] .nil) (.run [15, 19, 23] .nil) (.run [27] (.sel 12 15 57344 (.run [31, 35, 39] .nil) (.run [31, 35, 39] .nil) (.run [43] (.sel 16 19 917504 (.run [47, 51, 55] .nil) (.run [47, 51, 55] .nil) .nil))))))) .d) .d))
theorem w_ref11_New : ∀ (a : Den [(tInt .i64), (tInt .i64)]) (K : Den [tPtr, (tInt .i64)] → HP) (h : H), m_ref11_New a.1 a.2 K h = wpF x_ref11_New Try.f30 [(tInt .i64), (tInt .i64)] [tPtr, (tInt .i64)] h_ref11_New a K h := fun a K h => by kernel_rfl
def s_ref11_New : Spec Try.prog := mkSpec x_ref11_New 30 Try.f30 [(tInt .i64), (tInt .i64)] [tPtr, (tInt .i64)] false h_ref11_New (fun a => m_ref11_New a.1 a.2) w_ref11_New callee30 rfl
/-! (*sesame/sesameref11.Catalogue).In -/
def m_ref11_Catalogue_In (a0 : Option Addr) (a1 : Int) (K : (Int) → H → Prop) : H → Prop :=
  mLoop (fun (rec2 : (Int × Int) → H → Prop) (s1 : Int × Int) =>
    mDeref a0 fun ad3 =>
    mLoad cSl (ad3.add 0) fun x4 =>
    mIf (decide (s1.2 < (x4.len : Int))) (
      mDeref a0 fun ad5 =>
      mLoad cSl (ad5.add 0) fun x6 =>
      mIdx x6 s1.2 7 fun ad7 =>
      mLoad cBool (ad7.add 0) fun x8 =>
      mJoin (fun (s13 : Bool) =>
        mIf s13 (
          rec2 ((iAdd .i64 s1.1 1), (iAdd .i64 s1.2 1))
          ) (
          rec2 (s1.1, (iAdd .i64 s1.2 1))
          )
        ) (fun j14 =>
        mIf x8 (
          mDeref a0 fun ad15 =>
          mLoad cSl (ad15.add 0) fun x16 =>
          mIdx x16 s1.2 7 fun ad17 =>
          mLoad (cInt .i64) ((ad17.add 1).add 0) fun x18 =>
          j14 (decide (x18 = a1))
          ) (
          j14 false
          ))
      ) (
      K s1.1
      )
    ) (0, 0)
def x_ref11_Catalogue_In : Cx Try.prog := ⟨tys, [], [], [], mixed⟩
def h_ref11_Catalogue_In : Hint := (.seq .d (.seq .d (.seq (.seq .d (.blk (.loop [.slot 5 (tInt .i64), .slot 6 (tInt .i64)] 549755813856 [] (.seq .d (.seq (.blk (.seq (.reg (.run [3, 7, 11, 15, 19, 23, 27, 31, 35] (.join [.slot 36 tBool] 137405399040 [] (.split 24 (.run [39, 43, 47, 51, 55, 59, 63, 67, 71, 75, 79, 83] .nil) (.run [39, 43, 47, 51, 55, 59, 63, 67, 71, 75, 79, 83] .nil)) .nil))) .d)) .d))))) .d)))
theorem w_ref11_Catalogue_In : ∀ (a : Den [tPtr, (tInt .i64)]) (K : Den [(tInt .i64)] → HP) (h : H), m_ref11_Catalogue_In a.1 a.2 K h = wpF x_ref11_Catalogue_In Try.f43 [tPtr, (tInt .i64)] [(tInt .i64)] h_ref11_Catalogue_In a K h := fun a K h => by kernel_rfl
def s_ref11_Catalogue_In : Spec Try.prog := mkSpec x_ref11_Catalogue_In 43 Try.f43 [tPtr, (tInt .i64)] [(tInt .i64)] false h_ref11_Catalogue_In (fun a => m_ref11_Catalogue_In a.1 a.2) w_ref11_Catalogue_In callee43 rfl
/-! sesame/sesameref11.Valid -/
def m_ref11_Valid (a0 : Int) (K : (Bool) → H → Prop) : H → Prop :=
  K ((decide (1 ≤ a0)) && (decide (a0 ≤ 31)))
def x_ref11_Valid : Cx Try.prog := ⟨tys, [], [], [], mixed⟩
def h_ref11_Valid : Hint := (.seq .d (.seq (.reg (.run [3, 7, 11] (.sel 5 8 448 (.run [15, 19, 23] .nil) (.run [15, 19, 23] .nil) (.run [27] .nil)))) .d))
theorem w_ref11_Valid : ∀ (a : Den [(tInt .i64)]) (K : Den [tBool] → HP) (h : H), m_ref11_Valid a K h = wpF x_ref11_Valid Try.f120 [(tInt .i64)] [tBool] h_ref11_Valid a K h := fun a K h => by kernel_rfl
def s_ref11_Valid : Spec Try.prog := mkSpec x_ref11_Valid 120 Try.f120 [(tInt .i64)] [tBool] true h_ref11_Valid (fun a => m_ref11_Valid a) w_ref11_Valid callee120 rfl
/-! (*sesame/sesameref11.Catalogue).put -/
def m_ref11_Catalogue_put (a0 : Option Addr) (a1 : S_api_Cap) (a2 : Int) (a3 : Int) (K : (Int × Int) → H → Prop) : H → Prop :=
  mLoop (fun (rec2 : Int → H → Prop) (s1 : Int) =>
    mDeref a0 fun ad3 =>
    mLoad cSl (ad3.add 0) fun x4 =>
    mIf (decide (s1 < (x4.len : Int))) (
      mDeref a0 fun ad5 =>
      mLoad cSl (ad5.add 0) fun x6 =>
      mIdx x6 s1 7 fun ad7 =>
      mLoad cBool (ad7.add 0) fun x8 =>
      mIf (!x8) (
        mDeref a0 fun ad9 =>
        mDeref a0 fun ad10 =>
        mLoad cSl (ad9.add 0) fun x11 =>
        mLoad (cInt .i64) (ad10.add 1) fun x12 =>
        mIdx x11 s1 7 fun ad13 =>
        mStore ad13 [(Value.bool true), (Value.int .i64 a1.Obj), (Value.int .u64 a1.Pass.Hi), (Value.int .u64 a1.Pass.Lo), (Value.int .i64 a2), (Value.int .i64 a3), (Value.int .i64 x12)] <|
        mDeref a0 fun ad14 =>
        mLoad (cInt .i64) (ad14.add 1) fun x15 =>
        mDeref a0 fun ad16 =>
        mStore (ad16.add 1) [(Value.int .i64 (iAdd .i64 x15 1))] <|
        K (s1, 0)
        ) (
        rec2 (iAdd .i64 s1 1)
        )
      ) (
      K (0, 10)
      )
    ) 0
def x_ref11_Catalogue_put : Cx Try.prog := ⟨tys, [], [5], [], mixed⟩
def h_ref11_Catalogue_put : Hint := (.seq .d (.seq (.seq .d (.blk (.loop [.slot 10 (tInt .i64)] 2251799813684992 [] (.seq .d (.seq (.blk (.seq .d (.cond (.seq (.reg (.run [0, 4, 8, 16, 24, 28, 32, 36, 40, 21, 14, 46, 48, 52, 59] .nil)) .d) .d))) .d))))) .d))
theorem w_ref11_Catalogue_put : ∀ (a : Den [tPtr, S_api_Cap.ty, (tInt .i64), (tInt .i64)]) (K : Den [(tInt .i64), (tInt .i64)] → HP) (h : H), m_ref11_Catalogue_put a.1 a.2.1 a.2.2.1 a.2.2.2 K h = wpF x_ref11_Catalogue_put Try.f121 [tPtr, S_api_Cap.ty, (tInt .i64), (tInt .i64)] [(tInt .i64), (tInt .i64)] h_ref11_Catalogue_put a K h := fun a K h => by kernel_rfl
def s_ref11_Catalogue_put : Spec Try.prog := mkSpec x_ref11_Catalogue_put 121 Try.f121 [tPtr, S_api_Cap.ty, (tInt .i64), (tInt .i64)] [(tInt .i64), (tInt .i64)] false h_ref11_Catalogue_put (fun a => m_ref11_Catalogue_put a.1 a.2.1 a.2.2.1 a.2.2.2) w_ref11_Catalogue_put callee121 rfl
/-! (*sesame/sesameref11.Catalogue).Root -/
def m_ref11_Catalogue_Root (a0 : Option Addr) (a1 : S_api_Cap) (a2 : Int) (K : (Int × Int) → H → Prop) : H → Prop :=
  mPure (m_ref11_Valid a2) fun r1 =>
  mIf (!r1) (
    K (0, 4)
    ) (
    m_ref11_Catalogue_In a0 a1.Obj fun r2 =>
    mIf (decide (0 < r2)) (
      K (0, 19)
      ) (
      m_ref11_Catalogue_put a0 a1 a2 (-1) fun r3 =>
      K (r3.1, r3.2)
      )
    )
def x_ref11_Catalogue_Root : Cx Try.prog := ⟨tys, [s_ref11_Catalogue_In, s_ref11_Valid, s_ref11_Catalogue_put], [4], [], mixed⟩
def h_ref11_Catalogue_Root : Hint := .d
theorem w_ref11_Catalogue_Root : ∀ (a : Den [tPtr, S_api_Cap.ty, (tInt .i64)]) (K : Den [(tInt .i64), (tInt .i64)] → HP) (h : H), m_ref11_Catalogue_Root a.1 a.2.1 a.2.2 K h = wpF x_ref11_Catalogue_Root Try.f33 [tPtr, S_api_Cap.ty, (tInt .i64)] [(tInt .i64), (tInt .i64)] h_ref11_Catalogue_Root a K h := fun a K h => by kernel_rfl
def s_ref11_Catalogue_Root : Spec Try.prog := mkSpec x_ref11_Catalogue_Root 33 Try.f33 [tPtr, S_api_Cap.ty, (tInt .i64)] [(tInt .i64), (tInt .i64)] false h_ref11_Catalogue_Root (fun a => m_ref11_Catalogue_Root a.1 a.2.1 a.2.2) w_ref11_Catalogue_Root callee33 rfl
/-! (*sesame/sesameref11.Catalogue).Find -/
def m_ref11_Catalogue_Find (a0 : Option Addr) (a1 : S_api_Cap) (K : (Int × Bool) → H → Prop) : H → Prop :=
  mLoop (fun (rec2 : Int → H → Prop) (s1 : Int) =>
    mDeref a0 fun ad3 =>
    mLoad cSl (ad3.add 0) fun x4 =>
    mIf (decide (s1 < (x4.len : Int))) (
      mDeref a0 fun ad5 =>
      mLoad cSl (ad5.add 0) fun x6 =>
      mIdx x6 s1 7 fun ad7 =>
      mLoad cBool (ad7.add 0) fun x8 =>
      mJoin (fun (s13 : Bool) =>
        mIf s13 (
          K (s1, true)
          ) (
          rec2 (iAdd .i64 s1 1)
          )
        ) (fun j14 =>
        mIf x8 (
          mDeref a0 fun ad15 =>
          mLoad cSl (ad15.add 0) fun x16 =>
          mIdx x16 s1 7 fun ad17 =>
          mLoad S_api_Cap.cells (ad17.add 1) fun x18 =>
          j14 ((decide (x18.Obj = a1.Obj)) && (((decide (x18.Pass.Hi = a1.Pass.Hi)) && ((decide (x18.Pass.Lo = a1.Pass.Lo)) && true)) && true))
          ) (
          j14 false
          ))
      ) (
      K (0, false)
      )
    ) 0
def x_ref11_Catalogue_Find : Cx Try.prog := ⟨tys, [], [3], [], mixed⟩
def h_ref11_Catalogue_Find : Hint := (.seq .d (.seq (.seq .d (.blk (.loop [.slot 6 (tInt .i64)] 137438953456 [] (.seq .d (.seq (.blk (.seq (.reg (.run [0, 4, 8, 16, 14, 20, 24, 30, 32] (.join [.slot 35 tBool] 68685922304 [] (.split 24 (.run [36, 40, 44, 52, 69, 50, 56, 60, 66, 72, 76] .nil) (.run [36, 40, 44, 48, 52, 56, 60, 64, 68, 72, 76] .nil)) .nil))) .d)) .d))))) .d))
theorem w_ref11_Catalogue_Find : ∀ (a : Den [tPtr, S_api_Cap.ty]) (K : Den [(tInt .i64), tBool] → HP) (h : H), m_ref11_Catalogue_Find a.1 a.2 K h = wpF x_ref11_Catalogue_Find Try.f68 [tPtr, S_api_Cap.ty] [(tInt .i64), tBool] h_ref11_Catalogue_Find a K h := fun a K h => by kernel_rfl
def s_ref11_Catalogue_Find : Spec Try.prog := mkSpec x_ref11_Catalogue_Find 68 Try.f68 [tPtr, S_api_Cap.ty] [(tInt .i64), tBool] false h_ref11_Catalogue_Find (fun a => m_ref11_Catalogue_Find a.1 a.2) w_ref11_Catalogue_Find callee68 rfl
/-! (*sesame/sesameref11.Catalogue).is -/
def m_ref11_Catalogue_is (a0 : Option Addr) (a1 : Int) (K : (Bool) → H → Prop) : H → Prop :=
  mJoin (fun (s3 : Bool) =>
    mIf s3 (
      mDeref a0 fun ad9 =>
      mLoad cSl (ad9.add 0) fun x10 =>
      mIdx x10 a1 7 fun ad11 =>
      mLoad cBool (ad11.add 0) fun x12 =>
      K x12
      ) (
      K false
      )
    ) (fun j4 =>
    mIf (decide (0 ≤ a1)) (
      mDeref a0 fun ad13 =>
      mLoad cSl (ad13.add 0) fun x14 =>
      j4 (decide (a1 < (x14.len : Int)))
      ) (
      j4 false
      ))
def x_ref11_Catalogue_is : Cx Try.prog := ⟨tys, [], [], [], mixed⟩
def h_ref11_Catalogue_is : Hint := (.seq .d (.seq (.reg (.run [3, 7, 11] (.join [.slot 15 tBool] 65280 [] (.split 7 (.run [15, 19, 23, 27, 31, 35, 39, 43] .nil) (.run [15, 19, 23, 27, 31, 35, 39, 43] .nil)) (.run [47] (.split 16 (.run [51, 55, 59, 63, 67, 71, 75, 79, 83, 87] .nil) (.run [51, 55, 59, 63, 67, 71, 75, 79, 83, 87] .nil)))))) .d))
theorem w_ref11_Catalogue_is : ∀ (a : Den [tPtr, (tInt .i64)]) (K : Den [tBool] → HP) (h : H), m_ref11_Catalogue_is a.1 a.2 K h = wpF x_ref11_Catalogue_is Try.f125 [tPtr, (tInt .i64)] [tBool] h_ref11_Catalogue_is a K h := fun a K h => by kernel_rfl
def s_ref11_Catalogue_is : Spec Try.prog := mkSpec x_ref11_Catalogue_is 125 Try.f125 [tPtr, (tInt .i64)] [tBool] false h_ref11_Catalogue_is (fun a => m_ref11_Catalogue_is a.1 a.2) w_ref11_Catalogue_is callee125 rfl
/-! sesame/sesameref11.Part -/
def m_ref11_Part (a0 : Int) (a1 : Int) (K : (Bool) → H → Prop) : H → Prop :=
  mPure (m_ref11_Valid a0) fun r1 =>
  K (r1 && (decide ((iOr .i64 a0 a1) = a1)))
def x_ref11_Part : Cx Try.prog := ⟨tys, [s_ref11_Valid], [], [], mixed⟩
def h_ref11_Part : Hint := (.seq .d (.seq (.reg (.run [3, 7, 11] (.sel 7 13 16128 (.run [15, 19, 23, 27, 31, 35] .nil) (.run [15, 19, 23, 27, 31, 35] .nil) (.run [39] .nil)))) .d))
theorem w_ref11_Part : ∀ (a : Den [(tInt .i64), (tInt .i64)]) (K : Den [tBool] → HP) (h : H), m_ref11_Part a.1 a.2 K h = wpF x_ref11_Part Try.f126 [(tInt .i64), (tInt .i64)] [tBool] h_ref11_Part a K h := fun a K h => by kernel_rfl
def s_ref11_Part : Spec Try.prog := mkSpec x_ref11_Part 126 Try.f126 [(tInt .i64), (tInt .i64)] [tBool] true h_ref11_Part (fun a => m_ref11_Part a.1 a.2) w_ref11_Part callee126 rfl
/-! (*sesame/sesameref11.Catalogue).Child -/
def m_ref11_Catalogue_Child (a0 : Option Addr) (a1 : Int) (a2 : S_api_Cap) (a3 : Int) (K : (Int × Int) → H → Prop) : H → Prop :=
  m_ref11_Catalogue_is a0 a1 fun r1 =>
  mIf (!r1) (
    K (0, 20)
    ) (
    mDeref a0 fun ad2 =>
    mLoad cSl (ad2.add 0) fun x3 =>
    mIdx x3 a1 7 fun ad4 =>
    mLoad (cInt .i64) ((ad4.add 1).add 0) fun x5 =>
    mIf (!decide (x5 = a2.Obj)) (
      K (0, 3)
      ) (
      mDeref a0 fun ad6 =>
      mLoad cSl (ad6.add 0) fun x7 =>
      mIdx x7 a1 7 fun ad8 =>
      mLoad (cInt .i64) (ad8.add 4) fun x9 =>
      mPure (m_ref11_Part a3 x9) fun r10 =>
      mIf (!r10) (
        K (0, 4)
        ) (
        m_ref11_Catalogue_Find a0 a2 fun r11 =>
        mIf r11.2 (
          K (0, 19)
          ) (
          m_ref11_Catalogue_put a0 a2 a3 a1 fun r12 =>
          K (r12.1, r12.2)
          )
        )
      )
    )
def x_ref11_Catalogue_Child : Cx Try.prog := ⟨tys, [s_ref11_Catalogue_Find, s_ref11_Catalogue_put, s_ref11_Catalogue_is, s_ref11_Part], [6], [], mixed⟩
def h_ref11_Catalogue_Child : Hint := (.seq .d (.seq .d (.seq (.seq (.reg (.run [0, 4, 8, 16, 36, 41, 14, 20, 24, 28, 34, 44] .nil)) .d) .d)))
theorem w_ref11_Catalogue_Child : ∀ (a : Den [tPtr, (tInt .i64), S_api_Cap.ty, (tInt .i64)]) (K : Den [(tInt .i64), (tInt .i64)] → HP) (h : H), m_ref11_Catalogue_Child a.1 a.2.1 a.2.2.1 a.2.2.2 K h = wpF x_ref11_Catalogue_Child Try.f35 [tPtr, (tInt .i64), S_api_Cap.ty, (tInt .i64)] [(tInt .i64), (tInt .i64)] h_ref11_Catalogue_Child a K h := fun a K h => by kernel_rfl
def s_ref11_Catalogue_Child : Spec Try.prog := mkSpec x_ref11_Catalogue_Child 35 Try.f35 [tPtr, (tInt .i64), S_api_Cap.ty, (tInt .i64)] [(tInt .i64), (tInt .i64)] false h_ref11_Catalogue_Child (fun a => m_ref11_Catalogue_Child a.1 a.2.1 a.2.2.1 a.2.2.2) w_ref11_Catalogue_Child callee35 rfl
/-! (*sesame/sesameref11.Catalogue).At -/
def m_ref11_Catalogue_At (a0 : Option Addr) (a1 : Int) (K : (S_api_Token × Bool) → H → Prop) : H → Prop :=
  m_ref11_Catalogue_is a0 a1 fun r1 =>
  mIf (!r1) (
    K ((⟨⟨0, ⟨0, 0⟩⟩, 0, 0⟩ : S_api_Token), false)
    ) (
    mDeref a0 fun ad2 =>
    mDeref a0 fun ad3 =>
    mDeref a0 fun ad4 =>
    mLoad cSl (ad2.add 0) fun x5 =>
    mIdx x5 a1 7 fun ad6 =>
    mLoad S_api_Cap.cells (ad6.add 1) fun x7 =>
    mLoad cSl (ad3.add 0) fun x8 =>
    mIdx x8 a1 7 fun ad9 =>
    mLoad (cInt .i64) (ad9.add 4) fun x10 =>
    mLoad cSl (ad4.add 0) fun x11 =>
    mIdx x11 a1 7 fun ad12 =>
    mLoad (cInt .i64) (ad12.add 5) fun x13 =>
    K ((⟨⟨x7.Obj, ⟨x7.Pass.Hi, x7.Pass.Lo⟩⟩, x10, x13⟩ : S_api_Token), true)
    )
def x_ref11_Catalogue_At : Cx Try.prog := ⟨tys, [s_ref11_Catalogue_is], [4], [], mixed⟩
def h_ref11_Catalogue_At : Hint := (.seq .d (.seq .d (.seq (.reg (.run [0, 4, 8, 16, 32, 36, 40, 48, 64, 68, 72, 80, 14, 20, 24, 30, 46, 52, 56, 62, 78, 84, 88, 94, 96, 103, 104] .nil)) .d)))
theorem w_ref11_Catalogue_At : ∀ (a : Den [tPtr, (tInt .i64)]) (K : Den [S_api_Token.ty, tBool] → HP) (h : H), m_ref11_Catalogue_At a.1 a.2 K h = wpF x_ref11_Catalogue_At Try.f132 [tPtr, (tInt .i64)] [S_api_Token.ty, tBool] h_ref11_Catalogue_At a K h := fun a K h => by kernel_rfl
def s_ref11_Catalogue_At : Spec Try.prog := mkSpec x_ref11_Catalogue_At 132 Try.f132 [tPtr, (tInt .i64)] [S_api_Token.ty, tBool] false h_ref11_Catalogue_At (fun a => m_ref11_Catalogue_At a.1 a.2) w_ref11_Catalogue_At callee132 rfl
/-! (*sesame/sesameref11.Catalogue).children -/
def m_ref11_Catalogue_children (a0 : Option Addr) (a1 : Int) (K : (Sl) → H → Prop) : H → Prop :=
  mLoop (fun (rec2 : (Sl × Int) → H → Prop) (s1 : Sl × Int) =>
    mLoop (fun (rec4 : (Int × Int) → H → Prop) (s3 : Int × Int) =>
      mDeref a0 fun ad5 =>
      mLoad cSl (ad5.add 0) fun x6 =>
      mIf (decide (s3.2 < (x6.len : Int))) (
        mDeref a0 fun ad7 =>
        mLoad cSl (ad7.add 0) fun x8 =>
        mIdx x8 s3.2 7 fun ad9 =>
        mLoad cBool (ad9.add 0) fun x10 =>
        mJoin (fun (s15 : Bool) =>
          mJoin (fun (s21 : Bool) =>
            mJoin (fun (s41 : Bool) =>
              mIf s41 (
                rec4 (s3.2, (iAdd .i64 s3.2 1))
                ) (
                rec4 (s3.1, (iAdd .i64 s3.2 1))
                )
              ) (fun j42 =>
              mIf s21 (
                mIf (decide (s3.1 < 0)) (
                  j42 true
                  ) (
                  mDeref a0 fun ad51 =>
                  mDeref a0 fun ad52 =>
                  mLoad cSl (ad51.add 0) fun x53 =>
                  mIdx x53 s3.2 7 fun ad54 =>
                  mLoad (cInt .i64) (ad54.add 6) fun x55 =>
                  mLoad cSl (ad52.add 0) fun x56 =>
                  mIdx x56 s3.1 7 fun ad57 =>
                  mLoad (cInt .i64) (ad57.add 6) fun x58 =>
                  j42 (decide (x55 < x58))
                  )
                ) (
                j42 false
                ))
            ) (fun j22 =>
            mIf s15 (
              mDeref a0 fun ad59 =>
              mLoad cSl (ad59.add 0) fun x60 =>
              mIdx x60 s3.2 7 fun ad61 =>
              mLoad (cInt .i64) (ad61.add 6) fun x62 =>
              j22 (decide (s1.2 < x62))
              ) (
              j22 false
              ))
          ) (fun j16 =>
          mIf x10 (
            mDeref a0 fun ad63 =>
            mLoad cSl (ad63.add 0) fun x64 =>
            mIdx x64 s3.2 7 fun ad65 =>
            mLoad (cInt .i64) (ad65.add 5) fun x66 =>
            j16 (decide (x66 = a1))
            ) (
            j16 false
            ))
        ) (
        mIf (decide (s3.1 < 0)) (
          K s1.1
          ) (
          mApp 3 1 8 #[(Value.int .i64 0)] 1 [(Value.int .i64 s3.1)] s1.1 fun s67 =>
          mDeref a0 fun ad68 =>
          mLoad cSl (ad68.add 0) fun x69 =>
          mIdx x69 s3.1 7 fun ad70 =>
          mLoad (cInt .i64) (ad70.add 6) fun x71 =>
          rec2 (s67, x71)
          )
        )
      ) ((-1), 0)
    ) (Sl.nil, (-1))
def x_ref11_Catalogue_children : Cx Try.prog := ⟨tys, [], [79], [], mixed⟩
def h_ref11_Catalogue_children : Hint := (.seq .d (.seq .d (.seq .d (.blk (.loop [.slot 5 tSl, .slot 6 (tInt .i64)] 618970019642690137449562096 [] (.blk (.seq .d (.seq (.seq .d (.blk (.loop [.slot 7 (tInt .i64), .slot 8 (tInt .i64)] 18889465931478580854656 [] (.seq .d (.seq (.blk (.seq (.reg (.run [0, 4, 8, 16, 14, 20, 24, 30, 32] (.join [.slot 37 tBool] 274743689216 [] (.split 26 (.run [36, 40, 44, 52, 68, 50, 56, 60, 66, 72, 76] .nil) (.run [36, 40, 44, 48, 52, 56, 60, 64, 68, 72, 76] .nil)) (.run [80] (.join [.slot 49 tBool] 1125350151028736 [] (.split 38 (.run [84, 88, 92, 100, 116, 98, 104, 108, 114, 120, 124] .nil) (.run [84, 88, 92, 96, 100, 104, 108, 112, 116, 120, 124] .nil)) (.run [128] (.join [.slot 72 tBool] 9444730713939476742144 [] (.split 50 (.run [132, 136, 140] (.split 53 (.run [144, 148, 152, 156, 160, 164, 168, 172, 176, 180, 184, 188, 192, 196, 200, 204, 208, 212, 216] .nil) (.run [144, 148, 152, 160, 176, 180, 184, 192, 158, 164, 168, 174, 190, 196, 200, 206, 208, 212, 216] .nil))) (.run [132, 136, 140, 144, 148, 152, 156, 160, 164, 168, 172, 176, 180, 184, 188, 192, 196, 200, 204, 208, 212, 216] .nil)) .nil))))))) .d)) .d))))) .d))))))))
theorem w_ref11_Catalogue_children : ∀ (a : Den [tPtr, (tInt .i64)]) (K : Den [tSl] → HP) (h : H), m_ref11_Catalogue_children a.1 a.2 K h = wpF x_ref11_Catalogue_children Try.f246 [tPtr, (tInt .i64)] [tSl] h_ref11_Catalogue_children a K h := fun a K h => by kernel_rfl
def s_ref11_Catalogue_children : Spec Try.prog := mkSpec x_ref11_Catalogue_children 246 Try.f246 [tPtr, (tInt .i64)] [tSl] false h_ref11_Catalogue_children (fun a => m_ref11_Catalogue_children a.1 a.2) w_ref11_Catalogue_children callee246 rfl
/-! (*sesame/sesameref11.Catalogue).Down -/
def m_ref11_Catalogue_Down_s (self : (Option Addr) → (Int) → ((Sl) → H → Prop) → H → Prop) (a0 : Option Addr) (a1 : Int) (K : (Sl) → H → Prop) : H → Prop :=
  mNew 3 #[(Value.int .i64 a1)] fun ad1 =>
  m_ref11_Catalogue_children a0 a1 fun r2 =>
  mLoop (fun (rec4 : (Sl × Int) → H → Prop) (s3 : Sl × Int) =>
    mIf (decide (s3.2 < (r2.len : Int))) (
      mIdx r2 s3.2 1 fun ad5 =>
      mLoad (cInt .i64) ad5 fun x6 =>
      self a0 x6 fun r7 =>
      mAppend 3 1 8 #[(Value.int .i64 0)] s3.1 r7 fun s8 =>
      rec4 (s8, (iAdd .i64 s3.2 1))
      ) (
      K s3.1
      )
    ) ((⟨some ad1, 1, 1⟩ : Sl), 0)
def m_ref11_Catalogue_Down_n : Nat → (Option Addr) → (Int) → ((Sl) → H → Prop) → H → Prop
  | 0 => fun _ _ _ _ => False
  | n + 1 => m_ref11_Catalogue_Down_s (m_ref11_Catalogue_Down_n n)
def m_ref11_Catalogue_Down (a0 : Option Addr) (a1 : Int) (K : (Sl) → H → Prop) : H → Prop := fun h => ∃ n, m_ref11_Catalogue_Down_n n a0 a1 K h
def r_ref11_Catalogue_Down (m : (Option Addr) → (Int) → ((Sl) → H → Prop) → H → Prop) (ok : ∀ (a : Den [tPtr, (tInt .i64)]) (K : Den [tSl] → HP) (h : H), m a.1 a.2 K h → ACall Try.prog 204 (valsD [tPtr, (tInt .i64)] a).toArray h (fun v h' => ∃ r, v = outV (valsD [tSl] r) ∧ K r h') noP) : Spec Try.prog := ⟨204, [tPtr, (tInt .i64)], [tSl], false, fun a => m a.1 a.2, ok, ⟨Try.f204, callee204⟩⟩
def x_ref11_Catalogue_Down (r : Spec Try.prog) : Cx Try.prog := ⟨tys, [r, s_ref11_Catalogue_children], [], [], mixed⟩
def h_ref11_Catalogue_Down : Hint := (.seq .d (.seq .d (.seq .d (.seq (.seq .d (.blk (.loop [.slot 5 tSl, .slot 7 (tInt .i64)] 134209696 [] .d))) .d))))
theorem w_ref11_Catalogue_Down (m : (Option Addr) → (Int) → ((Sl) → H → Prop) → H → Prop) (ok : ∀ (a : Den [tPtr, (tInt .i64)]) (K : Den [tSl] → HP) (h : H), m a.1 a.2 K h → ACall Try.prog 204 (valsD [tPtr, (tInt .i64)] a).toArray h (fun v h' => ∃ r, v = outV (valsD [tSl] r) ∧ K r h') noP) : ∀ (a : Den [tPtr, (tInt .i64)]) (K : Den [tSl] → HP) (h : H), m_ref11_Catalogue_Down_s m a.1 a.2 K h = wpF (x_ref11_Catalogue_Down (r_ref11_Catalogue_Down m ok)) Try.f204 [tPtr, (tInt .i64)] [tSl] h_ref11_Catalogue_Down a K h := fun a K h => by kernel_rfl
theorem k_ref11_Catalogue_Down : ∀ n : Nat, ∀ (a : Den [tPtr, (tInt .i64)]) (K : Den [tSl] → HP) (h : H), m_ref11_Catalogue_Down_n n a.1 a.2 K h → ACall Try.prog 204 (valsD [tPtr, (tInt .i64)] a).toArray h (fun v h' => ∃ r, v = outV (valsD [tSl] r) ∧ K r h') noP
  | 0 => fun _ _ _ x => x.elim
  | n + 1 => (mkSpec (x_ref11_Catalogue_Down (r_ref11_Catalogue_Down (m_ref11_Catalogue_Down_n n) (k_ref11_Catalogue_Down n))) 204 Try.f204 [tPtr, (tInt .i64)] [tSl] false h_ref11_Catalogue_Down (fun a => m_ref11_Catalogue_Down_s (m_ref11_Catalogue_Down_n n) a.1 a.2) (w_ref11_Catalogue_Down (m_ref11_Catalogue_Down_n n) (k_ref11_Catalogue_Down n)) callee204 rfl).ok
def s_ref11_Catalogue_Down : Spec Try.prog := ⟨204, [tPtr, (tInt .i64)], [tSl], false, fun a => m_ref11_Catalogue_Down a.1 a.2, fun a K h ⟨n, x⟩ => k_ref11_Catalogue_Down n a K h x, ⟨Try.f204, callee204⟩⟩
/-! (*sesame/sesameref11.Catalogue).Of -/
def m_ref11_Catalogue_Of (a0 : Option Addr) (a1 : Int) (K : (Sl) → H → Prop) : H → Prop :=
  mLoop (fun (rec2 : (Sl × Int) → H → Prop) (s1 : Sl × Int) =>
    mDeref a0 fun ad3 =>
    mLoad cSl (ad3.add 0) fun x4 =>
    mIf (decide (s1.2 < (x4.len : Int))) (
      mDeref a0 fun ad5 =>
      mLoad cSl (ad5.add 0) fun x6 =>
      mIdx x6 s1.2 7 fun ad7 =>
      mLoad cBool (ad7.add 0) fun x8 =>
      mJoin (fun (s13 : Bool) =>
        mJoin (fun (s19 : Bool) =>
          mIf s19 (
            rec2 (s1.1, (iAdd .i64 s1.2 1))
            ) (
            m_ref11_Catalogue_Down a0 s1.2 fun r21 =>
            mLoop (fun (rec23 : (Sl × Int) → H → Prop) (s22 : Sl × Int) =>
              mIf (decide (s22.2 < (r21.len : Int))) (
                mIdx r21 s22.2 1 fun ad24 =>
                mLoad (cInt .i64) ad24 fun x25 =>
                m_ref11_Catalogue_At a0 x25 fun r26 =>
                mLoop (fun (rec28 : (Int × Int × Int × Int × Int × Int) → H → Prop) (s27 : Int × Int × Int × Int × Int × Int) =>
                  mIf (decide (s27.1 < s22.2)) (
                    mIdx r21 s27.1 1 fun ad29 =>
                    mDeref a0 fun ad30 =>
                    mIdx r21 s22.2 1 fun ad31 =>
                    mLoad (cInt .i64) ad29 fun x32 =>
                    mLoad cSl (ad30.add 0) fun x33 =>
                    mLoad (cInt .i64) ad31 fun x34 =>
                    mIdx x33 x34 7 fun ad35 =>
                    mLoad (cInt .i64) (ad35.add 5) fun x36 =>
                    mIf (decide (x32 = x36)) (
                      rec28 ((iAdd .i64 s27.1 1), s27.2.1, s27.2.2.1, s27.2.2.2.1, s27.2.2.2.2.1, s27.1)
                      ) (
                      rec28 ((iAdd .i64 s27.1 1), s27.2.1, s27.2.2.1, s27.2.2.2.1, s27.2.2.2.2.1, s27.2.2.2.2.2)
                      )
                    ) (
                    mApp 98 5 40 #[(Value.int .i64 0), (Value.int .u64 0), (Value.int .u64 0), (Value.int .i64 0), (Value.int .i64 0)] 1 [(Value.int .i64 s27.2.1), (Value.int .u64 s27.2.2.1), (Value.int .u64 s27.2.2.2.1), (Value.int .i64 s27.2.2.2.2.1), (Value.int .i64 s27.2.2.2.2.2)] s22.1 fun s37 =>
                    rec23 (s37, (iAdd .i64 s22.2 1))
                    )
                  ) (0, r26.1.Cap.Obj, r26.1.Cap.Pass.Hi, r26.1.Cap.Pass.Lo, r26.1.Rights, r26.1.Parent)
                ) (
                rec2 (s22.1, (iAdd .i64 s1.2 1))
                )
              ) (s1.1, 0)
            )
          ) (fun j20 =>
          mIf s13 (
            j20 true
            ) (
            mDeref a0 fun ad38 =>
            mLoad cSl (ad38.add 0) fun x39 =>
            mIdx x39 s1.2 7 fun ad40 =>
            mLoad (cInt .i64) (ad40.add 5) fun x41 =>
            j20 (decide (0 ≤ x41))
            ))
        ) (fun j14 =>
        mIf (!x8) (
          j14 true
          ) (
          mDeref a0 fun ad42 =>
          mLoad cSl (ad42.add 0) fun x43 =>
          mIdx x43 s1.2 7 fun ad44 =>
          mLoad (cInt .i64) ((ad44.add 1).add 0) fun x45 =>
          j14 (!decide (x45 = a1))
          ))
      ) (
      K s1.1
      )
    ) (Sl.nil, 0)
def x_ref11_Catalogue_Of : Cx Try.prog := ⟨tys, [s_ref11_Catalogue_At, s_ref11_Catalogue_Down], [9, 97], [], mixed⟩
def h_ref11_Catalogue_Of : Hint := (.seq .d (.seq .d (.seq (.seq .d (.blk (.loop [.slot 5 tSl, .slot 6 (tInt .i64)] 633825300114114700748351602656 [] (.seq .d (.seq (.blk (.seq (.seq (.reg (.run [3, 7, 11, 15, 19, 23, 27, 31, 35, 39] (.join [.slot 42 tBool] 8793945538560 [] (.split 30 (.run [43, 47, 51, 55, 59, 63, 67, 71, 75, 79, 83, 87] .nil) (.run [43, 47, 51, 55, 59, 63, 67, 71, 75, 79, 83, 87] .nil)) (.run [91] (.join [.slot 53 tBool] 17996806323437568 [] (.split 43 (.run [95, 99, 103, 107, 111, 115, 119, 123, 127, 131] .nil) (.run [95, 99, 103, 107, 111, 115, 119, 123, 127, 131] .nil)) .nil))))) .d) (.seq .d (.seq .d (.blk (.loop [.slot 5 tSl, .slot 8 (tInt .i64)] 633825300113970585560275750688 [] (.seq .d (.seq (.blk (.seq .d (.seq (.seq .d (.blk (.loop [.slot 11 (tInt .i64), .cell 9 0 (tInt .i64), .cell 9 1 (tInt .u64), .cell 9 2 (tInt .u64), .cell 9 3 (tInt .i64), .cell 9 4 (tInt .i64)] 39614076534765685927126763520 [9] (.seq .d (.seq (.blk (.seq (.reg (.run [0, 4, 8, 16, 20, 24, 32, 36, 40, 14, 30, 46, 48, 52, 58, 60] .nil)) .d)) .d))))) .d))) .d)))))))) .d))))) .d)))
theorem w_ref11_Catalogue_Of : ∀ (a : Den [tPtr, (tInt .i64)]) (K : Den [tSl] → HP) (h : H), m_ref11_Catalogue_Of a.1 a.2 K h = wpF x_ref11_Catalogue_Of Try.f134 [tPtr, (tInt .i64)] [tSl] h_ref11_Catalogue_Of a K h := fun a K h => by kernel_rfl
def s_ref11_Catalogue_Of : Spec Try.prog := mkSpec x_ref11_Catalogue_Of 134 Try.f134 [tPtr, (tInt .i64)] [tSl] false h_ref11_Catalogue_Of (fun a => m_ref11_Catalogue_Of a.1 a.2) w_ref11_Catalogue_Of callee134 rfl
/-! (*sesame/sesameref11.Catalogue).Count -/
def m_ref11_Catalogue_Count (a0 : Option Addr) (K : (Int) → H → Prop) : H → Prop :=
  mLoop (fun (rec2 : (Int × Int) → H → Prop) (s1 : Int × Int) =>
    mDeref a0 fun ad3 =>
    mLoad cSl (ad3.add 0) fun x4 =>
    mIf (decide (s1.2 < (x4.len : Int))) (
      mDeref a0 fun ad5 =>
      mLoad cSl (ad5.add 0) fun x6 =>
      mIdx x6 s1.2 7 fun ad7 =>
      mLoad cBool (ad7.add 0) fun x8 =>
      mIf x8 (
        rec2 ((iAdd .i64 s1.1 1), (iAdd .i64 s1.2 1))
        ) (
        rec2 (s1.1, (iAdd .i64 s1.2 1))
        )
      ) (
      K s1.1
      )
    ) (0, 0)
def x_ref11_Catalogue_Count : Cx Try.prog := ⟨tys, [], [], [], mixed⟩
def h_ref11_Catalogue_Count : Hint := (.seq .d (.seq .d (.seq (.seq .d (.blk (.loop [.slot 3 (tInt .i64), .slot 4 (tInt .i64)] 16777208 [] .d))) .d)))
theorem w_ref11_Catalogue_Count : ∀ (a : Den [tPtr]) (K : Den [(tInt .i64)] → HP) (h : H), m_ref11_Catalogue_Count a K h = wpF x_ref11_Catalogue_Count Try.f41 [tPtr] [(tInt .i64)] h_ref11_Catalogue_Count a K h := fun a K h => by kernel_rfl
def s_ref11_Catalogue_Count : Spec Try.prog := mkSpec x_ref11_Catalogue_Count 41 Try.f41 [tPtr] [(tInt .i64)] false h_ref11_Catalogue_Count (fun a => m_ref11_Catalogue_Count a) w_ref11_Catalogue_Count callee41 rfl
/-! (*sesame/sesameref11.Catalogue).Drop -/
def m_ref11_Catalogue_Drop (a0 : Option Addr) (a1 : Int) (K : (Sl × Int) → H → Prop) : H → Prop :=
  m_ref11_Catalogue_is a0 a1 fun r1 =>
  mIf (!r1) (
    K (Sl.nil, 20)
    ) (
    m_ref11_Catalogue_Down a0 a1 fun r2 =>
    mLoop (fun (rec4 : (Sl × Int) → H → Prop) (s3 : Sl × Int) =>
      mIf (decide (s3.2 < (r2.len : Int))) (
        mDeref a0 fun ad5 =>
        mIdx r2 s3.2 1 fun ad6 =>
        mLoad cSl (ad5.add 0) fun x7 =>
        mLoad (cInt .i64) ad6 fun x8 =>
        mIdx x7 x8 7 fun ad9 =>
        mLoad S_api_Cap.cells (ad9.add 1) fun x10 =>
        mApp 39 3 24 #[(Value.int .i64 0), (Value.int .u64 0), (Value.int .u64 0)] 1 [(Value.int .i64 x10.Obj), (Value.int .u64 x10.Pass.Hi), (Value.int .u64 x10.Pass.Lo)] s3.1 fun s11 =>
        mDeref a0 fun ad12 =>
        mIdx r2 s3.2 1 fun ad13 =>
        mLoad cSl (ad12.add 0) fun x14 =>
        mLoad (cInt .i64) ad13 fun x15 =>
        mIdx x14 x15 7 fun ad16 =>
        mStore ad16 [(Value.bool false), (Value.int .i64 0), (Value.int .u64 0), (Value.int .u64 0), (Value.int .i64 0), (Value.int .i64 0), (Value.int .i64 0)] <|
        rec4 (s11, (iAdd .i64 s3.2 1))
        ) (
        K (s3.1, 0)
        )
      ) (Sl.nil, 0)
    )
def x_ref11_Catalogue_Drop : Cx Try.prog := ⟨tys, [s_ref11_Catalogue_is, s_ref11_Catalogue_Down], [34], [], mixed⟩
def h_ref11_Catalogue_Drop : Hint := (.seq .d (.seq .d (.seq .d (.seq .d (.seq (.seq .d (.blk (.loop [.slot 7 tSl, .slot 8 (tInt .i64)] 70368744112512 [] (.seq .d (.seq (.blk (.seq (.reg (.run [0, 4, 8, 12, 20, 24, 28, 18, 34, 36, 40, 46, 50, 55, 56] .nil)) (.reg (.run [0, 4, 8, 16, 20, 24, 32, 14, 30, 36, 43] .nil)))) .d))))) .d)))))
theorem w_ref11_Catalogue_Drop : ∀ (a : Den [tPtr, (tInt .i64)]) (K : Den [tSl, (tInt .i64)] → HP) (h : H), m_ref11_Catalogue_Drop a.1 a.2 K h = wpF x_ref11_Catalogue_Drop Try.f133 [tPtr, (tInt .i64)] [tSl, (tInt .i64)] h_ref11_Catalogue_Drop a K h := fun a K h => by kernel_rfl
def s_ref11_Catalogue_Drop : Spec Try.prog := mkSpec x_ref11_Catalogue_Drop 133 Try.f133 [tPtr, (tInt .i64)] [tSl, (tInt .i64)] false h_ref11_Catalogue_Drop (fun a => m_ref11_Catalogue_Drop a.1 a.2) w_ref11_Catalogue_Drop callee133 rfl
end Go.Proofs.Ytiajjcboddaenaa.K
