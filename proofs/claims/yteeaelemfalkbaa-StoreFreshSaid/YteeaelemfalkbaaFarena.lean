/- Functions of the program, printed by a program of mine: arena_New, arena_Arena_Taken, arena_Arena_Free, arena_Arena_Take, arena_Arena_is, arena_Arena_place, arena_Arena_Read, arena_Arena_Write, arena_Arena_Give -/
import Derived.Test.YteeaelemfalkbaaT
import Derived.Test.YteeaelemfalkbaaFslices
namespace Go.Proofs.Yteeaelemfalkbaa.K
open Go Go.Proofs
/-! sesame/arena.New -/
def m_arena_New (a0 : Int) (K : (Option Addr × Int) → H → Prop) : H → Prop :=
  mIf ((decide (a0 < 0)) || (decide (256 < a0))) (
    K (none, 16)
    ) (
    mJoin (fun (s1 : Sl × Sl) =>
      mNew 164 #[(Sl.val s1.1), (Sl.val s1.2)] fun ad7 =>
      K ((some ad7), 0)
      ) (fun j2 =>
      mBoth (
        mMake 166 64 #[(Value.int .u8 0), (Value.int .u8 0), (Value.int .u8 0), (Value.int .u8 0), (Value.int .u8 0), (Value.int .u8 0), (Value.int .u8 0), (Value.int .u8 0), (Value.int .u8 0), (Value.int .u8 0), (Value.int .u8 0), (Value.int .u8 0), (Value.int .u8 0), (Value.int .u8 0), (Value.int .u8 0), (Value.int .u8 0), (Value.int .u8 0), (Value.int .u8 0), (Value.int .u8 0), (Value.int .u8 0), (Value.int .u8 0), (Value.int .u8 0), (Value.int .u8 0), (Value.int .u8 0), (Value.int .u8 0), (Value.int .u8 0), (Value.int .u8 0), (Value.int .u8 0), (Value.int .u8 0), (Value.int .u8 0), (Value.int .u8 0), (Value.int .u8 0), (Value.int .u8 0), (Value.int .u8 0), (Value.int .u8 0), (Value.int .u8 0), (Value.int .u8 0), (Value.int .u8 0), (Value.int .u8 0), (Value.int .u8 0), (Value.int .u8 0), (Value.int .u8 0), (Value.int .u8 0), (Value.int .u8 0), (Value.int .u8 0), (Value.int .u8 0), (Value.int .u8 0), (Value.int .u8 0), (Value.int .u8 0), (Value.int .u8 0), (Value.int .u8 0), (Value.int .u8 0), (Value.int .u8 0), (Value.int .u8 0), (Value.int .u8 0), (Value.int .u8 0), (Value.int .u8 0), (Value.int .u8 0), (Value.int .u8 0), (Value.int .u8 0), (Value.int .u8 0), (Value.int .u8 0), (Value.int .u8 0), (Value.int .u8 0)] a0 a0 fun s3 =>
        mMake 4 1 #[(Value.bool false)] a0 a0 fun s4 =>
        j2 (s3, s4)
        ) (
        mMake 4 1 #[(Value.bool false)] a0 a0 fun s5 =>
        mMake 166 64 #[(Value.int .u8 0), (Value.int .u8 0), (Value.int .u8 0), (Value.int .u8 0), (Value.int .u8 0), (Value.int .u8 0), (Value.int .u8 0), (Value.int .u8 0), (Value.int .u8 0), (Value.int .u8 0), (Value.int .u8 0), (Value.int .u8 0), (Value.int .u8 0), (Value.int .u8 0), (Value.int .u8 0), (Value.int .u8 0), (Value.int .u8 0), (Value.int .u8 0), (Value.int .u8 0), (Value.int .u8 0), (Value.int .u8 0), (Value.int .u8 0), (Value.int .u8 0), (Value.int .u8 0), (Value.int .u8 0), (Value.int .u8 0), (Value.int .u8 0), (Value.int .u8 0), (Value.int .u8 0), (Value.int .u8 0), (Value.int .u8 0), (Value.int .u8 0), (Value.int .u8 0), (Value.int .u8 0), (Value.int .u8 0), (Value.int .u8 0), (Value.int .u8 0), (Value.int .u8 0), (Value.int .u8 0), (Value.int .u8 0), (Value.int .u8 0), (Value.int .u8 0), (Value.int .u8 0), (Value.int .u8 0), (Value.int .u8 0), (Value.int .u8 0), (Value.int .u8 0), (Value.int .u8 0), (Value.int .u8 0), (Value.int .u8 0), (Value.int .u8 0), (Value.int .u8 0), (Value.int .u8 0), (Value.int .u8 0), (Value.int .u8 0), (Value.int .u8 0), (Value.int .u8 0), (Value.int .u8 0), (Value.int .u8 0), (Value.int .u8 0), (Value.int .u8 0), (Value.int .u8 0), (Value.int .u8 0), (Value.int .u8 0)] a0 a0 fun s6 =>
        j2 (s6, s5)
        ))
    )
def x_arena_New : Cx Try.prog := ⟨tys, [], [], [], mixed⟩
def h_arena_New : Hint := (.seq .d (.seq (.seq (.reg (.run [3, 7, 11] (.sel 6 9 896 (.run [15, 19, 23] .nil) (.run [15, 19, 23] .nil) .nil))) .d) (.seq (.reg (.run [0, 8] (.join [.slot 11 tSl, .slot 13 tSl] 10240 [] (.both 1 3 (.run [15] .nil) (.run [7] .nil)) (.run [16, 22, 24, 28] .nil)))) .d)))
theorem w_arena_New : ∀ (a : Den [(tInt .i64)]) (K : Den [tPtr, (tInt .i64)] → HP) (h : H), m_arena_New a K h = wpF x_arena_New Try.f66 [(tInt .i64)] [tPtr, (tInt .i64)] h_arena_New a K h := fun a K h => by kernel_rfl
def s_arena_New : Spec Try.prog := mkSpec x_arena_New 66 Try.f66 [(tInt .i64)] [tPtr, (tInt .i64)] false h_arena_New (fun a => m_arena_New a) w_arena_New callee66 rfl
/-! (*sesame/arena.Arena).Taken -/
def m_arena_Arena_Taken (a0 : Option Addr) (K : (Sl) → H → Prop) : H → Prop :=
  mDeref a0 fun ad1 =>
  mLoad cSl (ad1.add 1) fun x2 =>
  mLoop (fun (rec4 : (Sl × Int) → H → Prop) (s3 : Sl × Int) =>
    mIf (decide (s3.2 < (x2.len : Int))) (
      mIdx x2 s3.2 1 fun ad5 =>
      mLoad cBool ad5 fun x6 =>
      mIf x6 (
        mApp 3 1 8 #[(Value.int .i64 0)] 1 [(Value.int .i64 s3.2)] s3.1 fun s7 =>
        rec4 (s7, (iAdd .i64 s3.2 1))
        ) (
        rec4 (s3.1, (iAdd .i64 s3.2 1))
        )
      ) (
      K s3.1
      )
    ) (Sl.nil, 0)
def x_arena_Arena_Taken : Cx Try.prog := ⟨tys, [], [19], [], mixed⟩
def h_arena_Arena_Taken : Hint := (.seq .d (.seq .d (.seq (.seq .d (.blk (.loop [.slot 3 tSl, .slot 11 (tInt .i64)] 4192312 [] .d))) .d)))
theorem w_arena_Arena_Taken : ∀ (a : Den [tPtr]) (K : Den [tSl] → HP) (h : H), m_arena_Arena_Taken a K h = wpF x_arena_Arena_Taken Try.f111 [tPtr] [tSl] h_arena_Arena_Taken a K h := fun a K h => by kernel_rfl
def s_arena_Arena_Taken : Spec Try.prog := mkSpec x_arena_Arena_Taken 111 Try.f111 [tPtr] [tSl] false h_arena_Arena_Taken (fun a => m_arena_Arena_Taken a) w_arena_Arena_Taken callee111 rfl
/-! (*sesame/arena.Arena).Free -/
def m_arena_Arena_Free (a0 : Option Addr) (K : (Int) → H → Prop) : H → Prop :=
  mDeref a0 fun ad1 =>
  mJoin (fun (s2 : Int × Int) =>
    K (iSub .i64 s2.1 s2.2)
    ) (fun j3 =>
    mBoth (
      mLoad cSl (ad1.add 1) fun x4 =>
      m_arena_Arena_Taken a0 fun r5 =>
      j3 ((x4.len : Int), (r5.len : Int))
      ) (
      m_arena_Arena_Taken a0 fun r6 =>
      mLoad cSl (ad1.add 1) fun x7 =>
      j3 ((x7.len : Int), (r6.len : Int))
      ))
def x_arena_Arena_Free : Cx Try.prog := ⟨tys, [s_arena_Arena_Taken], [], [], mixed⟩
def h_arena_Arena_Free : Hint := (.seq .d (.seq (.reg (.run [0, 4, 8, 20] (.join [.slot 7 (tInt .i64), .slot 10 (tInt .i64)] 1728 [] (.both 3 6 (.run [16, 27, 28] .nil) (.run [28, 14, 16] .nil)) (.run [32, 36] .nil)))) .d))
theorem w_arena_Arena_Free : ∀ (a : Den [tPtr]) (K : Den [(tInt .i64)] → HP) (h : H), m_arena_Arena_Free a K h = wpF x_arena_Arena_Free Try.f71 [tPtr] [(tInt .i64)] h_arena_Arena_Free a K h := fun a K h => by kernel_rfl
def s_arena_Arena_Free : Spec Try.prog := mkSpec x_arena_Arena_Free 71 Try.f71 [tPtr] [(tInt .i64)] false h_arena_Arena_Free (fun a => m_arena_Arena_Free a) w_arena_Arena_Free callee71 rfl
/-! (*sesame/arena.Arena).Take -/
def m_arena_Arena_Take (a0 : Option Addr) (a1 : Int) (K : (Sl × Int) → H → Prop) : H → Prop :=
  mIf (decide (a1 < 0)) (
    K (Sl.nil, 6)
    ) (
    m_arena_Arena_Free a0 fun r1 =>
    mIf (decide (r1 < a1)) (
      K (Sl.nil, 8)
      ) (
      mDeref a0 fun ad2 =>
      mLoad cSl (ad2.add 0) fun x3 =>
      mLoop (fun (rec5 : (Sl × Int) → H → Prop) (s4 : Sl × Int) =>
        mIf (decide (s4.2 < (x3.len : Int))) (
          mIf (decide ((s4.1.len : Int) = a1)) (
            K (s4.1, 0)
            ) (
            mDeref a0 fun ad6 =>
            mLoad cSl (ad6.add 1) fun x7 =>
            mIdx x7 s4.2 1 fun ad8 =>
            mLoad cBool ad8 fun x9 =>
            mIf x9 (
              rec5 (s4.1, (iAdd .i64 s4.2 1))
              ) (
              mJoin (fun (_s10 : Unit) =>
                mDeref a0 fun ad12 =>
                mLoad cSl (ad12.add 1) fun x13 =>
                mIdx x13 s4.2 1 fun ad14 =>
                mStore ad14 [(Value.bool true)] <|
                mApp 3 1 8 #[(Value.int .i64 0)] 1 [(Value.int .i64 s4.2)] s4.1 fun s15 =>
                rec5 (s15, (iAdd .i64 s4.2 1))
                ) (fun j11 =>
                mDeref a0 fun ad16 =>
                mLoad cSl (ad16.add 0) fun x17 =>
                mIdx x17 s4.2 64 fun ad18 =>
                mLoad S_arena_page.cells ad18 fun x19 =>
                mIf (!((decide (x19.xe0 = 0)) && ((decide (x19.xe1 = 0)) && ((decide (x19.xe2 = 0)) && ((decide (x19.xe3 = 0)) && ((decide (x19.xe4 = 0)) && ((decide (x19.xe5 = 0)) && ((decide (x19.xe6 = 0)) && ((decide (x19.xe7 = 0)) && ((decide (x19.xe8 = 0)) && ((decide (x19.xe9 = 0)) && ((decide (x19.xe10 = 0)) && ((decide (x19.xe11 = 0)) && ((decide (x19.xe12 = 0)) && ((decide (x19.xe13 = 0)) && ((decide (x19.xe14 = 0)) && ((decide (x19.xe15 = 0)) && ((decide (x19.xe16 = 0)) && ((decide (x19.xe17 = 0)) && ((decide (x19.xe18 = 0)) && ((decide (x19.xe19 = 0)) && ((decide (x19.xe20 = 0)) && ((decide (x19.xe21 = 0)) && ((decide (x19.xe22 = 0)) && ((decide (x19.xe23 = 0)) && ((decide (x19.xe24 = 0)) && ((decide (x19.xe25 = 0)) && ((decide (x19.xe26 = 0)) && ((decide (x19.xe27 = 0)) && ((decide (x19.xe28 = 0)) && ((decide (x19.xe29 = 0)) && ((decide (x19.xe30 = 0)) && ((decide (x19.xe31 = 0)) && ((decide (x19.xe32 = 0)) && ((decide (x19.xe33 = 0)) && ((decide (x19.xe34 = 0)) && ((decide (x19.xe35 = 0)) && ((decide (x19.xe36 = 0)) && ((decide (x19.xe37 = 0)) && ((decide (x19.xe38 = 0)) && ((decide (x19.xe39 = 0)) && ((decide (x19.xe40 = 0)) && ((decide (x19.xe41 = 0)) && ((decide (x19.xe42 = 0)) && ((decide (x19.xe43 = 0)) && ((decide (x19.xe44 = 0)) && ((decide (x19.xe45 = 0)) && ((decide (x19.xe46 = 0)) && ((decide (x19.xe47 = 0)) && ((decide (x19.xe48 = 0)) && ((decide (x19.xe49 = 0)) && ((decide (x19.xe50 = 0)) && ((decide (x19.xe51 = 0)) && ((decide (x19.xe52 = 0)) && ((decide (x19.xe53 = 0)) && ((decide (x19.xe54 = 0)) && ((decide (x19.xe55 = 0)) && ((decide (x19.xe56 = 0)) && ((decide (x19.xe57 = 0)) && ((decide (x19.xe58 = 0)) && ((decide (x19.xe59 = 0)) && ((decide (x19.xe60 = 0)) && ((decide (x19.xe61 = 0)) && ((decide (x19.xe62 = 0)) && ((decide (x19.xe63 = 0)) && true))))))))))))))))))))))))))))))))))))))))))))))))))))))))))))))))) (
                  mDeref a0 fun ad20 =>
                  mLoad cSl (ad20.add 0) fun x21 =>
                  mIdx x21 s4.2 64 fun ad22 =>
                  mCut (⟨some ad22, 64, 64⟩ : Sl) 0 (64 : Int) 1 fun s23 =>
                  mClear #[(Value.int .u8 0)] s23 <|
                  j11 ()
                  ) (
                  j11 ()
                  )
                )
              )
            )
          ) (
          K (s4.1, 0)
          )
        ) (Sl.nil, 0)
      )
    )
def x_arena_Arena_Take : Cx Try.prog := ⟨tys, [s_arena_Arena_Free], [59], [], mixed⟩
def h_arena_Arena_Take : Hint := (.seq .d (.seq .d (.seq .d (.seq (.seq .d (.blk (.loop [.slot 6 tSl, .slot 21 (tInt .i64)] 4611686018425290944 [] (.seq .d (.seq .d (.seq (.blk (.seq .d (.seq .d (.seq .d (.join [] 2251765453946880 [] .d .d))))) .d)))))) .d))))
theorem w_arena_Arena_Take : ∀ (a : Den [tPtr, (tInt .i64)]) (K : Den [tSl, (tInt .i64)] → HP) (h : H), m_arena_Arena_Take a.1 a.2 K h = wpF x_arena_Arena_Take Try.f69 [tPtr, (tInt .i64)] [tSl, (tInt .i64)] h_arena_Arena_Take a K h := fun a K h => by kernel_rfl
def s_arena_Arena_Take : Spec Try.prog := mkSpec x_arena_Arena_Take 69 Try.f69 [tPtr, (tInt .i64)] [tSl, (tInt .i64)] false h_arena_Arena_Take (fun a => m_arena_Arena_Take a.1 a.2) w_arena_Arena_Take callee69 rfl
/-! (*sesame/arena.Arena).is -/
def m_arena_Arena_is (a0 : Option Addr) (a1 : Int) (K : (Bool) → H → Prop) : H → Prop :=
  mJoin (fun (s3 : Bool) =>
    mIf s3 (
      mDeref a0 fun ad9 =>
      mLoad cSl (ad9.add 1) fun x10 =>
      mIdx x10 a1 1 fun ad11 =>
      mLoad cBool ad11 fun x12 =>
      K x12
      ) (
      K false
      )
    ) (fun j4 =>
    mIf (decide (0 ≤ a1)) (
      mDeref a0 fun ad13 =>
      mLoad cSl (ad13.add 1) fun x14 =>
      j4 (decide (a1 < (x14.len : Int)))
      ) (
      j4 false
      ))
def x_arena_Arena_is : Cx Try.prog := ⟨tys, [], [], [], mixed⟩
def h_arena_Arena_is : Hint := (.seq .d (.seq (.reg (.run [3, 7, 11] (.join [.slot 15 tBool] 65280 [] (.split 7 (.run [15, 19, 23, 27, 31, 35, 39, 43] .nil) (.run [15, 19, 23, 27, 31, 35, 39, 43] .nil)) (.run [47] (.split 16 (.run [51, 55, 59, 63, 67, 71, 75, 79, 83] .nil) (.run [51, 55, 59, 63, 67, 71, 75, 79, 83] .nil)))))) .d))
theorem w_arena_Arena_is : ∀ (a : Den [tPtr, (tInt .i64)]) (K : Den [tBool] → HP) (h : H), m_arena_Arena_is a.1 a.2 K h = wpF x_arena_Arena_is Try.f113 [tPtr, (tInt .i64)] [tBool] h_arena_Arena_is a K h := fun a K h => by kernel_rfl
def s_arena_Arena_is : Spec Try.prog := mkSpec x_arena_Arena_is 113 Try.f113 [tPtr, (tInt .i64)] [tBool] false h_arena_Arena_is (fun a => m_arena_Arena_is a.1 a.2) w_arena_Arena_is callee113 rfl
/-! (*sesame/arena.Arena).place -/
def m_arena_Arena_place (a0 : Option Addr) (a1 : Int) (a2 : Int) (a3 : Int) (K : (Int) → H → Prop) : H → Prop :=
  m_arena_Arena_is a0 a1 fun r1 =>
  mIf (!r1) (
    K 20
    ) (
    mIf ((((decide (a2 < 0)) || (decide (a3 < 0))) || (decide (64 < a3))) || (decide ((iSub .i64 64 a3) < a2))) (
      K 5
      ) (
      K 0
      )
    )
def x_arena_Arena_place : Cx Try.prog := ⟨tys, [s_arena_Arena_is], [], [], mixed⟩
def h_arena_Arena_place : Hint := (.seq .d (.seq (.blk (.seq .d (.cond .d (.seq (.reg (.run [3, 7, 11] (.sel 17 20 1835008 (.run [15, 19, 23] .nil) (.run [15, 19, 23] .nil) (.run [27] (.sel 21 24 29360128 (.run [31, 35, 39] .nil) (.run [31, 35, 39] .nil) (.run [43] (.sel 25 30 2080374784 (.run [47, 51, 55, 59, 63] .nil) (.run [47, 51, 55, 59, 63] .nil) (.run [67] .nil)))))))) .d)))) .d))
theorem w_arena_Arena_place : ∀ (a : Den [tPtr, (tInt .i64), (tInt .i64), (tInt .i64)]) (K : Den [(tInt .i64)] → HP) (h : H), m_arena_Arena_place a.1 a.2.1 a.2.2.1 a.2.2.2 K h = wpF x_arena_Arena_place Try.f112 [tPtr, (tInt .i64), (tInt .i64), (tInt .i64)] [(tInt .i64)] h_arena_Arena_place a K h := fun a K h => by kernel_rfl
def s_arena_Arena_place : Spec Try.prog := mkSpec x_arena_Arena_place 112 Try.f112 [tPtr, (tInt .i64), (tInt .i64), (tInt .i64)] [(tInt .i64)] false h_arena_Arena_place (fun a => m_arena_Arena_place a.1 a.2.1 a.2.2.1 a.2.2.2) w_arena_Arena_place callee112 rfl
/-! (*sesame/arena.Arena).Read -/
def m_arena_Arena_Read (a0 : Option Addr) (a1 : Int) (a2 : Int) (a3 : Int) (K : (Sl × Int) → H → Prop) : H → Prop :=
  m_arena_Arena_place a0 a1 a2 a3 fun r1 =>
  mIf (!decide (r1 = 0)) (
    K (Sl.nil, r1)
    ) (
    mDeref a0 fun ad2 =>
    mLoad cSl (ad2.add 0) fun x3 =>
    mIdx x3 a1 64 fun ad4 =>
    mLoad S_arena_page.cells ad4 fun x5 =>
    mNew 166 #[(Value.int .u8 0), (Value.int .u8 0), (Value.int .u8 0), (Value.int .u8 0), (Value.int .u8 0), (Value.int .u8 0), (Value.int .u8 0), (Value.int .u8 0), (Value.int .u8 0), (Value.int .u8 0), (Value.int .u8 0), (Value.int .u8 0), (Value.int .u8 0), (Value.int .u8 0), (Value.int .u8 0), (Value.int .u8 0), (Value.int .u8 0), (Value.int .u8 0), (Value.int .u8 0), (Value.int .u8 0), (Value.int .u8 0), (Value.int .u8 0), (Value.int .u8 0), (Value.int .u8 0), (Value.int .u8 0), (Value.int .u8 0), (Value.int .u8 0), (Value.int .u8 0), (Value.int .u8 0), (Value.int .u8 0), (Value.int .u8 0), (Value.int .u8 0), (Value.int .u8 0), (Value.int .u8 0), (Value.int .u8 0), (Value.int .u8 0), (Value.int .u8 0), (Value.int .u8 0), (Value.int .u8 0), (Value.int .u8 0), (Value.int .u8 0), (Value.int .u8 0), (Value.int .u8 0), (Value.int .u8 0), (Value.int .u8 0), (Value.int .u8 0), (Value.int .u8 0), (Value.int .u8 0), (Value.int .u8 0), (Value.int .u8 0), (Value.int .u8 0), (Value.int .u8 0), (Value.int .u8 0), (Value.int .u8 0), (Value.int .u8 0), (Value.int .u8 0), (Value.int .u8 0), (Value.int .u8 0), (Value.int .u8 0), (Value.int .u8 0), (Value.int .u8 0), (Value.int .u8 0), (Value.int .u8 0), (Value.int .u8 0)] fun ad6 =>
    mStore ad6 [(Value.int .u8 x5.xe0), (Value.int .u8 x5.xe1), (Value.int .u8 x5.xe2), (Value.int .u8 x5.xe3), (Value.int .u8 x5.xe4), (Value.int .u8 x5.xe5), (Value.int .u8 x5.xe6), (Value.int .u8 x5.xe7), (Value.int .u8 x5.xe8), (Value.int .u8 x5.xe9), (Value.int .u8 x5.xe10), (Value.int .u8 x5.xe11), (Value.int .u8 x5.xe12), (Value.int .u8 x5.xe13), (Value.int .u8 x5.xe14), (Value.int .u8 x5.xe15), (Value.int .u8 x5.xe16), (Value.int .u8 x5.xe17), (Value.int .u8 x5.xe18), (Value.int .u8 x5.xe19), (Value.int .u8 x5.xe20), (Value.int .u8 x5.xe21), (Value.int .u8 x5.xe22), (Value.int .u8 x5.xe23), (Value.int .u8 x5.xe24), (Value.int .u8 x5.xe25), (Value.int .u8 x5.xe26), (Value.int .u8 x5.xe27), (Value.int .u8 x5.xe28), (Value.int .u8 x5.xe29), (Value.int .u8 x5.xe30), (Value.int .u8 x5.xe31), (Value.int .u8 x5.xe32), (Value.int .u8 x5.xe33), (Value.int .u8 x5.xe34), (Value.int .u8 x5.xe35), (Value.int .u8 x5.xe36), (Value.int .u8 x5.xe37), (Value.int .u8 x5.xe38), (Value.int .u8 x5.xe39), (Value.int .u8 x5.xe40), (Value.int .u8 x5.xe41), (Value.int .u8 x5.xe42), (Value.int .u8 x5.xe43), (Value.int .u8 x5.xe44), (Value.int .u8 x5.xe45), (Value.int .u8 x5.xe46), (Value.int .u8 x5.xe47), (Value.int .u8 x5.xe48), (Value.int .u8 x5.xe49), (Value.int .u8 x5.xe50), (Value.int .u8 x5.xe51), (Value.int .u8 x5.xe52), (Value.int .u8 x5.xe53), (Value.int .u8 x5.xe54), (Value.int .u8 x5.xe55), (Value.int .u8 x5.xe56), (Value.int .u8 x5.xe57), (Value.int .u8 x5.xe58), (Value.int .u8 x5.xe59), (Value.int .u8 x5.xe60), (Value.int .u8 x5.xe61), (Value.int .u8 x5.xe62), (Value.int .u8 x5.xe63)] <|
    mCut (⟨some ad6, 64, 64⟩ : Sl) a2 (iAdd .i64 a2 a3) 1 fun s7 =>
    m_slices_Clone_byte_byte s7 fun r8 =>
    K (r8, 0)
    )
def x_arena_Arena_Read : Cx Try.prog := ⟨tys, [s_slices_Clone_byte_byte, s_arena_Arena_place], [], [], mixed⟩
def h_arena_Arena_Read : Hint := .d
theorem w_arena_Arena_Read : ∀ (a : Den [tPtr, (tInt .i64), (tInt .i64), (tInt .i64)]) (K : Den [tSl, (tInt .i64)] → HP) (h : H), m_arena_Arena_Read a.1 a.2.1 a.2.2.1 a.2.2.2 K h = wpF x_arena_Arena_Read Try.f75 [tPtr, (tInt .i64), (tInt .i64), (tInt .i64)] [tSl, (tInt .i64)] h_arena_Arena_Read a K h := fun a K h => by kernel_rfl
def s_arena_Arena_Read : Spec Try.prog := mkSpec x_arena_Arena_Read 75 Try.f75 [tPtr, (tInt .i64), (tInt .i64), (tInt .i64)] [tSl, (tInt .i64)] false h_arena_Arena_Read (fun a => m_arena_Arena_Read a.1 a.2.1 a.2.2.1 a.2.2.2) w_arena_Arena_Read callee75 rfl
/-! (*sesame/arena.Arena).Write -/
def m_arena_Arena_Write (a0 : Option Addr) (a1 : Int) (a2 : Int) (a3 : Sl) (K : (Int) → H → Prop) : H → Prop :=
  m_arena_Arena_place a0 a1 a2 (a3.len : Int) fun r1 =>
  mIf (!decide (r1 = 0)) (
    K r1
    ) (
    mDeref a0 fun ad2 =>
    mLoad cSl (ad2.add 0) fun x3 =>
    mIdx x3 a1 64 fun ad4 =>
    mCut (⟨some ad4, 64, 64⟩ : Sl) a2 (64 : Int) 1 fun s5 =>
    mCopy 1 s5 a3 fun _ =>
    K 0
    )
def x_arena_Arena_Write : Cx Try.prog := ⟨tys, [s_arena_Arena_place], [], [], mixed⟩
def h_arena_Arena_Write : Hint := .d
theorem w_arena_Arena_Write : ∀ (a : Den [tPtr, (tInt .i64), (tInt .i64), tSl]) (K : Den [(tInt .i64)] → HP) (h : H), m_arena_Arena_Write a.1 a.2.1 a.2.2.1 a.2.2.2 K h = wpF x_arena_Arena_Write Try.f77 [tPtr, (tInt .i64), (tInt .i64), tSl] [(tInt .i64)] h_arena_Arena_Write a K h := fun a K h => by kernel_rfl
def s_arena_Arena_Write : Spec Try.prog := mkSpec x_arena_Arena_Write 77 Try.f77 [tPtr, (tInt .i64), (tInt .i64), tSl] [(tInt .i64)] false h_arena_Arena_Write (fun a => m_arena_Arena_Write a.1 a.2.1 a.2.2.1 a.2.2.2) w_arena_Arena_Write callee77 rfl
/-! (*sesame/arena.Arena).Give -/
def m_arena_Arena_Give (a0 : Option Addr) (a1 : Sl) (K : (Int) → H → Prop) : H → Prop :=
  mLoop (fun (rec2 : Int → H → Prop) (s1 : Int) =>
    mIf (decide (s1 < (a1.len : Int))) (
      mIdx a1 s1 1 fun ad3 =>
      mLoad (cInt .i64) ad3 fun x4 =>
      m_arena_Arena_is a0 x4 fun r5 =>
      mJoin (fun (s8 : Bool) =>
        mIf s8 (
          K 20
          ) (
          rec2 (iAdd .i64 s1 1)
          )
        ) (fun j9 =>
        mIf (!r5) (
          j9 true
          ) (
          mCut a1 0 s1 1 fun s10 =>
          m_slices_Contains_int_int s10 x4 fun r11 =>
          j9 r11
          ))
      ) (
      mLoop (fun (rec13 : Int → H → Prop) (s12 : Int) =>
        mIf (decide (s12 < (a1.len : Int))) (
          mIdx a1 s12 1 fun ad14 =>
          mLoad (cInt .i64) ad14 fun x15 =>
          mDeref a0 fun ad16 =>
          mLoad cSl (ad16.add 1) fun x17 =>
          mIdx x17 x15 1 fun ad18 =>
          mStore ad18 [(Value.bool false)] <|
          rec13 (iAdd .i64 s12 1)
          ) (
          K 0
          )
        ) 0
      )
    ) 0
def x_arena_Arena_Give : Cx Try.prog := ⟨tys, [s_arena_Arena_is, s_slices_Contains_int_int], [], [], mixed⟩
def h_arena_Arena_Give : Hint := (.seq .d (.seq (.seq .d (.blk (.loop [.slot 11 (tInt .i64)] 268433520 [] (.seq .d (.seq .d (.seq (.blk (.seq .d (.seq (.reg (.run [3, 7, 11, 15, 19] (.join [.slot 26 tBool] 132120576 [] (.split 20 (.run [23, 27, 31, 35, 39, 43] .nil) (.run [23, 27, 31, 35, 39, 43] .nil)) .nil))) .d))) .d)))))) (.seq (.seq .d (.blk (.loop [.slot 30 (tInt .i64)] 2197949513984 [] .d))) .d)))
theorem w_arena_Arena_Give : ∀ (a : Den [tPtr, tSl]) (K : Den [(tInt .i64)] → HP) (h : H), m_arena_Arena_Give a.1 a.2 K h = wpF x_arena_Arena_Give Try.f78 [tPtr, tSl] [(tInt .i64)] h_arena_Arena_Give a K h := fun a K h => by kernel_rfl
def s_arena_Arena_Give : Spec Try.prog := mkSpec x_arena_Arena_Give 78 Try.f78 [tPtr, tSl] [(tInt .i64)] false h_arena_Arena_Give (fun a => m_arena_Arena_Give a.1 a.2) w_arena_Arena_Give callee78 rfl
end Go.Proofs.Yteeaelemfalkbaa.K
