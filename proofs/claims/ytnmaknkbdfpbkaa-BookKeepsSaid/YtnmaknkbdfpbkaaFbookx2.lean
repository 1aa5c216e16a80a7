/- Functions of the program, printed by a program of mine: book_Book_Rights, book_Book_Steps, book_Book_Told, book_need, book_given, book_Book_Honest -/
import Derived.Test.YtnmaknkbdfpbkaaT
import Derived.Test.YtnmaknkbdfpbkaaFbook
namespace Go.Proofs.Ytnmaknkbdfpbkaa.K
open Go Go.Proofs
/-! (*sesame/book.Book).Rights -/
def m_book_Book_Rights (a0 : Option Addr) (a1 : S_api_Cap) (K : (Int × Bool) → H → Prop) : H → Prop :=
  mDeref a0 fun ad1 =>
  mLoad cMap (ad1.add 1) fun x2 =>
  mJoin (fun (s3 : Addr × S_book_token × Bool) =>
    mStore s3.1 [(Value.int .i64 s3.2.1.xrights), (Value.int .i64 s3.2.1.xparent.Obj), (Value.int .u64 s3.2.1.xparent.Pass.Hi), (Value.int .u64 s3.2.1.xparent.Pass.Lo), (Value.bool s3.2.1.xroot)] <|
    mLoad (cInt .i64) (s3.1.add 0) fun x9 =>
    K (x9, s3.2.2)
    ) (fun j4 =>
    mBoth (
      m_book_look_api_Cap_book_token x2 a1 fun r5 =>
      mNew 121 #[(Value.int .i64 0), (Value.int .i64 0), (Value.int .u64 0), (Value.int .u64 0), (Value.bool false)] fun ad6 =>
      j4 (ad6, r5.1, r5.2)
      ) (
      mNew 121 #[(Value.int .i64 0), (Value.int .i64 0), (Value.int .u64 0), (Value.int .u64 0), (Value.bool false)] fun ad7 =>
      m_book_look_api_Cap_book_token x2 a1 fun r8 =>
      j4 (ad7, r8.1, r8.2)
      ))
def x_book_Book_Rights : Cx Try.prog := ⟨tys, [s_book_look_api_Cap_book_token], [3], [], mixed⟩
def h_book_Book_Rights : Hint := (.seq .d (.seq (.reg (.run [0, 4, 8, 17, 14] (.join [.slot 6 tAdr, .slot 15 S_book_token.ty, .slot 16 tBool] 115008 [] (.both 5 9 (.run [24, 28, 32, 38] .nil) (.run [23, 24, 28, 32] .nil)) (.run [43, 44] .nil)))) .d))
theorem w_book_Book_Rights : ∀ (a : Den [tPtr, S_api_Cap.ty]) (K : Den [(tInt .i64), tBool] → HP) (h : H), m_book_Book_Rights a.1 a.2 K h = wpF x_book_Book_Rights Try.f62 [tPtr, S_api_Cap.ty] [(tInt .i64), tBool] h_book_Book_Rights a K h := fun a K h => by kernel_rfl
def s_book_Book_Rights : Spec Try.prog := mkSpec x_book_Book_Rights 62 Try.f62 [tPtr, S_api_Cap.ty] [(tInt .i64), tBool] false h_book_Book_Rights (fun a => m_book_Book_Rights a.1 a.2) w_book_Book_Rights callee62 rfl
/-! (*sesame/book.Book).Steps -/
def m_book_Book_Steps (a0 : Option Addr) (K : (Int) → H → Prop) : H → Prop :=
  mDeref a0 fun ad1 =>
  mLoad (cInt .i64) (ad1.add 0) fun x2 =>
  K x2
def x_book_Book_Steps : Cx Try.prog := ⟨tys, [], [], [], mixed⟩
def h_book_Book_Steps : Hint := .d
theorem w_book_Book_Steps : ∀ (a : Den [tPtr]) (K : Den [(tInt .i64)] → HP) (h : H), m_book_Book_Steps a K h = wpF x_book_Book_Steps Try.f63 [tPtr] [(tInt .i64)] h_book_Book_Steps a K h := fun a K h => by kernel_rfl
def s_book_Book_Steps : Spec Try.prog := mkSpec x_book_Book_Steps 63 Try.f63 [tPtr] [(tInt .i64)] false h_book_Book_Steps (fun a => m_book_Book_Steps a) w_book_Book_Steps callee63 rfl
/-! (*sesame/book.Book).Told -/
def m_book_Book_Told (a0 : Option Addr) (a1 : Int) (a2 : S_api_Cap) (K : (Bool) → H → Prop) : H → Prop :=
  mDeref a0 fun ad1 =>
  mLoad cMap (ad1.add 3) fun x2 =>
  m_book_look_book_whom_book_Link x2 (⟨a1, ⟨a2.Obj, ⟨a2.Pass.Hi, a2.Pass.Lo⟩⟩⟩ : S_book_whom) fun r3 =>
  K r3.2
def x_book_Book_Told : Cx Try.prog := ⟨tys, [s_book_look_book_whom_book_Link], [5], [], mixed⟩
def h_book_Book_Told : Hint := (.seq .d (.seq (.reg (.run [0, 4, 8, 16, 21, 24, 14, 31, 32, 36, 40, 44, 48] .nil)) .d))
theorem w_book_Book_Told : ∀ (a : Den [tPtr, (tInt .i64), S_api_Cap.ty]) (K : Den [tBool] → HP) (h : H), m_book_Book_Told a.1 a.2.1 a.2.2 K h = wpF x_book_Book_Told Try.f64 [tPtr, (tInt .i64), S_api_Cap.ty] [tBool] h_book_Book_Told a K h := fun a K h => by kernel_rfl
def s_book_Book_Told : Spec Try.prog := mkSpec x_book_Book_Told 64 Try.f64 [tPtr, (tInt .i64), S_api_Cap.ty] [tBool] false h_book_Book_Told (fun a => m_book_Book_Told a.1 a.2.1 a.2.2) w_book_Book_Told callee64 rfl
/-! sesame/book.need -/
def m_book_need (a0 : Int) (K : (Int) → H → Prop) : H → Prop :=
  mIf (decide (a0 = 2)) (
    K 16
    ) (
    mIf (decide (a0 = 3)) (
      K 4
      ) (
      mIf (decide (a0 = 4)) (
        K 8
        ) (
        mIf (decide (a0 = 5)) (
          K 1
          ) (
          mIf (decide (a0 = 6)) (
            K 2
            ) (
            K 0
            )
          )
        )
      )
    )
def x_book_need : Cx Try.prog := ⟨tys, [], [], [], mixed⟩
def h_book_need : Hint := .d
theorem w_book_need : ∀ (a : Den [(tInt .i64)]) (K : Den [(tInt .i64)] → HP) (h : H), m_book_need a K h = wpF x_book_need Try.f78 [(tInt .i64)] [(tInt .i64)] h_book_need a K h := fun a K h => by kernel_rfl
def s_book_need : Spec Try.prog := mkSpec x_book_need 78 Try.f78 [(tInt .i64)] [(tInt .i64)] true h_book_need (fun a => m_book_need a) w_book_need callee78 rfl
/-! sesame/book.given -/
def m_book_given (a0 : S_api_Call) (K : (Bool) → H → Prop) : H → Prop :=
  K (a0.Given || ((!decide (a0.Op = 5)) && (!decide (a0.Op = 6))))
def x_book_given : Cx Try.prog := ⟨tys, [], [1], [], mixed⟩
def h_book_given : Hint := (.seq .d (.seq (.reg (.run [3, 7, 11] (.sel 5 14 32704 (.run [15, 19, 23, 27, 31, 35, 39, 43, 47] .nil) (.run [15, 19, 23, 27] (.sel 9 13 15360 (.run [31, 35, 39, 43] .nil) (.run [31, 35, 39, 43] .nil) (.run [47] .nil))) (.run [51] .nil)))) .d))
theorem w_book_given : ∀ (a : Den [S_api_Call.ty]) (K : Den [tBool] → HP) (h : H), m_book_given a K h = wpF x_book_given Try.f79 [S_api_Call.ty] [tBool] h_book_given a K h := fun a K h => by kernel_rfl
def s_book_given : Spec Try.prog := mkSpec x_book_given 79 Try.f79 [S_api_Call.ty] [tBool] true h_book_given (fun a => m_book_given a) w_book_given callee79 rfl
/-! (*sesame/book.Book).Honest -/
def m_book_Book_Honest (a0 : Option Addr) (a1 : S_api_Call) (K : (Bool) → H → Prop) : H → Prop :=
  mJoin (fun (s6 : Bool) =>
    mIf (!s6) (
      K true
      ) (
      m_book_Book_Told a0 a1.By a1.Cap fun r9 =>
      K r9
      )
    ) (fun j7 =>
    mIf (decide (a1.Op = 7)) (
      j7 true
      ) (
      mPure (m_book_need a1.Op) fun r10 =>
      mIf (!decide (r10 = 0)) (
        mPure (m_book_given a1) fun r12 =>
        j7 r12
        ) (
        j7 false
        )
      ))
def x_book_Book_Honest : Cx Try.prog := ⟨tys, [s_book_Book_Told, s_book_need, s_book_given], [3], [], mixed⟩
def h_book_Book_Honest : Hint := (.seq .d (.seq (.reg (.run [3, 7, 11, 15] (.join [.slot 18 tBool] 523264 [] (.split 9 (.run [19, 23, 27, 31, 35, 39, 43, 47, 51] .nil) (.run [19, 23, 27, 31, 35] (.split 14 (.run [39, 43, 47, 51] .nil) (.run [39, 43, 47, 51] .nil)))) (.run [55] .nil)))) (.seq (.reg (.run [3, 7, 11] (.split 21 (.run [15, 19, 23, 27, 31, 35, 39, 43] .nil) (.run [15, 19, 23, 27, 31, 35, 39, 43] .nil)))) .d)))
theorem w_book_Book_Honest : ∀ (a : Den [tPtr, S_api_Call.ty]) (K : Den [tBool] → HP) (h : H), m_book_Book_Honest a.1 a.2 K h = wpF x_book_Book_Honest Try.f65 [tPtr, S_api_Call.ty] [tBool] h_book_Book_Honest a K h := fun a K h => by kernel_rfl
def s_book_Book_Honest : Spec Try.prog := mkSpec x_book_Book_Honest 65 Try.f65 [tPtr, S_api_Call.ty] [tBool] false h_book_Book_Honest (fun a => m_book_Book_Honest a.1 a.2) w_book_Book_Honest callee65 rfl
end Go.Proofs.Ytnmaknkbdfpbkaa.K
