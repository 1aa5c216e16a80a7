/- Functions of the program, printed by a program of mine: slices_Index_api_Word_api_Word, slices_Contains_api_Word_api_Word, slices_Clone_book_Link_book_Link, slices_Clone_api_Cap_api_Cap, slices_Delete_api_Cap_api_Cap -/
import Derived.Test.YtnmaknkbdfpbkaaT
namespace Go.Proofs.Ytnmaknkbdfpbkaa.K
open Go Go.Proofs
/-! slices.Index[[]sesame/api.Word,sesame/api.Word] -/
def m_slices_Index_api_Word_api_Word (a0 : Sl) (a1 : S_api_Word) (K : (Int) → H → Prop) : H → Prop :=
  mLoop (fun (rec2 : Int → H → Prop) (s1 : Int) =>
    mIf (decide (s1 < (a0.len : Int))) (
      mIdx a0 s1 2 fun ad3 =>
      mLoad S_api_Word.cells ad3 fun x4 =>
      mIf ((decide (a1.Hi = x4.Hi)) && ((decide (a1.Lo = x4.Lo)) && true)) (
        K s1
        ) (
        rec2 (iAdd .i64 s1 1)
        )
      ) (
      K (-1)
      )
    ) 0
def x_slices_Index_api_Word_api_Word : Cx Try.prog := ⟨tys, [], [3], [], mixed⟩
def h_slices_Index_api_Word_api_Word : Hint := (.seq .d (.seq (.seq .d (.blk (.loop [.slot 8 (tInt .i64)] 524080 [] (.seq .d (.seq .d (.seq (.blk (.seq .d (.seq (.reg (.run [4, 8, 12, 1, 18, 20] .nil)) .d))) .d)))))) .d))
theorem w_slices_Index_api_Word_api_Word : ∀ (a : Den [tSl, S_api_Word.ty]) (K : Den [(tInt .i64)] → HP) (h : H), m_slices_Index_api_Word_api_Word a.1 a.2 K h = wpF x_slices_Index_api_Word_api_Word Try.f76 [tSl, S_api_Word.ty] [(tInt .i64)] h_slices_Index_api_Word_api_Word a K h := fun a K h => by kernel_rfl
def s_slices_Index_api_Word_api_Word : Spec Try.prog := mkSpec x_slices_Index_api_Word_api_Word 76 Try.f76 [tSl, S_api_Word.ty] [(tInt .i64)] false h_slices_Index_api_Word_api_Word (fun a => m_slices_Index_api_Word_api_Word a.1 a.2) w_slices_Index_api_Word_api_Word callee76 rfl
/-! slices.Contains[[]sesame/api.Word,sesame/api.Word] -/
def m_slices_Contains_api_Word_api_Word (a0 : Sl) (a1 : S_api_Word) (K : (Bool) → H → Prop) : H → Prop :=
  m_slices_Index_api_Word_api_Word a0 a1 fun r1 =>
  K (decide (0 ≤ r1))
def x_slices_Contains_api_Word_api_Word : Cx Try.prog := ⟨tys, [s_slices_Index_api_Word_api_Word], [3], [], mixed⟩
def h_slices_Contains_api_Word_api_Word : Hint := .d
theorem w_slices_Contains_api_Word_api_Word : ∀ (a : Den [tSl, S_api_Word.ty]) (K : Den [tBool] → HP) (h : H), m_slices_Contains_api_Word_api_Word a.1 a.2 K h = wpF x_slices_Contains_api_Word_api_Word Try.f57 [tSl, S_api_Word.ty] [tBool] h_slices_Contains_api_Word_api_Word a K h := fun a K h => by kernel_rfl
def s_slices_Contains_api_Word_api_Word : Spec Try.prog := mkSpec x_slices_Contains_api_Word_api_Word 57 Try.f57 [tSl, S_api_Word.ty] [tBool] false h_slices_Contains_api_Word_api_Word (fun a => m_slices_Contains_api_Word_api_Word a.1 a.2) w_slices_Contains_api_Word_api_Word callee57 rfl
/-! slices.Clone[[]sesame/book.Link,sesame/book.Link] -/
def m_slices_Clone_book_Link_book_Link (a0 : Sl) (K : (Sl) → H → Prop) : H → Prop :=
  mIf (a0.a.isNone) (
    K Sl.nil
    ) (
    mNew 93 #[] fun ad1 =>
    mAppend 93 7 56 #[(Value.int .i64 0), (Value.int .i64 0), (Value.int .i64 0), (Value.int .i64 0), (Value.int .i64 0), (Value.int .u64 0), (Value.int .u64 0)] (⟨some ad1, 0, 0⟩ : Sl) a0 fun s2 =>
    K s2
    )
def x_slices_Clone_book_Link_book_Link : Cx Try.prog := ⟨tys, [], [], [], mixed⟩
def h_slices_Clone_book_Link_book_Link : Hint := .d
theorem w_slices_Clone_book_Link_book_Link : ∀ (a : Den [tSl]) (K : Den [tSl] → HP) (h : H), m_slices_Clone_book_Link_book_Link a K h = wpF x_slices_Clone_book_Link_book_Link Try.f75 [tSl] [tSl] h_slices_Clone_book_Link_book_Link a K h := fun a K h => by kernel_rfl
def s_slices_Clone_book_Link_book_Link : Spec Try.prog := mkSpec x_slices_Clone_book_Link_book_Link 75 Try.f75 [tSl] [tSl] false h_slices_Clone_book_Link_book_Link (fun a => m_slices_Clone_book_Link_book_Link a) w_slices_Clone_book_Link_book_Link callee75 rfl
/-! slices.Clone[[]sesame/api.Cap,sesame/api.Cap] -/
def m_slices_Clone_api_Cap_api_Cap (a0 : Sl) (K : (Sl) → H → Prop) : H → Prop :=
  mIf (a0.a.isNone) (
    K Sl.nil
    ) (
    mNew 81 #[] fun ad1 =>
    mAppend 81 3 24 #[(Value.int .i64 0), (Value.int .u64 0), (Value.int .u64 0)] (⟨some ad1, 0, 0⟩ : Sl) a0 fun s2 =>
    K s2
    )
def x_slices_Clone_api_Cap_api_Cap : Cx Try.prog := ⟨tys, [], [], [], mixed⟩
def h_slices_Clone_api_Cap_api_Cap : Hint := .d
theorem w_slices_Clone_api_Cap_api_Cap : ∀ (a : Den [tSl]) (K : Den [tSl] → HP) (h : H), m_slices_Clone_api_Cap_api_Cap a K h = wpF x_slices_Clone_api_Cap_api_Cap Try.f72 [tSl] [tSl] h_slices_Clone_api_Cap_api_Cap a K h := fun a K h => by kernel_rfl
def s_slices_Clone_api_Cap_api_Cap : Spec Try.prog := mkSpec x_slices_Clone_api_Cap_api_Cap 72 Try.f72 [tSl] [tSl] false h_slices_Clone_api_Cap_api_Cap (fun a => m_slices_Clone_api_Cap_api_Cap a) w_slices_Clone_api_Cap_api_Cap callee72 rfl
/-! slices.Delete[[]sesame/api.Cap,sesame/api.Cap] -/
def m_slices_Delete_api_Cap_api_Cap (a0 : Sl) (a1 : Int) (a2 : Int) (K : (Sl) → H → Prop) : H → Prop :=
  mCut3 a0 a1 a2 (a0.len : Int) 3 fun _ =>
  mIf (decide (a1 = a2)) (
    K a0
    ) (
    mCut a0 0 a1 3 fun s2 =>
    mCut a0 a2 (a0.len : Int) 3 fun s3 =>
    mAppend 81 3 24 #[(Value.int .i64 0), (Value.int .u64 0), (Value.int .u64 0)] s2 s3 fun s4 =>
    mCut s4 (s4.len : Int) (a0.len : Int) 3 fun s5 =>
    mClear #[(Value.int .i64 0), (Value.int .u64 0), (Value.int .u64 0)] s5 <|
    K s4
    )
def x_slices_Delete_api_Cap_api_Cap : Cx Try.prog := ⟨tys, [], [], [], mixed⟩
def h_slices_Delete_api_Cap_api_Cap : Hint := (.seq .d (.seq .d (.seq .d (.seq .d (.seq (.reg (.run [0, 4, 8, 12, 16, 20, 27, 28] .nil)) .d)))))
theorem w_slices_Delete_api_Cap_api_Cap : ∀ (a : Den [tSl, (tInt .i64), (tInt .i64)]) (K : Den [tSl] → HP) (h : H), m_slices_Delete_api_Cap_api_Cap a.1 a.2.1 a.2.2 K h = wpF x_slices_Delete_api_Cap_api_Cap Try.f73 [tSl, (tInt .i64), (tInt .i64)] [tSl] h_slices_Delete_api_Cap_api_Cap a K h := fun a K h => by kernel_rfl
def s_slices_Delete_api_Cap_api_Cap : Spec Try.prog := mkSpec x_slices_Delete_api_Cap_api_Cap 73 Try.f73 [tSl, (tInt .i64), (tInt .i64)] [tSl] false h_slices_Delete_api_Cap_api_Cap (fun a => m_slices_Delete_api_Cap_api_Cap a.1 a.2.1 a.2.2) w_slices_Delete_api_Cap_api_Cap callee73 rfl
end Go.Proofs.Ytnmaknkbdfpbkaa.K
