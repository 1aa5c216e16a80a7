/- Functions of the program, printed by a program of mine: slices_Clone_api_Cap_api_Cap, slices_Clone_book_Link_book_Link, slices_Delete_api_Cap_api_Cap, slices_Index_api_Word_api_Word, slices_Contains_api_Word_api_Word, slices_Reverse_int_int, slices_Clone_int_int, slices_Index_int_int, slices_Delete_int_int, slices_Clone_api_Word_api_Word, slices_IndexFunc_int_int, slices_ContainsFunc_int_int, slices_IndexFunc_plain_token_plain_token, slices_DeleteFunc_plain_token_plain_token, slices_Contains_int_int, slices_Clone_byte_byte, slices_AppendSeq_int_int, slices_Collect_int, slices_insertionSortOrdered_int, slices_siftDownOrdered_int, slices_heapSortOrdered_int, slices_nextPowerOfTwo, slices_xorshift_Next, slices_breakPatternsOrdered_int, slices_order2Ordered_int, slices_medianOrdered_int, slices_medianAdjacentOrdered_int, slices_choosePivotOrdered_int -/
import Derived.Test.YtiajjcboddaenaaT
import Derived.Test.YtiajjcboddaenaaFbits
import Derived.Test.YtiajjcboddaenaaFcmp
namespace Go.Proofs.Ytiajjcboddaenaa.K
open Go Go.Proofs
/-! slices.Clone[[]sesame/api.Cap,sesame/api.Cap] -/
def m_slices_Clone_api_Cap_api_Cap (a0 : Sl) (K : (Sl) → H → Prop) : H → Prop :=
  mIf (a0.a.isNone) (
    K Sl.nil
    ) (
    mNew 39 #[] fun ad1 =>
    mAppend 39 3 24 #[(Value.int .i64 0), (Value.int .u64 0), (Value.int .u64 0)] (⟨some ad1, 0, 0⟩ : Sl) a0 fun s2 =>
    K s2
    )
def x_slices_Clone_api_Cap_api_Cap : Cx Try.prog := ⟨tys, [], [], [], mixed⟩
def h_slices_Clone_api_Cap_api_Cap : Hint := .d
theorem w_slices_Clone_api_Cap_api_Cap : ∀ (a : Den [tSl]) (K : Den [tSl] → HP) (h : H), m_slices_Clone_api_Cap_api_Cap a K h = wpF x_slices_Clone_api_Cap_api_Cap Try.f164 [tSl] [tSl] h_slices_Clone_api_Cap_api_Cap a K h := fun a K h => by kernel_rfl
def s_slices_Clone_api_Cap_api_Cap : Spec Try.prog := mkSpec x_slices_Clone_api_Cap_api_Cap 164 Try.f164 [tSl] [tSl] false h_slices_Clone_api_Cap_api_Cap (fun a => m_slices_Clone_api_Cap_api_Cap a) w_slices_Clone_api_Cap_api_Cap callee164 rfl
/-! slices.Clone[[]sesame/book.Link,sesame/book.Link] -/
def m_slices_Clone_book_Link_book_Link (a0 : Sl) (K : (Sl) → H → Prop) : H → Prop :=
  mIf (a0.a.isNone) (
    K Sl.nil
    ) (
    mNew 159 #[] fun ad1 =>
    mAppend 159 7 56 #[(Value.int .i64 0), (Value.int .i64 0), (Value.int .i64 0), (Value.int .i64 0), (Value.int .i64 0), (Value.int .u64 0), (Value.int .u64 0)] (⟨some ad1, 0, 0⟩ : Sl) a0 fun s2 =>
    K s2
    )
def x_slices_Clone_book_Link_book_Link : Cx Try.prog := ⟨tys, [], [], [], mixed⟩
def h_slices_Clone_book_Link_book_Link : Hint := .d
theorem w_slices_Clone_book_Link_book_Link : ∀ (a : Den [tSl]) (K : Den [tSl] → HP) (h : H), m_slices_Clone_book_Link_book_Link a K h = wpF x_slices_Clone_book_Link_book_Link Try.f178 [tSl] [tSl] h_slices_Clone_book_Link_book_Link a K h := fun a K h => by kernel_rfl
def s_slices_Clone_book_Link_book_Link : Spec Try.prog := mkSpec x_slices_Clone_book_Link_book_Link 178 Try.f178 [tSl] [tSl] false h_slices_Clone_book_Link_book_Link (fun a => m_slices_Clone_book_Link_book_Link a) w_slices_Clone_book_Link_book_Link callee178 rfl
/-! slices.Delete[[]sesame/api.Cap,sesame/api.Cap] -/
def m_slices_Delete_api_Cap_api_Cap (a0 : Sl) (a1 : Int) (a2 : Int) (K : (Sl) → H → Prop) : H → Prop :=
  mCut3 a0 a1 a2 (a0.len : Int) 3 fun _ =>
  mIf (decide (a1 = a2)) (
    K a0
    ) (
    mCut a0 0 a1 3 fun s2 =>
    mCut a0 a2 (a0.len : Int) 3 fun s3 =>
    mAppend 39 3 24 #[(Value.int .i64 0), (Value.int .u64 0), (Value.int .u64 0)] s2 s3 fun s4 =>
    mCut s4 (s4.len : Int) (a0.len : Int) 3 fun s5 =>
    mClear #[(Value.int .i64 0), (Value.int .u64 0), (Value.int .u64 0)] s5 <|
    K s4
    )
def x_slices_Delete_api_Cap_api_Cap : Cx Try.prog := ⟨tys, [], [], [], mixed⟩
def h_slices_Delete_api_Cap_api_Cap : Hint := (.seq .d (.seq .d (.seq .d (.seq .d (.seq (.reg (.run [0, 4, 8, 12, 16, 20, 27, 28] .nil)) .d)))))
theorem w_slices_Delete_api_Cap_api_Cap : ∀ (a : Den [tSl, (tInt .i64), (tInt .i64)]) (K : Den [tSl] → HP) (h : H), m_slices_Delete_api_Cap_api_Cap a.1 a.2.1 a.2.2 K h = wpF x_slices_Delete_api_Cap_api_Cap Try.f176 [tSl, (tInt .i64), (tInt .i64)] [tSl] h_slices_Delete_api_Cap_api_Cap a K h := fun a K h => by kernel_rfl
def s_slices_Delete_api_Cap_api_Cap : Spec Try.prog := mkSpec x_slices_Delete_api_Cap_api_Cap 176 Try.f176 [tSl, (tInt .i64), (tInt .i64)] [tSl] false h_slices_Delete_api_Cap_api_Cap (fun a => m_slices_Delete_api_Cap_api_Cap a.1 a.2.1 a.2.2) w_slices_Delete_api_Cap_api_Cap callee176 rfl
/-! slices.Index[[]sesame/api.Word,sesame/api.Word] -/
def m_slices_Index_api_Word_api_Word (a0 : Sl) (a1 : S_api_Word) (K : (Int) → H → Prop) : H → Prop :=
  mLoop (fun (rec2 : Int → H → Prop) (s1 : Int) =>
    mIf (decide (s1 < (a0.len : Int))) (
      mIdx a0 s1 2 fun ad3 =>
      mLoad S_api_Word.cells ad3 fun x4 =>
      mIf ((decide (a1.Hi = x4.Hi)) && ((decide (a1.Lo = x4.Lo)) && true)) (
        K s1
        ) (
        rec2 (iAdd .i64 s1 1)
        )
      ) (
      K (-1)
      )
    ) 0
def x_slices_Index_api_Word_api_Word : Cx Try.prog := ⟨tys, [], [3], [], mixed⟩
def h_slices_Index_api_Word_api_Word : Hint := (.seq .d (.seq (.seq .d (.blk (.loop [.slot 8 (tInt .i64)] 524080 [] (.seq .d (.seq .d (.seq (.blk (.seq .d (.seq (.reg (.run [4, 8, 12, 1, 18, 20] .nil)) .d))) .d)))))) .d))
theorem w_slices_Index_api_Word_api_Word : ∀ (a : Den [tSl, S_api_Word.ty]) (K : Den [(tInt .i64)] → HP) (h : H), m_slices_Index_api_Word_api_Word a.1 a.2 K h = wpF x_slices_Index_api_Word_api_Word Try.f240 [tSl, S_api_Word.ty] [(tInt .i64)] h_slices_Index_api_Word_api_Word a K h := fun a K h => by kernel_rfl
def s_slices_Index_api_Word_api_Word : Spec Try.prog := mkSpec x_slices_Index_api_Word_api_Word 240 Try.f240 [tSl, S_api_Word.ty] [(tInt .i64)] false h_slices_Index_api_Word_api_Word (fun a => m_slices_Index_api_Word_api_Word a.1 a.2) w_slices_Index_api_Word_api_Word callee240 rfl
/-! slices.Contains[[]sesame/api.Word,sesame/api.Word] -/
def m_slices_Contains_api_Word_api_Word (a0 : Sl) (a1 : S_api_Word) (K : (Bool) → H → Prop) : H → Prop :=
  m_slices_Index_api_Word_api_Word a0 a1 fun r1 =>
  K (decide (0 ≤ r1))
def x_slices_Contains_api_Word_api_Word : Cx Try.prog := ⟨tys, [s_slices_Index_api_Word_api_Word], [3], [], mixed⟩
def h_slices_Contains_api_Word_api_Word : Hint := .d
theorem w_slices_Contains_api_Word_api_Word : ∀ (a : Den [tSl, S_api_Word.ty]) (K : Den [tBool] → HP) (h : H), m_slices_Contains_api_Word_api_Word a.1 a.2 K h = wpF x_slices_Contains_api_Word_api_Word Try.f196 [tSl, S_api_Word.ty] [tBool] h_slices_Contains_api_Word_api_Word a K h := fun a K h => by kernel_rfl
def s_slices_Contains_api_Word_api_Word : Spec Try.prog := mkSpec x_slices_Contains_api_Word_api_Word 196 Try.f196 [tSl, S_api_Word.ty] [tBool] false h_slices_Contains_api_Word_api_Word (fun a => m_slices_Contains_api_Word_api_Word a.1 a.2) w_slices_Contains_api_Word_api_Word callee196 rfl
/-! slices.Reverse[[]int,int] -/
def m_slices_Reverse_int_int (a0 : Sl) (K : (Unit) → H → Prop) : H → Prop :=
  mLoop (fun (rec2 : (Int × Int) → H → Prop) (s1 : Int × Int) =>
    mIf (decide (s1.1 < s1.2)) (
      mIdx a0 s1.2 1 fun ad3 =>
      mIdx a0 s1.1 1 fun ad4 =>
      mLoad (cInt .i64) ad3 fun x5 =>
      mLoad (cInt .i64) ad4 fun x6 =>
      mIdx a0 s1.1 1 fun ad7 =>
      mStore ad7 [(Value.int .i64 x5)] <|
      mIdx a0 s1.2 1 fun ad8 =>
      mStore ad8 [(Value.int .i64 x6)] <|
      rec2 ((iAdd .i64 s1.1 1), (iSub .i64 s1.2 1))
      ) (
      K ()
      )
    ) (0, (iSub .i64 (a0.len : Int) 1))
def x_slices_Reverse_int_int : Cx Try.prog := ⟨tys, [], [], [], mixed⟩
def h_slices_Reverse_int_int : Hint := (.seq .d (.blk (.loop [.slot 2 (tInt .i64), .slot 3 (tInt .i64)] 268435340 [] (.seq .d (.seq (.blk (.reg (.run [0, 4, 8, 12, 16, 20, 24, 32, 36, 40, 30, 46, 48, 55, 56, 63] .nil))) .d)))))
theorem w_slices_Reverse_int_int : ∀ (a : Den [tSl]) (K : Den [] → HP) (h : H), m_slices_Reverse_int_int a K h = wpF x_slices_Reverse_int_int Try.f208 [tSl] [] h_slices_Reverse_int_int a K h := fun a K h => by kernel_rfl
def s_slices_Reverse_int_int : Spec Try.prog := mkSpec x_slices_Reverse_int_int 208 Try.f208 [tSl] [] false h_slices_Reverse_int_int (fun a => m_slices_Reverse_int_int a) w_slices_Reverse_int_int callee208 rfl
/-! slices.Clone[[]int,int] -/
def m_slices_Clone_int_int (a0 : Sl) (K : (Sl) → H → Prop) : H → Prop :=
  mIf (a0.a.isNone) (
    K Sl.nil
    ) (
    mNew 3 #[] fun ad1 =>
    mAppend 3 1 8 #[(Value.int .i64 0)] (⟨some ad1, 0, 0⟩ : Sl) a0 fun s2 =>
    K s2
    )
def x_slices_Clone_int_int : Cx Try.prog := ⟨tys, [], [], [], mixed⟩
def h_slices_Clone_int_int : Hint := .d
theorem w_slices_Clone_int_int : ∀ (a : Den [tSl]) (K : Den [tSl] → HP) (h : H), m_slices_Clone_int_int a K h = wpF x_slices_Clone_int_int Try.f262 [tSl] [tSl] h_slices_Clone_int_int a K h := fun a K h => by kernel_rfl
def s_slices_Clone_int_int : Spec Try.prog := mkSpec x_slices_Clone_int_int 262 Try.f262 [tSl] [tSl] false h_slices_Clone_int_int (fun a => m_slices_Clone_int_int a) w_slices_Clone_int_int callee262 rfl
/-! slices.Index[[]int,int] -/
def m_slices_Index_int_int (a0 : Sl) (a1 : Int) (K : (Int) → H → Prop) : H → Prop :=
  mLoop (fun (rec2 : Int → H → Prop) (s1 : Int) =>
    mIf (decide (s1 < (a0.len : Int))) (
      mIdx a0 s1 1 fun ad3 =>
      mLoad (cInt .i64) ad3 fun x4 =>
      mIf (decide (a1 = x4)) (
        K s1
        ) (
        rec2 (iAdd .i64 s1 1)
        )
      ) (
      K (-1)
      )
    ) 0
def x_slices_Index_int_int : Cx Try.prog := ⟨tys, [], [], [], mixed⟩
def h_slices_Index_int_int : Hint := (.seq .d (.seq (.seq .d (.blk (.loop [.slot 8 (tInt .i64)] 524080 [] .d))) .d))
theorem w_slices_Index_int_int : ∀ (a : Den [tSl, (tInt .i64)]) (K : Den [(tInt .i64)] → HP) (h : H), m_slices_Index_int_int a.1 a.2 K h = wpF x_slices_Index_int_int Try.f210 [tSl, (tInt .i64)] [(tInt .i64)] h_slices_Index_int_int a K h := fun a K h => by kernel_rfl
def s_slices_Index_int_int : Spec Try.prog := mkSpec x_slices_Index_int_int 210 Try.f210 [tSl, (tInt .i64)] [(tInt .i64)] false h_slices_Index_int_int (fun a => m_slices_Index_int_int a.1 a.2) w_slices_Index_int_int callee210 rfl
/-! slices.Delete[[]int,int] -/
def m_slices_Delete_int_int (a0 : Sl) (a1 : Int) (a2 : Int) (K : (Sl) → H → Prop) : H → Prop :=
  mCut3 a0 a1 a2 (a0.len : Int) 1 fun _ =>
  mIf (decide (a1 = a2)) (
    K a0
    ) (
    mCut a0 0 a1 1 fun s2 =>
    mCut a0 a2 (a0.len : Int) 1 fun s3 =>
    mAppend 3 1 8 #[(Value.int .i64 0)] s2 s3 fun s4 =>
    mCut s4 (s4.len : Int) (a0.len : Int) 1 fun s5 =>
    mClear #[(Value.int .i64 0)] s5 <|
    K s4
    )
def x_slices_Delete_int_int : Cx Try.prog := ⟨tys, [], [], [], mixed⟩
def h_slices_Delete_int_int : Hint := (.seq .d (.seq .d (.seq .d (.seq .d (.seq (.reg (.run [0, 4, 8, 12, 16, 20, 27, 28] .nil)) .d)))))
theorem w_slices_Delete_int_int : ∀ (a : Den [tSl, (tInt .i64), (tInt .i64)]) (K : Den [tSl] → HP) (h : H), m_slices_Delete_int_int a.1 a.2.1 a.2.2 K h = wpF x_slices_Delete_int_int Try.f211 [tSl, (tInt .i64), (tInt .i64)] [tSl] h_slices_Delete_int_int a K h := fun a K h => by kernel_rfl
def s_slices_Delete_int_int : Spec Try.prog := mkSpec x_slices_Delete_int_int 211 Try.f211 [tSl, (tInt .i64), (tInt .i64)] [tSl] false h_slices_Delete_int_int (fun a => m_slices_Delete_int_int a.1 a.2.1 a.2.2) w_slices_Delete_int_int callee211 rfl
/-! slices.Clone[[]sesame/api.Word,sesame/api.Word] -/
def m_slices_Clone_api_Word_api_Word (a0 : Sl) (K : (Sl) → H → Prop) : H → Prop :=
  mIf (a0.a.isNone) (
    K Sl.nil
    ) (
    mNew 37 #[] fun ad1 =>
    mAppend 37 2 16 #[(Value.int .u64 0), (Value.int .u64 0)] (⟨some ad1, 0, 0⟩ : Sl) a0 fun s2 =>
    K s2
    )
def x_slices_Clone_api_Word_api_Word : Cx Try.prog := ⟨tys, [], [], [], mixed⟩
def h_slices_Clone_api_Word_api_Word : Hint := .d
theorem w_slices_Clone_api_Word_api_Word : ∀ (a : Den [tSl]) (K : Den [tSl] → HP) (h : H), m_slices_Clone_api_Word_api_Word a K h = wpF x_slices_Clone_api_Word_api_Word Try.f149 [tSl] [tSl] h_slices_Clone_api_Word_api_Word a K h := fun a K h => by kernel_rfl
def s_slices_Clone_api_Word_api_Word : Spec Try.prog := mkSpec x_slices_Clone_api_Word_api_Word 149 Try.f149 [tSl] [tSl] false h_slices_Clone_api_Word_api_Word (fun a => m_slices_Clone_api_Word_api_Word a) w_slices_Clone_api_Word_api_Word callee149 rfl
/-! slices.IndexFunc[[]int,int] -/
def m_slices_IndexFunc_int_int (a0 : Sl) (a1 : PV) (K : (Int) → H → Prop) : H → Prop :=
  mLoop (fun (rec2 : Int → H → Prop) (s1 : Int) =>
    mIf (decide (s1 < (a0.len : Int))) (
      mIdx a0 s1 1 fun ad3 =>
      mLoad (cInt .i64) ad3 fun x4 =>
      mCallV (T := Bool) Try.prog (fun r => (Value.bool r)) a1.1 [(Value.int .i64 x4)] fun r5 =>
      mIf r5 (
        K s1
        ) (
        rec2 (iAdd .i64 s1 1)
        )
      ) (
      K (-1)
      )
    ) 0
def x_slices_IndexFunc_int_int : Cx Try.prog := ⟨tys, [], [], [], mixed⟩
def h_slices_IndexFunc_int_int : Hint := (.seq .d (.seq (.seq .d (.blk (.loop [.slot 8 (tInt .i64)] 524080 [] .d))) .d))
theorem w_slices_IndexFunc_int_int : ∀ (a : Den [tSl, tPV]) (K : Den [(tInt .i64)] → HP) (h : H), m_slices_IndexFunc_int_int a.1 a.2 K h = wpF x_slices_IndexFunc_int_int Try.f252 [tSl, tPV] [(tInt .i64)] h_slices_IndexFunc_int_int a K h := fun a K h => by kernel_rfl
def s_slices_IndexFunc_int_int : Spec Try.prog := mkSpec x_slices_IndexFunc_int_int 252 Try.f252 [tSl, tPV] [(tInt .i64)] false h_slices_IndexFunc_int_int (fun a => m_slices_IndexFunc_int_int a.1 a.2) w_slices_IndexFunc_int_int callee252 rfl
/-! slices.ContainsFunc[[]int,int] -/
def m_slices_ContainsFunc_int_int (a0 : Sl) (a1 : PV) (K : (Bool) → H → Prop) : H → Prop :=
  m_slices_IndexFunc_int_int a0 a1 fun r1 =>
  K (decide (0 ≤ r1))
def x_slices_ContainsFunc_int_int : Cx Try.prog := ⟨tys, [s_slices_IndexFunc_int_int], [], [], mixed⟩
def h_slices_ContainsFunc_int_int : Hint := .d
theorem w_slices_ContainsFunc_int_int : ∀ (a : Den [tSl, tPV]) (K : Den [tBool] → HP) (h : H), m_slices_ContainsFunc_int_int a.1 a.2 K h = wpF x_slices_ContainsFunc_int_int Try.f217 [tSl, tPV] [tBool] h_slices_ContainsFunc_int_int a K h := fun a K h => by kernel_rfl
def s_slices_ContainsFunc_int_int : Spec Try.prog := mkSpec x_slices_ContainsFunc_int_int 217 Try.f217 [tSl, tPV] [tBool] false h_slices_ContainsFunc_int_int (fun a => m_slices_ContainsFunc_int_int a.1 a.2) w_slices_ContainsFunc_int_int callee217 rfl
/-! slices.IndexFunc[[]sesame/plain.token,sesame/plain.token] -/
def m_slices_IndexFunc_plain_token_plain_token (a0 : Sl) (a1 : PV) (K : (Int) → H → Prop) : H → Prop :=
  mLoop (fun (rec2 : Int → H → Prop) (s1 : Int) =>
    mIf (decide (s1 < (a0.len : Int))) (
      mIdx a0 s1 6 fun ad3 =>
      mLoad S_plain_token.cells ad3 fun x4 =>
      mCallV (T := Bool) Try.prog (fun r => (Value.bool r)) a1.1 [(S_plain_token.val x4)] fun r5 =>
      mIf r5 (
        K s1
        ) (
        rec2 (iAdd .i64 s1 1)
        )
      ) (
      K (-1)
      )
    ) 0
def x_slices_IndexFunc_plain_token_plain_token : Cx Try.prog := ⟨tys, [], [], [], mixed⟩
def h_slices_IndexFunc_plain_token_plain_token : Hint := (.seq .d (.seq (.seq .d (.blk (.loop [.slot 8 (tInt .i64)] 524080 [] .d))) .d))
theorem w_slices_IndexFunc_plain_token_plain_token : ∀ (a : Den [tSl, tPV]) (K : Den [(tInt .i64)] → HP) (h : H), m_slices_IndexFunc_plain_token_plain_token a.1 a.2 K h = wpF x_slices_IndexFunc_plain_token_plain_token Try.f254 [tSl, tPV] [(tInt .i64)] h_slices_IndexFunc_plain_token_plain_token a K h := fun a K h => by kernel_rfl
def s_slices_IndexFunc_plain_token_plain_token : Spec Try.prog := mkSpec x_slices_IndexFunc_plain_token_plain_token 254 Try.f254 [tSl, tPV] [(tInt .i64)] false h_slices_IndexFunc_plain_token_plain_token (fun a => m_slices_IndexFunc_plain_token_plain_token a.1 a.2) w_slices_IndexFunc_plain_token_plain_token callee254 rfl
/-! slices.DeleteFunc[[]sesame/plain.token,sesame/plain.token] -/
def m_slices_DeleteFunc_plain_token_plain_token (a0 : Sl) (a1 : PV) (K : (Sl) → H → Prop) : H → Prop :=
  m_slices_IndexFunc_plain_token_plain_token a0 a1 fun r1 =>
  mIf (decide (r1 = (-1))) (
    K a0
    ) (
    mLoop (fun (rec3 : (Int × Int) → H → Prop) (s2 : Int × Int) =>
      mIf (decide (s2.2 < (a0.len : Int))) (
        mIdx a0 s2.2 6 fun ad4 =>
        mLoad S_plain_token.cells ad4 fun x5 =>
        mCallV (T := Bool) Try.prog (fun r => (Value.bool r)) a1.1 [(S_plain_token.val x5)] fun r6 =>
        mIf (!r6) (
          mIdx a0 s2.1 6 fun ad7 =>
          mStore ad7 [(Value.int .i64 x5.xcap.Obj), (Value.int .u64 x5.xcap.Pass.Hi), (Value.int .u64 x5.xcap.Pass.Lo), (Value.int .i64 x5.xrights), (Value.int .i64 x5.xname), (Value.int .i64 x5.xparent)] <|
          rec3 ((iAdd .i64 s2.1 1), (iAdd .i64 s2.2 1))
          ) (
          rec3 (s2.1, (iAdd .i64 s2.2 1))
          )
        ) (
        mCut a0 s2.1 (a0.len : Int) 6 fun s8 =>
        mClear #[(Value.int .i64 0), (Value.int .u64 0), (Value.int .u64 0), (Value.int .i64 0), (Value.int .i64 0), (Value.int .i64 0)] s8 <|
        mCut a0 0 s2.1 6 fun s9 =>
        K s9
        )
      ) (r1, (iAdd .i64 r1 1))
    )
def x_slices_DeleteFunc_plain_token_plain_token : Cx Try.prog := ⟨tys, [s_slices_IndexFunc_plain_token_plain_token], [7], [], mixed⟩
def h_slices_DeleteFunc_plain_token_plain_token : Hint := (.seq .d (.seq .d (.seq .d (.seq (.seq .d (.blk (.loop [.slot 5 (tInt .i64), .slot 6 (tInt .i64)] 68719411424 [] .d))) .d))))
theorem w_slices_DeleteFunc_plain_token_plain_token : ∀ (a : Den [tSl, tPV]) (K : Den [tSl] → HP) (h : H), m_slices_DeleteFunc_plain_token_plain_token a.1 a.2 K h = wpF x_slices_DeleteFunc_plain_token_plain_token Try.f226 [tSl, tPV] [tSl] h_slices_DeleteFunc_plain_token_plain_token a K h := fun a K h => by kernel_rfl
def s_slices_DeleteFunc_plain_token_plain_token : Spec Try.prog := mkSpec x_slices_DeleteFunc_plain_token_plain_token 226 Try.f226 [tSl, tPV] [tSl] false h_slices_DeleteFunc_plain_token_plain_token (fun a => m_slices_DeleteFunc_plain_token_plain_token a.1 a.2) w_slices_DeleteFunc_plain_token_plain_token callee226 rfl
/-! slices.Contains[[]int,int] -/
def m_slices_Contains_int_int (a0 : Sl) (a1 : Int) (K : (Bool) → H → Prop) : H → Prop :=
  m_slices_Index_int_int a0 a1 fun r1 =>
  K (decide (0 ≤ r1))
def x_slices_Contains_int_int : Cx Try.prog := ⟨tys, [s_slices_Index_int_int], [], [], mixed⟩
def h_slices_Contains_int_int : Hint := .d
theorem w_slices_Contains_int_int : ∀ (a : Den [tSl, (tInt .i64)]) (K : Den [tBool] → HP) (h : H), m_slices_Contains_int_int a.1 a.2 K h = wpF x_slices_Contains_int_int Try.f225 [tSl, (tInt .i64)] [tBool] h_slices_Contains_int_int a K h := fun a K h => by kernel_rfl
def s_slices_Contains_int_int : Spec Try.prog := mkSpec x_slices_Contains_int_int 225 Try.f225 [tSl, (tInt .i64)] [tBool] false h_slices_Contains_int_int (fun a => m_slices_Contains_int_int a.1 a.2) w_slices_Contains_int_int callee225 rfl
/-! slices.Clone[[]byte,byte] -/
def m_slices_Clone_byte_byte (a0 : Sl) (K : (Sl) → H → Prop) : H → Prop :=
  mIf (a0.a.isNone) (
    K Sl.nil
    ) (
    mNew 5 #[] fun ad1 =>
    mAppend 5 1 1 #[(Value.int .u8 0)] (⟨some ad1, 0, 0⟩ : Sl) a0 fun s2 =>
    K s2
    )
def x_slices_Clone_byte_byte : Cx Try.prog := ⟨tys, [], [], [], mixed⟩
def h_slices_Clone_byte_byte : Hint := .d
theorem w_slices_Clone_byte_byte : ∀ (a : Den [tSl]) (K : Den [tSl] → HP) (h : H), m_slices_Clone_byte_byte a K h = wpF x_slices_Clone_byte_byte Try.f163 [tSl] [tSl] h_slices_Clone_byte_byte a K h := fun a K h => by kernel_rfl
def s_slices_Clone_byte_byte : Spec Try.prog := mkSpec x_slices_Clone_byte_byte 163 Try.f163 [tSl] [tSl] false h_slices_Clone_byte_byte (fun a => m_slices_Clone_byte_byte a) w_slices_Clone_byte_byte callee163 rfl
/-! slices.AppendSeq[[]int,int] -/
def m_slices_AppendSeq_int_int (a0 : Sl) (a1 : PV) (K : (Sl) → H → Prop) : H → Prop :=
  mNew 41 #[(Sl.val a0)] fun ad1 =>
  mRangeF (A := Int) Try.prog (fun x => [(Value.int .i64 x)]) a1.1 (fun x2 mid3 kj4 =>
    mid3 (
      mLoad cSl ad1 fun x6 =>
      mNew 3 #[(Value.int .i64 x2)] fun ad7 =>
      mAppend 3 1 8 #[(Value.int .i64 0)] x6 (⟨some ad7, 1, 1⟩ : Sl) fun s8 =>
      mStore ad1 [(Sl.val s8)] <|
      kj4 0
      )
    ) (fun j5 =>
    mIf (Nat.beq j5 0) (
      mLoad cSl ad1 fun x9 =>
      K x9
      ) (
      nope))
def x_slices_AppendSeq_int_int : Cx Try.prog := ⟨tys, [], [], [], mixed⟩
def h_slices_AppendSeq_int_int : Hint := (.seq .d (.seq (.seq .d (.blk (.rng [(tInt .i64)] [] false .d .d))) .d))
theorem w_slices_AppendSeq_int_int : ∀ (a : Den [tSl, tPV]) (K : Den [tSl] → HP) (h : H), m_slices_AppendSeq_int_int a.1 a.2 K h = wpF x_slices_AppendSeq_int_int Try.f256 [tSl, tPV] [tSl] h_slices_AppendSeq_int_int a K h := fun a K h => by kernel_rfl
def s_slices_AppendSeq_int_int : Spec Try.prog := mkSpec x_slices_AppendSeq_int_int 256 Try.f256 [tSl, tPV] [tSl] false h_slices_AppendSeq_int_int (fun a => m_slices_AppendSeq_int_int a.1 a.2) w_slices_AppendSeq_int_int callee256 rfl
/-! slices.Collect[int] -/
def m_slices_Collect_int (a0 : PV) (K : (Sl) → H → Prop) : H → Prop :=
  m_slices_AppendSeq_int_int Sl.nil a0 fun r1 =>
  K r1
def x_slices_Collect_int : Cx Try.prog := ⟨tys, [s_slices_AppendSeq_int_int], [], [], mixed⟩
def h_slices_Collect_int : Hint := .d
theorem w_slices_Collect_int : ∀ (a : Den [tPV]) (K : Den [tSl] → HP) (h : H), m_slices_Collect_int a K h = wpF x_slices_Collect_int Try.f231 [tPV] [tSl] h_slices_Collect_int a K h := fun a K h => by kernel_rfl
def s_slices_Collect_int : Spec Try.prog := mkSpec x_slices_Collect_int 231 Try.f231 [tPV] [tSl] false h_slices_Collect_int (fun a => m_slices_Collect_int a) w_slices_Collect_int callee231 rfl
/-! slices.insertionSortOrdered[int] -/
def m_slices_insertionSortOrdered_int (a0 : Sl) (a1 : Int) (a2 : Int) (K : (Unit) → H → Prop) : H → Prop :=
  mLoop (fun (rec2 : Int → H → Prop) (s1 : Int) =>
    mIf (decide (s1 < a2)) (
      mLoop (fun (rec4 : Int → H → Prop) (s3 : Int) =>
        mJoin (fun (s10 : Bool) =>
          mIf s10 (
            mIdx a0 (iSub .i64 s3 1) 1 fun ad12 =>
            mIdx a0 s3 1 fun ad13 =>
            mLoad (cInt .i64) ad12 fun x14 =>
            mLoad (cInt .i64) ad13 fun x15 =>
            mIdx a0 s3 1 fun ad16 =>
            mStore ad16 [(Value.int .i64 x14)] <|
            mIdx a0 (iSub .i64 s3 1) 1 fun ad17 =>
            mStore ad17 [(Value.int .i64 x15)] <|
            rec4 (iSub .i64 s3 1)
            ) (
            rec2 (iAdd .i64 s1 1)
            )
          ) (fun j11 =>
          mIf (decide (a1 < s3)) (
            mIdx a0 s3 1 fun ad18 =>
            mIdx a0 (iSub .i64 s3 1) 1 fun ad19 =>
            mLoad (cInt .i64) ad18 fun x20 =>
            mLoad (cInt .i64) ad19 fun x21 =>
            mPure (m_cmp_Less_int x20 x21) fun r22 =>
            j11 r22
            ) (
            j11 false
            ))
        ) s1
      ) (
      K ()
      )
    ) (iAdd .i64 a1 1)
def x_slices_insertionSortOrdered_int : Cx Try.prog := ⟨tys, [s_cmp_Less_int], [], [], mixed⟩
def h_slices_insertionSortOrdered_int : Hint := (.seq .d (.blk (.loop [.slot 6 (tInt .i64)] 562949953420480 [] (.seq .d (.seq (.blk (.seq .d (.blk (.loop [.slot 7 (tInt .i64)] 562949953355904 [] (.seq (.seq (.reg (.run [0, 4, 8, 12] (.join [.slot 30 tBool] 2146435072 [] (.split 19 (.run [16, 20, 24, 32, 36, 40, 44, 30, 50, 52, 56] .nil) (.run [16, 20, 24, 28, 32, 36, 40, 44, 48, 52, 56] .nil)) .nil))) .d) (.seq (.blk (.reg (.run [0, 4, 8, 12, 16, 20, 24, 28, 32, 40, 44, 48, 38, 54, 56, 63, 64, 71] .nil))) .d)))))) .d)))))
theorem w_slices_insertionSortOrdered_int : ∀ (a : Den [tSl, (tInt .i64), (tInt .i64)]) (K : Den [] → HP) (h : H), m_slices_insertionSortOrdered_int a.1 a.2.1 a.2.2 K h = wpF x_slices_insertionSortOrdered_int Try.f264 [tSl, (tInt .i64), (tInt .i64)] [] h_slices_insertionSortOrdered_int a K h := fun a K h => by kernel_rfl
def s_slices_insertionSortOrdered_int : Spec Try.prog := mkSpec x_slices_insertionSortOrdered_int 264 Try.f264 [tSl, (tInt .i64), (tInt .i64)] [] false h_slices_insertionSortOrdered_int (fun a => m_slices_insertionSortOrdered_int a.1 a.2.1 a.2.2) w_slices_insertionSortOrdered_int callee264 rfl
/-! slices.siftDownOrdered[int] -/
def m_slices_siftDownOrdered_int (a0 : Sl) (a1 : Int) (a2 : Int) (a3 : Int) (K : (Unit) → H → Prop) : H → Prop :=
  mLoop (fun (rec2 : Int → H → Prop) (s1 : Int) =>
    mIf (decide (a2 ≤ (iAdd .i64 (iMul .i64 2 s1) 1))) (
      K ()
      ) (
      mJoin (fun (s3 : Int) =>
        mIdx a0 (iAdd .i64 a3 s1) 1 fun ad5 =>
        mIdx a0 (iAdd .i64 a3 s3) 1 fun ad6 =>
        mLoad (cInt .i64) ad5 fun x7 =>
        mLoad (cInt .i64) ad6 fun x8 =>
        mPure (m_cmp_Less_int x7 x8) fun r9 =>
        mIf (!r9) (
          K ()
          ) (
          mIdx a0 (iAdd .i64 a3 s3) 1 fun ad10 =>
          mIdx a0 (iAdd .i64 a3 s1) 1 fun ad11 =>
          mLoad (cInt .i64) ad10 fun x12 =>
          mLoad (cInt .i64) ad11 fun x13 =>
          mIdx a0 (iAdd .i64 a3 s1) 1 fun ad14 =>
          mStore ad14 [(Value.int .i64 x12)] <|
          mIdx a0 (iAdd .i64 a3 s3) 1 fun ad15 =>
          mStore ad15 [(Value.int .i64 x13)] <|
          rec2 s3
          )
        ) (fun j4 =>
        mJoin (fun (s21 : Bool) =>
          mIf s21 (
            j4 (iAdd .i64 (iAdd .i64 (iMul .i64 2 s1) 1) 1)
            ) (
            j4 (iAdd .i64 (iMul .i64 2 s1) 1)
            )
          ) (fun j22 =>
          mIf (decide ((iAdd .i64 (iAdd .i64 (iMul .i64 2 s1) 1) 1) < a2)) (
            mIdx a0 (iAdd .i64 a3 (iAdd .i64 (iMul .i64 2 s1) 1)) 1 fun ad23 =>
            mIdx a0 (iAdd .i64 (iAdd .i64 a3 (iAdd .i64 (iMul .i64 2 s1) 1)) 1) 1 fun ad24 =>
            mLoad (cInt .i64) ad23 fun x25 =>
            mLoad (cInt .i64) ad24 fun x26 =>
            mPure (m_cmp_Less_int x25 x26) fun r27 =>
            j22 r27
            ) (
            j22 false
            ))
        )
      )
    ) a1
def x_slices_siftDownOrdered_int : Cx Try.prog := ⟨tys, [s_cmp_Less_int], [], [], mixed⟩
def h_slices_siftDownOrdered_int : Hint := (.seq .d (.blk (.loop [.slot 8 (tInt .i64)] 75557863725914323417856 [] (.blk (.seq .d (.seq .d (.join [.slot 9 (tInt .i64)] 549755683328 [] (.seq (.reg (.run [0, 4, 8, 12, 16] (.join [.slot 36 tBool] 137434759168 [] (.split 21 (.run [20, 24, 28, 32, 36, 44, 48, 52, 56, 60, 64, 42, 70, 72, 76] .nil) (.run [20, 24, 28, 32, 36, 40, 44, 48, 52, 56, 60, 64, 68, 72, 76] .nil)) .nil))) .d) (.seq (.seq (.reg (.run [0, 4, 8, 12, 16, 24, 28, 32, 36, 40, 22, 46, 48, 52] .nil)) .d) (.seq (.reg (.run [0, 4, 8, 12, 16, 20, 24, 28, 32, 36, 40, 44, 48, 56, 60, 64, 68, 72, 54, 78, 80, 87, 88, 95] .nil)) .d)))))))))
theorem w_slices_siftDownOrdered_int : ∀ (a : Den [tSl, (tInt .i64), (tInt .i64), (tInt .i64)]) (K : Den [] → HP) (h : H), m_slices_siftDownOrdered_int a.1 a.2.1 a.2.2.1 a.2.2.2 K h = wpF x_slices_siftDownOrdered_int Try.f275 [tSl, (tInt .i64), (tInt .i64), (tInt .i64)] [] h_slices_siftDownOrdered_int a K h := fun a K h => by kernel_rfl
def s_slices_siftDownOrdered_int : Spec Try.prog := mkSpec x_slices_siftDownOrdered_int 275 Try.f275 [tSl, (tInt .i64), (tInt .i64), (tInt .i64)] [] false h_slices_siftDownOrdered_int (fun a => m_slices_siftDownOrdered_int a.1 a.2.1 a.2.2.1 a.2.2.2) w_slices_siftDownOrdered_int callee275 rfl
/-! slices.heapSortOrdered[int] -/
def m_slices_heapSortOrdered_int (a0 : Sl) (a1 : Int) (a2 : Int) (K : (Unit) → H → Prop) : H → Prop :=
  mLoop (fun (rec2 : Int → H → Prop) (s1 : Int) =>
    mIf (decide (0 ≤ s1)) (
      m_slices_siftDownOrdered_int a0 s1 (iSub .i64 a2 a1) a1 fun _ =>
      rec2 (iSub .i64 s1 1)
      ) (
      mLoop (fun (rec5 : Int → H → Prop) (s4 : Int) =>
        mIf (decide (0 ≤ s4)) (
          mIdx a0 (iAdd .i64 a1 s4) 1 fun ad6 =>
          mIdx a0 a1 1 fun ad7 =>
          mLoad (cInt .i64) ad6 fun x8 =>
          mLoad (cInt .i64) ad7 fun x9 =>
          mIdx a0 a1 1 fun ad10 =>
          mStore ad10 [(Value.int .i64 x8)] <|
          mIdx a0 (iAdd .i64 a1 s4) 1 fun ad11 =>
          mStore ad11 [(Value.int .i64 x9)] <|
          m_slices_siftDownOrdered_int a0 0 s4 a1 fun _ =>
          rec5 (iSub .i64 s4 1)
          ) (
          K ()
          )
        ) (iSub .i64 (iSub .i64 a2 a1) 1)
      )
    ) (iQuo .i64 (iSub .i64 (iSub .i64 a2 a1) 1) 2)
def x_slices_heapSortOrdered_int : Cx Try.prog := ⟨tys, [s_slices_siftDownOrdered_int], [], [], mixed⟩
def h_slices_heapSortOrdered_int : Hint := (.seq .d (.seq .d (.seq .d (.seq (.seq .d (.blk (.loop [.slot 9 (tInt .i64)] 133956096 [] .d))) (.seq .d (.blk (.loop [.slot 10 (tInt .i64)] 72057593501058048 [] (.seq .d (.seq (.blk (.seq (.reg (.run [0, 4, 8, 12, 16, 20, 24, 28, 32, 36, 40, 48, 52, 56, 46, 62, 64, 71, 72, 79] .nil)) .d)) .d)))))))))
theorem w_slices_heapSortOrdered_int : ∀ (a : Den [tSl, (tInt .i64), (tInt .i64)]) (K : Den [] → HP) (h : H), m_slices_heapSortOrdered_int a.1 a.2.1 a.2.2 K h = wpF x_slices_heapSortOrdered_int Try.f265 [tSl, (tInt .i64), (tInt .i64)] [] h_slices_heapSortOrdered_int a K h := fun a K h => by kernel_rfl
def s_slices_heapSortOrdered_int : Spec Try.prog := mkSpec x_slices_heapSortOrdered_int 265 Try.f265 [tSl, (tInt .i64), (tInt .i64)] [] false h_slices_heapSortOrdered_int (fun a => m_slices_heapSortOrdered_int a.1 a.2.1 a.2.2) w_slices_heapSortOrdered_int callee265 rfl
/-! slices.nextPowerOfTwo -/
def m_slices_nextPowerOfTwo (a0 : Int) (K : (Int) → H → Prop) : H → Prop :=
  mPure (m_math_bits_Len (IntKind.wrap .u64 a0)) fun r1 =>
  mNN r1 <|
  K (iShl .u64 1 r1)
def x_slices_nextPowerOfTwo : Cx Try.prog := ⟨tys, [s_math_bits_Len], [], [], mixed⟩
def h_slices_nextPowerOfTwo : Hint := .d
theorem w_slices_nextPowerOfTwo : ∀ (a : Den [(tInt .i64)]) (K : Den [(tInt .u64)] → HP) (h : H), m_slices_nextPowerOfTwo a K h = wpF x_slices_nextPowerOfTwo Try.f276 [(tInt .i64)] [(tInt .u64)] h_slices_nextPowerOfTwo a K h := fun a K h => by kernel_rfl
def s_slices_nextPowerOfTwo : Spec Try.prog := mkSpec x_slices_nextPowerOfTwo 276 Try.f276 [(tInt .i64)] [(tInt .u64)] true h_slices_nextPowerOfTwo (fun a => m_slices_nextPowerOfTwo a) w_slices_nextPowerOfTwo callee276 rfl
/-! (*slices.xorshift).Next -/
def m_slices_xorshift_Next (a0 : Option Addr) (K : (Int) → H → Prop) : H → Prop :=
  mDeref a0 fun ad1 =>
  mDeref a0 fun ad2 =>
  mLoad (cInt .u64) ad1 fun x3 =>
  mLoad (cInt .u64) ad2 fun x4 =>
  mDeref a0 fun ad5 =>
  mStore ad5 [(Value.int .u64 (iXor .u64 x3 (iShl .u64 x4 13)))] <|
  mDeref a0 fun ad6 =>
  mDeref a0 fun ad7 =>
  mLoad (cInt .u64) ad6 fun x8 =>
  mLoad (cInt .u64) ad7 fun x9 =>
  mDeref a0 fun ad10 =>
  mStore ad10 [(Value.int .u64 (iXor .u64 x8 (iShr .u64 x9 7)))] <|
  mDeref a0 fun ad11 =>
  mDeref a0 fun ad12 =>
  mLoad (cInt .u64) ad11 fun x13 =>
  mLoad (cInt .u64) ad12 fun x14 =>
  mDeref a0 fun ad15 =>
  mStore ad15 [(Value.int .u64 (iXor .u64 x13 (iShl .u64 x14 17)))] <|
  mDeref a0 fun ad16 =>
  mLoad (cInt .u64) ad16 fun x17 =>
  K x17
def x_slices_xorshift_Next : Cx Try.prog := ⟨tys, [], [], [], mixed⟩
def h_slices_xorshift_Next : Hint := (.seq .d (.seq (.reg (.run [0, 4, 12, 16, 10, 22, 24, 28, 32, 39] .nil)) (.seq (.reg (.run [0, 4, 12, 16, 10, 22, 24, 28, 32, 39] .nil)) (.seq (.reg (.run [0, 4, 12, 16, 10, 22, 24, 28, 32, 39] .nil)) .d))))
theorem w_slices_xorshift_Next : ∀ (a : Den [tPtr]) (K : Den [(tInt .u64)] → HP) (h : H), m_slices_xorshift_Next a K h = wpF x_slices_xorshift_Next Try.f277 [tPtr] [(tInt .u64)] h_slices_xorshift_Next a K h := fun a K h => by kernel_rfl
def s_slices_xorshift_Next : Spec Try.prog := mkSpec x_slices_xorshift_Next 277 Try.f277 [tPtr] [(tInt .u64)] false h_slices_xorshift_Next (fun a => m_slices_xorshift_Next a) w_slices_xorshift_Next callee277 rfl
/-! slices.breakPatternsOrdered[int] -/
def m_slices_breakPatternsOrdered_int (a0 : Sl) (a1 : Int) (a2 : Int) (K : (Unit) → H → Prop) : H → Prop :=
  mIf (decide (8 ≤ (iSub .i64 a2 a1))) (
    mNew 379 #[(Value.int .u64 0)] fun ad1 =>
    mStore ad1 [(Value.int .u64 (IntKind.wrap .u64 (iSub .i64 a2 a1)))] <|
    mPure (m_slices_nextPowerOfTwo (iSub .i64 a2 a1)) fun r2 =>
    mLoop (fun (rec4 : Int → H → Prop) (s3 : Int) =>
      mIf (decide (s3 ≤ (iAdd .i64 (iAdd .i64 a1 (iMul .i64 (iQuo .i64 (iSub .i64 a2 a1) 4) 2)) 1))) (
        m_slices_xorshift_Next (some ad1) fun r5 =>
        mJoin (fun (s6 : Int) =>
          mIdx a0 (iAdd .i64 a1 s6) 1 fun ad8 =>
          mIdx a0 s3 1 fun ad9 =>
          mLoad (cInt .i64) ad8 fun x10 =>
          mLoad (cInt .i64) ad9 fun x11 =>
          mIdx a0 s3 1 fun ad12 =>
          mStore ad12 [(Value.int .i64 x10)] <|
          mIdx a0 (iAdd .i64 a1 s6) 1 fun ad13 =>
          mStore ad13 [(Value.int .i64 x11)] <|
          rec4 (iAdd .i64 s3 1)
          ) (fun j7 =>
          mIf (decide ((iSub .i64 a2 a1) ≤ (IntKind.wrap .i64 (iAnd .u64 r5 (iSub .u64 r2 1))))) (
            j7 (iSub .i64 (IntKind.wrap .i64 (iAnd .u64 r5 (iSub .u64 r2 1))) (iSub .i64 a2 a1))
            ) (
            j7 (IntKind.wrap .i64 (iAnd .u64 r5 (iSub .u64 r2 1)))
            )
          )
        ) (
        K ()
        )
      ) (iSub .i64 (iAdd .i64 a1 (iMul .i64 (iQuo .i64 (iSub .i64 a2 a1) 4) 2)) 1)
    ) (
    K ()
    )
def x_slices_breakPatternsOrdered_int : Cx Try.prog := ⟨tys, [s_slices_nextPowerOfTwo, s_slices_xorshift_Next], [], [], mixed⟩
def h_slices_breakPatternsOrdered_int : Hint := (.seq .d (.seq .d (.cond (.seq .d (.seq .d (.seq .d (.blk (.loop [.slot 9 (tInt .i64)] 36893488147351995904 [] (.seq .d (.seq (.blk (.seq .d (.join [.slot 10 (tInt .i64)] 138538465100800 [] .d (.reg (.run [0, 4, 8, 12, 16, 20, 24, 28, 32, 36, 40, 48, 52, 56, 46, 62, 64, 71, 72, 79] .nil))))) .d))))))) .d)))
theorem w_slices_breakPatternsOrdered_int : ∀ (a : Den [tSl, (tInt .i64), (tInt .i64)]) (K : Den [] → HP) (h : H), m_slices_breakPatternsOrdered_int a.1 a.2.1 a.2.2 K h = wpF x_slices_breakPatternsOrdered_int Try.f266 [tSl, (tInt .i64), (tInt .i64)] [] h_slices_breakPatternsOrdered_int a K h := fun a K h => by kernel_rfl
def s_slices_breakPatternsOrdered_int : Spec Try.prog := mkSpec x_slices_breakPatternsOrdered_int 266 Try.f266 [tSl, (tInt .i64), (tInt .i64)] [] false h_slices_breakPatternsOrdered_int (fun a => m_slices_breakPatternsOrdered_int a.1 a.2.1 a.2.2) w_slices_breakPatternsOrdered_int callee266 rfl
/-! slices.order2Ordered[int] -/
def m_slices_order2Ordered_int (a0 : Sl) (a1 : Int) (a2 : Int) (a3 : Option Addr) (K : (Int × Int) → H → Prop) : H → Prop :=
  mIdx a0 a2 1 fun ad1 =>
  mIdx a0 a1 1 fun ad2 =>
  mLoad (cInt .i64) ad1 fun x3 =>
  mLoad (cInt .i64) ad2 fun x4 =>
  mPure (m_cmp_Less_int x3 x4) fun r5 =>
  mIf r5 (
    mDeref a3 fun ad6 =>
    mLoad (cInt .i64) ad6 fun x7 =>
    mDeref a3 fun ad8 =>
    mStore ad8 [(Value.int .i64 (iAdd .i64 x7 1))] <|
    K (a2, a1)
    ) (
    K (a1, a2)
    )
def x_slices_order2Ordered_int : Cx Try.prog := ⟨tys, [s_cmp_Less_int], [], [], mixed⟩
def h_slices_order2Ordered_int : Hint := (.seq .d (.seq (.seq (.reg (.run [0, 4, 8, 16, 20, 24, 14, 30, 32] .nil)) .d) .d))
theorem w_slices_order2Ordered_int : ∀ (a : Den [tSl, (tInt .i64), (tInt .i64), tPtr]) (K : Den [(tInt .i64), (tInt .i64)] → HP) (h : H), m_slices_order2Ordered_int a.1 a.2.1 a.2.2.1 a.2.2.2 K h = wpF x_slices_order2Ordered_int Try.f281 [tSl, (tInt .i64), (tInt .i64), tPtr] [(tInt .i64), (tInt .i64)] h_slices_order2Ordered_int a K h := fun a K h => by kernel_rfl
def s_slices_order2Ordered_int : Spec Try.prog := mkSpec x_slices_order2Ordered_int 281 Try.f281 [tSl, (tInt .i64), (tInt .i64), tPtr] [(tInt .i64), (tInt .i64)] false h_slices_order2Ordered_int (fun a => m_slices_order2Ordered_int a.1 a.2.1 a.2.2.1 a.2.2.2) w_slices_order2Ordered_int callee281 rfl
/-! slices.medianOrdered[int] -/
def m_slices_medianOrdered_int (a0 : Sl) (a1 : Int) (a2 : Int) (a3 : Int) (a4 : Option Addr) (K : (Int) → H → Prop) : H → Prop :=
  m_slices_order2Ordered_int a0 a1 a2 a4 fun r1 =>
  m_slices_order2Ordered_int a0 r1.2 a3 a4 fun r2 =>
  m_slices_order2Ordered_int a0 r1.1 r2.1 a4 fun r3 =>
  K r3.2
def x_slices_medianOrdered_int : Cx Try.prog := ⟨tys, [s_slices_order2Ordered_int], [], [], mixed⟩
def h_slices_medianOrdered_int : Hint := .d
theorem w_slices_medianOrdered_int : ∀ (a : Den [tSl, (tInt .i64), (tInt .i64), (tInt .i64), tPtr]) (K : Den [(tInt .i64)] → HP) (h : H), m_slices_medianOrdered_int a.1 a.2.1 a.2.2.1 a.2.2.2.1 a.2.2.2.2 K h = wpF x_slices_medianOrdered_int Try.f279 [tSl, (tInt .i64), (tInt .i64), (tInt .i64), tPtr] [(tInt .i64)] h_slices_medianOrdered_int a K h := fun a K h => by kernel_rfl
def s_slices_medianOrdered_int : Spec Try.prog := mkSpec x_slices_medianOrdered_int 279 Try.f279 [tSl, (tInt .i64), (tInt .i64), (tInt .i64), tPtr] [(tInt .i64)] false h_slices_medianOrdered_int (fun a => m_slices_medianOrdered_int a.1 a.2.1 a.2.2.1 a.2.2.2.1 a.2.2.2.2) w_slices_medianOrdered_int callee279 rfl
/-! slices.medianAdjacentOrdered[int] -/
def m_slices_medianAdjacentOrdered_int (a0 : Sl) (a1 : Int) (a2 : Option Addr) (K : (Int) → H → Prop) : H → Prop :=
  m_slices_medianOrdered_int a0 (iSub .i64 a1 1) a1 (iAdd .i64 a1 1) a2 fun r1 =>
  K r1
def x_slices_medianAdjacentOrdered_int : Cx Try.prog := ⟨tys, [s_slices_medianOrdered_int], [], [], mixed⟩
def h_slices_medianAdjacentOrdered_int : Hint := .d
theorem w_slices_medianAdjacentOrdered_int : ∀ (a : Den [tSl, (tInt .i64), tPtr]) (K : Den [(tInt .i64)] → HP) (h : H), m_slices_medianAdjacentOrdered_int a.1 a.2.1 a.2.2 K h = wpF x_slices_medianAdjacentOrdered_int Try.f278 [tSl, (tInt .i64), tPtr] [(tInt .i64)] h_slices_medianAdjacentOrdered_int a K h := fun a K h => by kernel_rfl
def s_slices_medianAdjacentOrdered_int : Spec Try.prog := mkSpec x_slices_medianAdjacentOrdered_int 278 Try.f278 [tSl, (tInt .i64), tPtr] [(tInt .i64)] false h_slices_medianAdjacentOrdered_int (fun a => m_slices_medianAdjacentOrdered_int a.1 a.2.1 a.2.2) w_slices_medianAdjacentOrdered_int callee278 rfl
/-! slices.choosePivotOrdered[int] -/
def m_slices_choosePivotOrdered_int (a0 : Sl) (a1 : Int) (a2 : Int) (K : (Int × Int) → H → Prop) : H → Prop :=
  mNew 3 #[(Value.int .i64 0)] fun ad1 =>
  mJoin (fun (s2 : Int) =>
    mLoad (cInt .i64) ad1 fun x4 =>
    mIf (decide (x4 = 0)) (
      K (s2, 1)
      ) (
      mIf (decide (x4 = 12)) (
        K (s2, 2)
        ) (
        K (s2, 0)
        )
      )
    ) (fun j3 =>
    mIf (decide (8 ≤ (iSub .i64 a2 a1))) (
      mJoin (fun (s5 : Int × Int × Int) =>
        m_slices_medianOrdered_int a0 s5.1 s5.2.1 s5.2.2 (some ad1) fun r7 =>
        j3 r7
        ) (fun j6 =>
        mIf (decide (50 ≤ (iSub .i64 a2 a1))) (
          m_slices_medianAdjacentOrdered_int a0 (iAdd .i64 a1 (iMul .i64 (iQuo .i64 (iSub .i64 a2 a1) 4) 1)) (some ad1) fun r8 =>
          m_slices_medianAdjacentOrdered_int a0 (iAdd .i64 a1 (iMul .i64 (iQuo .i64 (iSub .i64 a2 a1) 4) 2)) (some ad1) fun r9 =>
          m_slices_medianAdjacentOrdered_int a0 (iAdd .i64 a1 (iMul .i64 (iQuo .i64 (iSub .i64 a2 a1) 4) 3)) (some ad1) fun r10 =>
          j6 (r8, r9, r10)
          ) (
          j6 ((iAdd .i64 a1 (iMul .i64 (iQuo .i64 (iSub .i64 a2 a1) 4) 1)), (iAdd .i64 a1 (iMul .i64 (iQuo .i64 (iSub .i64 a2 a1) 4) 2)), (iAdd .i64 a1 (iMul .i64 (iQuo .i64 (iSub .i64 a2 a1) 4) 3)))
          )
        )
      ) (
      j3 (iAdd .i64 a1 (iMul .i64 (iQuo .i64 (iSub .i64 a2 a1) 4) 2))
      )
    )
def x_slices_choosePivotOrdered_int : Cx Try.prog := ⟨tys, [s_slices_medianAdjacentOrdered_int, s_slices_medianOrdered_int], [], [], mixed⟩
def h_slices_choosePivotOrdered_int : Hint := (.seq .d (.seq .d (.seq .d (.seq .d (.seq .d (.seq .d (.join [.slot 11 (tInt .i64)] 562947805944832 [] (.seq .d (.cond (.join [.slot 10 (tInt .i64), .slot 11 (tInt .i64), .slot 12 (tInt .i64)] 17583596116992 [] .d .d) .d)) .d)))))))
theorem w_slices_choosePivotOrdered_int : ∀ (a : Den [tSl, (tInt .i64), (tInt .i64)]) (K : Den [(tInt .i64), (tInt .i64)] → HP) (h : H), m_slices_choosePivotOrdered_int a.1 a.2.1 a.2.2 K h = wpF x_slices_choosePivotOrdered_int Try.f267 [tSl, (tInt .i64), (tInt .i64)] [(tInt .i64), (tInt .i64)] h_slices_choosePivotOrdered_int a K h := fun a K h => by kernel_rfl
def s_slices_choosePivotOrdered_int : Spec Try.prog := mkSpec x_slices_choosePivotOrdered_int 267 Try.f267 [tSl, (tInt .i64), (tInt .i64)] [(tInt .i64), (tInt .i64)] false h_slices_choosePivotOrdered_int (fun a => m_slices_choosePivotOrdered_int a.1 a.2.1 a.2.2) w_slices_choosePivotOrdered_int callee267 rfl
end Go.Proofs.Ytiajjcboddaenaa.K
