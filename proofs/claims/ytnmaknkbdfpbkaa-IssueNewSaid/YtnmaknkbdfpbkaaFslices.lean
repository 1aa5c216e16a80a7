/- Functions of the program, printed by a program of mine: slices_Index_api_Word_api_Word, slices_Contains_api_Word_api_Word, slices_Clone_book_Link_book_Link, slices_Clone_api_Cap_api_Cap -/
import Derived.Test.YtnmaknkbdfpbkaaT
namespace Go.Proofs.Ytnmaknkbdfpbkaa.K
open Go Go.Proofs
/-! slices.Index[[]sesame/api.Word,sesame/api.Word] -/
def e_slices_Index_api_Word_api_Word : Int → Value := fun r => (Value.int .i64 r)
def m_slices_Index_api_Word_api_Word (a0 : Sl) (a1 : S_api_Word) (K : (Int) → H → Prop) : H → Prop :=
  mLoop (fun (rec3 : Int → H → Prop) (s2 : Int) =>
    mIf (decide (s2 < (a0.len : Int))) (
      mIdx a0 s2 2 fun a5 =>
      mLoad S_api_Word.cells a5 fun x7 =>
      mIf ((decide (a1.Hi = x7.Hi)) && ((decide (a1.Lo = x7.Lo)) && true)) (
        K s2
        ) (
        rec3 (iAdd .i64 s2 1)
        )
      ) (
      K (-1)
      )
    ) 0
set_option maxRecDepth 100000 in
set_option maxHeartbeats 8000000 in
theorem c_slices_Index_api_Word_api_Word {a0 : Sl} {a1 : S_api_Word} {K : (Int) → H → Prop} {h : H} (hm : m_slices_Index_api_Word_api_Word a0 a1 K h) : ACall Try.prog 76 #[(Sl.val a0), (S_api_Word.val a1)] h (fun v h' => ∃ r, v = e_slices_Index_api_Word_api_Word r ∧ K r h') noP := by
  unfold m_slices_Index_api_Word_api_Word at hm
  have nd : (([] : List (Nat × Obj)).map Prod.fst).Nodup := List.nodup_nil
  refine cw_func Try.func76 rfl rfl ?_
  refine cw_seq ?_
  refine cw_reg (l := [0, 1]) rfl rfl ?_
  refine sg rfl rfl (b_box nd (c := #[(Value.int .u64 a1.Hi), (Value.int .u64 a1.Lo)]) rfl (fun b1 nd => ?_))
  refine sgy (some 4) (Value.int .i64 0) rfl rfl rfl (y_assign rfl) ?_
  refine drop.of ?_
  refine cw_seq ?_
  refine cw_seq ?_
  refine cw_reg (l := [0, 1, 2]) rfl rfl ?_
  refine sgy (some 6) (Sl.val a0) rfl rfl rfl (y_move rfl) ?_
  refine sgy (some 7) (Value.int .i64 (a0.len : Int)) rfl rfl rfl (y_len (s := a0) rfl rfl Try.underlying22) ?_
  refine sgy (some 8) (Value.int .i64 0) rfl rfl rfl (y_move rfl) ?_
  refine drop.of ?_
  refine cw_block ?_
  refine cw_loop [4, 5, 8, 9, 10, 11, 12, 13, 14, 15, 16, 17, 18] (fun s2 => [(8, (Value.int .i64 s2))]) (fun s2 => [(b1, Obj.cells #[(Value.int .u64 a1.Hi), (Value.int .u64 a1.Lo)] 25 (0, 0))]) hm rfl (fun _ => rfl) ⟨rfl, trivial⟩ rfl (fun _ => nd) (fun rec3 s2 h junk nd hm => ?_)
  refine cw_seq ?_
  refine cw_reg (l := [0]) rfl rfl ?_
  refine sgy (some 9) (Value.bool (decide (s2 < (a0.len : Int)))) rfl rfl rfl (y_bin rfl rfl rfl) ?_
  refine drop.of ?_
  refine cw_seq ?_
  refine cw_ifm hm rfl (fun hc4 hm => ?_) (fun hc4 hm => ?_)
  · refine cw_skip ?_
    refine drop.of ?_
    refine cw_seq ?_
    refine cw_block ?_
    refine cw_seq ?_
    refine cw_reg (l := [0, 1]) rfl rfl ?_
    refine sgy (some 10) (Value.int .i64 s2) rfl rfl rfl (y_move rfl) ?_
    refine sgy (some 5) (Value.int .i64 s2) rfl rfl rfl (y_assign rfl) ?_
    refine drop.of ?_
    refine cw_seq ?_
    refine cw_draw mixed rfl ?_
    refine tyy 1 (some 12) (Sl.val a0) rfl rfl (by kernel_rfl) (by kernel_rfl) (by kernel_rfl) rfl (y_move rfl) ?_
    refine tyy 2 (some 13) (Value.int .i64 s2) rfl rfl (by kernel_rfl) (by kernel_rfl) (by kernel_rfl) rfl (y_move rfl) ?_
    obtain ⟨a5, hq6, hm⟩ := hm
    refine tyy 3 (some 14) (Value.pointer (some a5)) rfl rfl (by kernel_rfl) (by kernel_rfl) (by kernel_rfl) rfl (y_idx Try.underlying22 i25 rfl rfl hq6) ?_
    refine trr 0 (some 11) (S_api_Word.val a1) rfl rfl (by kernel_rfl) (by kernel_rfl) (by kernel_rfl) rfl (r_loadA 0 nd rfl rfl Try.underlying25 rfl i25 rfl) ?_
    refine tq 4 rfl (by kernel_rfl) (by kernel_rfl) (by kernel_rfl) rfl (v_loadA hm rfl Try.underlying25 rfl i25 S_api_Word.val (fun _ => ⟨rfl, rfl⟩) (fun x7 hm => ?_))
    refine tyy 5 (some 16) (Value.bool ((decide (a1.Hi = x7.Hi)) && ((decide (a1.Lo = x7.Lo)) && true))) rfl rfl (by kernel_rfl) (by kernel_rfl) (by kernel_rfl) rfl (y_eqA (n := 2) Try.eqGuardType25 rfl rfl (eq_struct (n := 1) Try.underlying25 Try.stoodInHeld25 (efs_cons rfl (part_one Try.underlying23 rfl rfl) (part_one Try.underlying23 rfl rfl) (eq_int Try.underlying23) rfl (efs_cons rfl (part_one Try.underlying23 rfl rfl) (part_one Try.underlying23 rfl rfl) (eq_int Try.underlying23) rfl efs_nil))) rfl) ?_
    refine td (by kernel_rfl) ?_
    refine drop.of ?_
    refine cw_ifm hm rfl (fun hc8 hm => ?_) (fun hc8 hm => ?_)
    · refine cw_seq ?_
      refine cw_reg (l := [0, 1]) rfl rfl ?_
      refine sgy (some 17) (Value.int .i64 s2) rfl rfl rfl (y_move rfl) ?_
      refine sgy (some 4) (Value.int .i64 s2) rfl rfl rfl (y_assign rfl) ?_
      refine drop.of ?_
      refine cw_ret ?_
      refine out_one [(Value.int .i64 s2)] (e_slices_Index_api_Word_api_Word s2) Try.results76 ?_ rfl ?_
      · exact (And.intro (rfl) trivial)
      · exact Exists.intro s2 (And.intro rfl hm)
    · refine cw_skip ?_
      refine drop.of ?_
      refine cw_reg (l := [0, 1]) rfl rfl ?_
      refine sgy (some 18) (Value.int .i64 (iAdd .i64 s2 1)) rfl rfl rfl (y_bin rfl rfl rfl) ?_
      refine sgy (some 8) (Value.int .i64 (iAdd .i64 s2 1)) rfl rfl rfl (y_move rfl) ?_
      exact Exists.intro (iAdd .i64 s2 1) (And.intro (And.intro rfl trivial) (And.intro (bx_drop nd 0) hm))
  · refine cw_exit ?_
    refine drop.of ?_
    refine cw_seq ?_
    refine cw_reg (l := [0]) rfl rfl ?_
    refine sgy (some 4) (Value.int .i64 (-1)) rfl rfl rfl (y_assign rfl) ?_
    refine drop.of ?_
    refine cw_ret ?_
    refine out_one [(Value.int .i64 (-1))] (e_slices_Index_api_Word_api_Word (-1)) Try.results76 ?_ rfl ?_
    · exact (And.intro (rfl) trivial)
    · exact Exists.intro (-1) (And.intro rfl hm)
/-! slices.Contains[[]sesame/api.Word,sesame/api.Word] -/
def e_slices_Contains_api_Word_api_Word : Bool → Value := fun r => (Value.bool r)
def m_slices_Contains_api_Word_api_Word (a0 : Sl) (a1 : S_api_Word) (K : (Bool) → H → Prop) : H → Prop :=
  m_slices_Index_api_Word_api_Word a0 a1 fun r2 =>
  K (decide (0 ≤ r2))
set_option maxRecDepth 100000 in
set_option maxHeartbeats 8000000 in
theorem c_slices_Contains_api_Word_api_Word {a0 : Sl} {a1 : S_api_Word} {K : (Bool) → H → Prop} {h : H} (hm : m_slices_Contains_api_Word_api_Word a0 a1 K h) : ACall Try.prog 57 #[(Sl.val a0), (S_api_Word.val a1)] h (fun v h' => ∃ r, v = e_slices_Contains_api_Word_api_Word r ∧ K r h') noP := by
  unfold m_slices_Contains_api_Word_api_Word at hm
  have nd : (([] : List (Nat × Obj)).map Prod.fst).Nodup := List.nodup_nil
  refine cw_func Try.func57 rfl rfl ?_
  refine cw_seq ?_
  refine cw_reg (l := [0, 1]) rfl rfl ?_
  refine sg rfl rfl (b_box nd (c := #[(Value.int .u64 a1.Hi), (Value.int .u64 a1.Lo)]) rfl (fun b1 nd => ?_))
  refine sgy (some 4) (Value.bool false) rfl rfl rfl (y_assign rfl) ?_
  refine drop.of ?_
  refine cw_seq ?_
  refine cw_reg (l := [0, 1, 2, 3, 4]) rfl rfl ?_
  refine sgy (some 5) (Sl.val a0) rfl rfl rfl (y_move rfl) ?_
  refine sgr (some 6) (S_api_Word.val a1) rfl rfl rfl (r_loadA 0 nd rfl rfl Try.underlying25 rfl i25 rfl) ?_
  refine sg rfl rfl (v_call (c_slices_Index_api_Word_api_Word hm) callee76 rfl (fun v h hm => ?_))
  obtain ⟨r2, rfl, hm⟩ := hm
  refine sgy (some 8) (Value.bool (decide (0 ≤ r2))) rfl rfl rfl (y_bin rfl rfl rfl) ?_
  refine sgy (some 4) (Value.bool (decide (0 ≤ r2))) rfl rfl rfl (y_assign rfl) ?_
  refine drop.of ?_
  refine cw_ret ?_
  refine out_one [(Value.bool (decide (0 ≤ r2)))] (e_slices_Contains_api_Word_api_Word (decide (0 ≤ r2))) Try.results57 ?_ rfl ?_
  · exact (And.intro (rfl) trivial)
  · exact Exists.intro (decide (0 ≤ r2)) (And.intro rfl hm)
/-! slices.Clone[[]sesame/book.Link,sesame/book.Link] -/
def e_slices_Clone_book_Link_book_Link : Sl → Value := fun r => (Sl.val r)
def m_slices_Clone_book_Link_book_Link (a0 : Sl) (K : (Sl) → H → Prop) : H → Prop :=
  mIf (a0.a.isNone) (
    K Sl.nil
    ) (
    mNew 93 #[] fun a2 =>
    mAppend 93 7 56 #[(Value.int .i64 0), (Value.int .i64 0), (Value.int .i64 0), (Value.int .i64 0), (Value.int .i64 0), (Value.int .u64 0), (Value.int .u64 0)] (⟨some a2, 0, 0⟩ : Sl) a0 fun s3 =>
    K s3
    )
set_option maxRecDepth 100000 in
set_option maxHeartbeats 8000000 in
theorem c_slices_Clone_book_Link_book_Link {a0 : Sl} {K : (Sl) → H → Prop} {h : H} (hm : m_slices_Clone_book_Link_book_Link a0 K h) : ACall Try.prog 75 #[(Sl.val a0)] h (fun v h' => ∃ r, v = e_slices_Clone_book_Link_book_Link r ∧ K r h') noP := by
  unfold m_slices_Clone_book_Link_book_Link at hm
  have nd : (([] : List (Nat × Obj)).map Prod.fst).Nodup := List.nodup_nil
  refine cw_func Try.func75 rfl rfl ?_
  refine cw_seq ?_
  refine cw_reg (l := [0]) rfl rfl ?_
  refine sgy (some 2) (Sl.val Sl.nil) rfl rfl rfl (y_assign rfl) ?_
  refine drop.of ?_
  refine cw_seq ?_
  refine cw_seq ?_
  refine cw_reg (l := [0, 1]) rfl rfl ?_
  refine sgy (some 3) (Sl.val a0) rfl rfl rfl (y_move rfl) ?_
  refine sgy (some 4) (Value.bool (a0.a.isNone)) rfl rfl rfl (y_eqSl Try.underlying89 (s := a0) rfl rfl) ?_
  refine drop.of ?_
  refine cw_ifm hm rfl (fun hc1 hm => ?_) (fun hc1 hm => ?_)
  · refine cw_seq ?_
    refine cw_reg (l := [0]) rfl rfl ?_
    refine sgy (some 2) (Sl.val Sl.nil) rfl rfl rfl (y_assign rfl) ?_
    refine drop.of ?_
    refine cw_ret ?_
    refine out_one [(Sl.val Sl.nil)] (e_slices_Clone_book_Link_book_Link Sl.nil) Try.results75 ?_ rfl ?_
    · exact (And.intro (rfl) trivial)
    · exact Exists.intro Sl.nil (And.intro rfl hm)
  · refine cw_skip ?_
    refine drop.of ?_
    refine cw_seq ?_
    refine cw_reg (l := [0, 1, 2, 3]) rfl rfl ?_
    refine sg rfl rfl (v_lit hm Try.underlying89 i93 rfl rfl rfl rfl (fun a2 h hm => ?_))
    refine sgy (some 6) (Sl.val a0) rfl rfl rfl (y_move rfl) ?_
    refine sg rfl rfl (v_append Try.underlying89 Try.underlying89 i93 rfl rfl (s := (⟨some a2, 0, 0⟩ : Sl)) (x' := a0) rfl rfl hm (fun s3 h hm => ?_))
    refine sgy (some 2) (Sl.val s3) rfl rfl rfl (y_assign rfl) ?_
    refine drop.of ?_
    refine cw_ret ?_
    refine out_one [(Sl.val s3)] (e_slices_Clone_book_Link_book_Link s3) Try.results75 ?_ rfl ?_
    · exact (And.intro (rfl) trivial)
    · exact Exists.intro s3 (And.intro rfl hm)
/-! slices.Clone[[]sesame/api.Cap,sesame/api.Cap] -/
def e_slices_Clone_api_Cap_api_Cap : Sl → Value := fun r => (Sl.val r)
def m_slices_Clone_api_Cap_api_Cap (a0 : Sl) (K : (Sl) → H → Prop) : H → Prop :=
  mIf (a0.a.isNone) (
    K Sl.nil
    ) (
    mNew 81 #[] fun a2 =>
    mAppend 81 3 24 #[(Value.int .i64 0), (Value.int .u64 0), (Value.int .u64 0)] (⟨some a2, 0, 0⟩ : Sl) a0 fun s3 =>
    K s3
    )
set_option maxRecDepth 100000 in
set_option maxHeartbeats 8000000 in
theorem c_slices_Clone_api_Cap_api_Cap {a0 : Sl} {K : (Sl) → H → Prop} {h : H} (hm : m_slices_Clone_api_Cap_api_Cap a0 K h) : ACall Try.prog 72 #[(Sl.val a0)] h (fun v h' => ∃ r, v = e_slices_Clone_api_Cap_api_Cap r ∧ K r h') noP := by
  unfold m_slices_Clone_api_Cap_api_Cap at hm
  have nd : (([] : List (Nat × Obj)).map Prod.fst).Nodup := List.nodup_nil
  refine cw_func Try.func72 rfl rfl ?_
  refine cw_seq ?_
  refine cw_reg (l := [0]) rfl rfl ?_
  refine sgy (some 2) (Sl.val Sl.nil) rfl rfl rfl (y_assign rfl) ?_
  refine drop.of ?_
  refine cw_seq ?_
  refine cw_seq ?_
  refine cw_reg (l := [0, 1]) rfl rfl ?_
  refine sgy (some 3) (Sl.val a0) rfl rfl rfl (y_move rfl) ?_
  refine sgy (some 4) (Value.bool (a0.a.isNone)) rfl rfl rfl (y_eqSl Try.underlying79 (s := a0) rfl rfl) ?_
  refine drop.of ?_
  refine cw_ifm hm rfl (fun hc1 hm => ?_) (fun hc1 hm => ?_)
  · refine cw_seq ?_
    refine cw_reg (l := [0]) rfl rfl ?_
    refine sgy (some 2) (Sl.val Sl.nil) rfl rfl rfl (y_assign rfl) ?_
    refine drop.of ?_
    refine cw_ret ?_
    refine out_one [(Sl.val Sl.nil)] (e_slices_Clone_api_Cap_api_Cap Sl.nil) Try.results72 ?_ rfl ?_
    · exact (And.intro (rfl) trivial)
    · exact Exists.intro Sl.nil (And.intro rfl hm)
  · refine cw_skip ?_
    refine drop.of ?_
    refine cw_seq ?_
    refine cw_reg (l := [0, 1, 2, 3]) rfl rfl ?_
    refine sg rfl rfl (v_lit hm Try.underlying79 i81 rfl rfl rfl rfl (fun a2 h hm => ?_))
    refine sgy (some 6) (Sl.val a0) rfl rfl rfl (y_move rfl) ?_
    refine sg rfl rfl (v_append Try.underlying79 Try.underlying79 i81 rfl rfl (s := (⟨some a2, 0, 0⟩ : Sl)) (x' := a0) rfl rfl hm (fun s3 h hm => ?_))
    refine sgy (some 2) (Sl.val s3) rfl rfl rfl (y_assign rfl) ?_
    refine drop.of ?_
    refine cw_ret ?_
    refine out_one [(Sl.val s3)] (e_slices_Clone_api_Cap_api_Cap s3) Try.results72 ?_ rfl ?_
    · exact (And.intro (rfl) trivial)
    · exact Exists.intro s3 (And.intro rfl hm)
end Go.Proofs.Ytnmaknkbdfpbkaa.K
