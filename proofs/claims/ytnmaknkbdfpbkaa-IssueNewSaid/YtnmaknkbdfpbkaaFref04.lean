/- Functions of the program, printed by a program of mine: ref04_New, ref04_Draws_Skip, ref04_Draws_Taken, ref04_Draws_Draw, ref04_Draws_Left -/
import Derived.Test.YtnmaknkbdfpbkaaT
import Derived.Test.YtnmaknkbdfpbkaaFref01
namespace Go.Proofs.Ytnmaknkbdfpbkaa.K
open Go Go.Proofs
/-! sesame/sesameref04.New -/
def e_ref04_New : Option Addr × Int → Value := fun r => Value.tuple #[(Value.pointer r.1), (Value.int .i64 r.2)]
def m_ref04_New (a0 : Sl) (a1 : Int) (K : (Option Addr × Int) → H → Prop) : H → Prop :=
  mJoin (fun (s1 : Bool) =>
    mIf s1 (
      K (none, 18)
      ) (
      mIf (decide (4096 < (a0.len : Int))) (
        K (none, 23)
        ) (
        mAppend 25 2 16 #[(Value.int .u64 0), (Value.int .u64 0)] Sl.nil a0 fun s5 =>
        mNew 100 #[(Sl.val s5), (Value.int .i64 a1), (Value.int .i64 0)] fun a6 =>
        K ((some a6), 0)
        )
      )
    ) (fun j2 =>
    mIf (decide (a1 < 1)) (
      j2 true
      ) (
      j2 (decide (128 < a1))
      )
    )
set_option maxRecDepth 100000 in
set_option maxHeartbeats 8000000 in
theorem c_ref04_New {a0 : Sl} {a1 : Int} {K : (Option Addr × Int) → H → Prop} {h : H} (hm : m_ref04_New a0 a1 K h) : ACall Try.prog 19 #[(Sl.val a0), (Value.int .i64 a1)] h (fun v h' => ∃ r, v = e_ref04_New r ∧ K r h') noP := by
  unfold m_ref04_New at hm
  have nd : (([] : List (Nat × Obj)).map Prod.fst).Nodup := List.nodup_nil
  refine cw_func Try.func19 rfl rfl ?_
  refine cw_seq ?_
  refine cw_reg (l := [0, 1]) rfl rfl ?_
  refine sgy (some 4) (Value.pointer none) rfl rfl rfl (y_assign rfl) ?_
  refine sgy (some 5) (Value.int .i64 0) rfl rfl rfl (y_assign rfl) ?_
  refine drop.of ?_
  refine cw_seq ?_
  refine cw_joinM hm [7, 8, 9, 10, 11, 12] (fun s1 => [(12, (Value.bool s1))]) (fun s1 => []) rfl (fun _ => nd) (fun hm => ?_) (fun s1 h junk nd hm => ?_)
  · refine cw_reg (l := [0, 1, 2, 3, 4, 5]) rfl rfl ?_
    refine sgy (some 7) (Value.int .i64 a1) rfl rfl rfl (y_move rfl) ?_
    refine sgy (some 8) (Value.bool (decide (a1 < 1))) rfl rfl rfl (y_bin rfl rfl rfl) ?_
    refine sgy (some 9) (Value.bool (decide (a1 < 1))) rfl rfl rfl (y_move rfl) ?_
    refine mIf_elim hm (fun hc7 hm => ?_) (fun hc7 hm => ?_)
    · refine sgn (some 10) rfl rfl (by exact wFT rfl rfl hc7) ?_
      refine sgn (some 11) rfl rfl (by exact wFT rfl rfl hc7) ?_
      refine sgy (some 12) (Value.bool true) rfl rfl rfl (y_pickT rfl hc7 rfl) ?_
      exact Exists.intro true (And.intro (And.intro rfl trivial) (And.intro (bx_drop nd 0) hm))
    · refine sgy (some 10) (Value.int .i64 a1) rfl rfl (by exact wFF rfl rfl hc7) (y_move rfl) ?_
      refine sgy (some 11) (Value.bool (decide (128 < a1))) rfl rfl (by exact wFF rfl rfl hc7) (y_bin rfl rfl rfl) ?_
      refine sgy (some 12) (Value.bool (decide (128 < a1))) rfl rfl rfl (y_pickF rfl hc7 rfl) ?_
      exact Exists.intro (decide (128 < a1)) (And.intro (And.intro rfl trivial) (And.intro (bx_drop nd 0) hm))
  · refine cw_ifm hm rfl (fun hc3 hm => ?_) (fun hc3 hm => ?_)
    · refine cw_seq ?_
      refine cw_reg (l := [0, 1]) rfl rfl ?_
      refine sgy (some 4) (Value.pointer none) rfl rfl rfl (y_assign rfl) ?_
      refine sgy (some 5) (Value.int .i64 18) rfl rfl rfl (y_assign rfl) ?_
      refine drop.of ?_
      refine cw_ret ?_
      refine out_one [(Value.pointer none), (Value.int .i64 18)] (e_ref04_New (none, 18)) Try.results19 ?_ rfl ?_
      · exact (And.intro (rfl) (And.intro (rfl) trivial))
      · exact Exists.intro (none, 18) (And.intro rfl hm)
    · refine cw_skip ?_
      refine drop.of ?_
      refine cw_seq ?_
      refine cw_seq ?_
      refine cw_reg (l := [0, 1, 2]) rfl rfl ?_
      refine sgy (some 13) (Sl.val a0) rfl rfl rfl (y_move rfl) ?_
      refine sgy (some 14) (Value.int .i64 (a0.len : Int)) rfl rfl rfl (y_len (s := a0) rfl rfl Try.underlying22) ?_
      refine sgy (some 15) (Value.bool (decide (4096 < (a0.len : Int)))) rfl rfl rfl (y_bin rfl rfl rfl) ?_
      refine drop.of ?_
      refine cw_ifm hm rfl (fun hc4 hm => ?_) (fun hc4 hm => ?_)
      · refine cw_seq ?_
        refine cw_reg (l := [0, 1]) rfl rfl ?_
        refine sgy (some 4) (Value.pointer none) rfl rfl rfl (y_assign rfl) ?_
        refine sgy (some 5) (Value.int .i64 23) rfl rfl rfl (y_assign rfl) ?_
        refine drop.of ?_
        refine cw_ret ?_
        refine out_one [(Value.pointer none), (Value.int .i64 23)] (e_ref04_New (none, 23)) Try.results19 ?_ rfl ?_
        · exact (And.intro (rfl) (And.intro (rfl) trivial))
        · exact Exists.intro (none, 23) (And.intro rfl hm)
      · refine cw_skip ?_
        refine drop.of ?_
        refine cw_seq ?_
        refine cw_reg (l := [0]) rfl rfl ?_
        refine sgy (some 6) (Sl.val Sl.nil) rfl rfl rfl (y_assign rfl) ?_
        refine drop.of ?_
        refine cw_seq ?_
        refine cw_reg (l := [0, 1, 2, 3]) rfl rfl ?_
        refine sgy (some 16) (Sl.val Sl.nil) rfl rfl rfl (y_move rfl) ?_
        refine sgy (some 17) (Sl.val a0) rfl rfl rfl (y_move rfl) ?_
        refine sg rfl rfl (v_append Try.underlying22 Try.underlying22 i25 rfl rfl (s := Sl.nil) (x' := a0) rfl rfl hm (fun s5 h hm => ?_))
        refine sgy (some 6) (Sl.val s5) rfl rfl rfl (y_assign rfl) ?_
        refine drop.of ?_
        refine cw_seq ?_
        refine cw_reg (l := [0, 1, 2, 3, 4, 5]) rfl rfl ?_
        refine sgy (some 19) (Sl.val s5) rfl rfl rfl (y_move rfl) ?_
        refine sgy (some 20) (Value.int .i64 a1) rfl rfl rfl (y_move rfl) ?_
        refine sgy (some 21) (S_ref04_Draws.val (⟨s5, a1, 0⟩ : S_ref04_Draws)) rfl rfl rfl (y_build Try.underlying100 i100 rfl (sizes_cons i22 (sizes_cons i3 (sizes_cons i3 sizes_nil))) rfl (cs := #[(Sl.val s5), (Value.int .i64 a1), (Value.int .i64 0)]) rfl) ?_
        refine sg rfl rfl (v_box hm rfl (fun a6 h hm => ?_))
        refine sgy (some 4) (Value.pointer (some a6)) rfl rfl rfl (y_assign rfl) ?_
        refine sgy (some 5) (Value.int .i64 0) rfl rfl rfl (y_assign rfl) ?_
        refine drop.of ?_
        refine cw_ret ?_
        refine out_one [(Value.pointer (some a6)), (Value.int .i64 0)] (e_ref04_New ((some a6), 0)) Try.results19 ?_ rfl ?_
        · exact (And.intro (rfl) (And.intro (rfl) trivial))
        · exact Exists.intro ((some a6), 0) (And.intro rfl hm)
/-! (*sesame/sesameref04.Draws).Skip -/
def e_ref04_Draws_Skip : Int → Value := fun r => (Value.int .i64 r)
def m_ref04_Draws_Skip (a0 : Option Addr) (a1 : Int) (K : (Int) → H → Prop) : H → Prop :=
  mJoin (fun (s1 : Bool) =>
    mIf s1 (
      K 5
      ) (
      mDeref a0 fun a4 =>
      mStore (a4.add 2) [(Value.int .i64 a1)] <|
      K 0
      )
    ) (fun j2 =>
    mIf (decide (a1 < 0)) (
      j2 true
      ) (
      mDeref a0 fun a7 =>
      mLoad cSl (a7.add 0) fun x9 =>
      j2 (decide ((x9.len : Int) < a1))
      )
    )
set_option maxRecDepth 100000 in
set_option maxHeartbeats 8000000 in
theorem c_ref04_Draws_Skip {a0 : Option Addr} {a1 : Int} {K : (Int) → H → Prop} {h : H} (hm : m_ref04_Draws_Skip a0 a1 K h) : ACall Try.prog 23 #[(Value.pointer a0), (Value.int .i64 a1)] h (fun v h' => ∃ r, v = e_ref04_Draws_Skip r ∧ K r h') noP := by
  unfold m_ref04_Draws_Skip at hm
  have nd : (([] : List (Nat × Obj)).map Prod.fst).Nodup := List.nodup_nil
  refine cw_func Try.func23 rfl rfl ?_
  refine cw_seq ?_
  refine cw_reg (l := [0]) rfl rfl ?_
  refine sgy (some 4) (Value.int .i64 0) rfl rfl rfl (y_assign rfl) ?_
  refine drop.of ?_
  refine cw_seq ?_
  refine cw_joinM hm [5, 6, 7, 8, 9, 10, 11, 12, 13, 14, 15] (fun s1 => [(15, (Value.bool s1))]) (fun s1 => []) rfl (fun _ => nd) (fun hm => ?_) (fun s1 h junk nd hm => ?_)
  · refine cw_reg (l := [0, 1, 2, 3, 4, 5, 6, 7, 8, 9, 10]) rfl rfl ?_
    refine sgy (some 5) (Value.int .i64 a1) rfl rfl rfl (y_move rfl) ?_
    refine sgy (some 6) (Value.bool (decide (a1 < 0))) rfl rfl rfl (y_bin rfl rfl rfl) ?_
    refine sgy (some 7) (Value.bool (decide (a1 < 0))) rfl rfl rfl (y_move rfl) ?_
    refine mIf_elim hm (fun hc6 hm => ?_) (fun hc6 hm => ?_)
    · refine sgn (some 8) rfl rfl (by exact wFT rfl rfl hc6) ?_
      refine sgn (some 9) rfl rfl (by exact wFT rfl rfl hc6) ?_
      refine sgn (some 10) rfl rfl (by exact wFT rfl rfl hc6) ?_
      refine sgn (some 11) rfl rfl (by exact wFT rfl rfl hc6) ?_
      refine sgn (some 12) rfl rfl (by exact wFT rfl rfl hc6) ?_
      refine sgn (some 13) rfl rfl (by exact wFT rfl rfl hc6) ?_
      refine sgn (some 14) rfl rfl (by exact wFT rfl rfl hc6) ?_
      refine sgy (some 15) (Value.bool true) rfl rfl rfl (y_pickT rfl hc6 rfl) ?_
      exact Exists.intro true (And.intro (And.intro rfl trivial) (And.intro (bx_drop nd 0) hm))
    · refine sgy (some 8) (Value.int .i64 a1) rfl rfl (by exact wFF rfl rfl hc6) (y_move rfl) ?_
      refine sgy (some 9) (Value.pointer a0) rfl rfl (by exact wFF rfl rfl hc6) (y_move rfl) ?_
      obtain ⟨a7, hq8, hm⟩ := hm
      refine sgy (some 10) (Value.pointer (some a7)) rfl rfl (by exact wFF rfl rfl hc6) (y_nilP rfl hq8) ?_
      refine sgy (some 11) (Value.pointer (some (a7.add 0))) rfl rfl (by exact wFF rfl rfl hc6) (yv (y_fieldAddr rfl Try.underlying100 rfl i22 rfl) rfl) ?_
      refine sg rfl (by exact wFF rfl rfl hc6) (v_load hm rfl Try.underlying22 rfl Sl.val (fun _ => rfl) (fun x9 hm => ?_))
      refine sgy (some 13) (Value.int .i64 (x9.len : Int)) rfl rfl (by exact wFF rfl rfl hc6) (y_len (s := x9) rfl rfl Try.underlying22) ?_
      refine sgy (some 14) (Value.bool (decide ((x9.len : Int) < a1))) rfl rfl (by exact wFF rfl rfl hc6) (y_bin rfl rfl rfl) ?_
      refine sgy (some 15) (Value.bool (decide ((x9.len : Int) < a1))) rfl rfl rfl (y_pickF rfl hc6 rfl) ?_
      exact Exists.intro (decide ((x9.len : Int) < a1)) (And.intro (And.intro rfl trivial) (And.intro (bx_drop nd 0) hm))
  · refine cw_ifm hm rfl (fun hc3 hm => ?_) (fun hc3 hm => ?_)
    · refine cw_seq ?_
      refine cw_reg (l := [0]) rfl rfl ?_
      refine sgy (some 4) (Value.int .i64 5) rfl rfl rfl (y_assign rfl) ?_
      refine drop.of ?_
      refine cw_ret ?_
      refine out_one [(Value.int .i64 5)] (e_ref04_Draws_Skip 5) Try.results23 ?_ rfl ?_
      · exact (And.intro (rfl) trivial)
      · exact Exists.intro 5 (And.intro rfl hm)
    · refine cw_skip ?_
      refine drop.of ?_
      refine cw_seq ?_
      refine cw_reg (l := [0, 1, 2, 3, 4]) rfl rfl ?_
      refine sgy (some 16) (Value.pointer a0) rfl rfl rfl (y_move rfl) ?_
      refine sgy (some 17) (Value.int .i64 a1) rfl rfl rfl (y_move rfl) ?_
      obtain ⟨a4, hq5, hm⟩ := hm
      refine sgy (some 18) (Value.pointer (some a4)) rfl rfl rfl (y_nilP rfl hq5) ?_
      refine sgy (some 19) (Value.pointer (some (a4.add 2))) rfl rfl rfl (yv (y_fieldAddr rfl Try.underlying100 rfl i3 rfl) rfl) ?_
      refine sg rfl rfl (v_store hm rfl rfl rfl i3 rfl rfl (fun h hm => ?_))
      refine drop.of ?_
      refine cw_seq ?_
      refine cw_reg (l := [0]) rfl rfl ?_
      refine sgy (some 4) (Value.int .i64 0) rfl rfl rfl (y_assign rfl) ?_
      refine drop.of ?_
      refine cw_ret ?_
      refine out_one [(Value.int .i64 0)] (e_ref04_Draws_Skip 0) Try.results23 ?_ rfl ?_
      · exact (And.intro (rfl) trivial)
      · exact Exists.intro 0 (And.intro rfl hm)
/-! (*sesame/sesameref04.Draws).Taken -/
def e_ref04_Draws_Taken : Int → Value := fun r => (Value.int .i64 r)
def m_ref04_Draws_Taken (a0 : Option Addr) (K : (Int) → H → Prop) : H → Prop :=
  mDeref a0 fun a1 =>
  mLoad (cInt .i64) (a1.add 2) fun x3 =>
  K x3
set_option maxRecDepth 100000 in
set_option maxHeartbeats 8000000 in
theorem c_ref04_Draws_Taken {a0 : Option Addr} {K : (Int) → H → Prop} {h : H} (hm : m_ref04_Draws_Taken a0 K h) : ACall Try.prog 26 #[(Value.pointer a0)] h (fun v h' => ∃ r, v = e_ref04_Draws_Taken r ∧ K r h') noP := by
  unfold m_ref04_Draws_Taken at hm
  have nd : (([] : List (Nat × Obj)).map Prod.fst).Nodup := List.nodup_nil
  refine cw_func Try.func26 rfl rfl ?_
  refine cw_seq ?_
  refine cw_reg (l := [0]) rfl rfl ?_
  refine sgy (some 2) (Value.int .i64 0) rfl rfl rfl (y_assign rfl) ?_
  refine drop.of ?_
  refine cw_seq ?_
  refine cw_reg (l := [0, 1, 2, 3, 4]) rfl rfl ?_
  refine sgy (some 3) (Value.pointer a0) rfl rfl rfl (y_move rfl) ?_
  obtain ⟨a1, hq2, hm⟩ := hm
  refine sgy (some 4) (Value.pointer (some a1)) rfl rfl rfl (y_nilP rfl hq2) ?_
  refine sgy (some 5) (Value.pointer (some (a1.add 2))) rfl rfl rfl (yv (y_fieldAddr rfl Try.underlying100 rfl i3 rfl) rfl) ?_
  refine sg rfl rfl (v_load hm rfl Try.underlying3 rfl (Value.int .i64) (fun _ => rfl) (fun x3 hm => ?_))
  refine sgy (some 2) (Value.int .i64 x3) rfl rfl rfl (y_assign rfl) ?_
  refine drop.of ?_
  refine cw_ret ?_
  refine out_one [(Value.int .i64 x3)] (e_ref04_Draws_Taken x3) Try.results26 ?_ rfl ?_
  · exact (And.intro (rfl) trivial)
  · exact Exists.intro x3 (And.intro rfl hm)
/-! (*sesame/sesameref04.Draws).Draw -/
def e_ref04_Draws_Draw : S_api_Word × Int → Value := fun r => Value.tuple #[(S_api_Word.val r.1), (Value.int .i64 r.2)]
def m_ref04_Draws_Draw (a0 : Option Addr) (K : (S_api_Word × Int) → H → Prop) : H → Prop :=
  mDeref a0 fun a2 =>
  mDeref a0 fun a4 =>
  mLoad (cInt .i64) (a2.add 2) fun x6 =>
  mLoad cSl (a4.add 0) fun x7 =>
  mIf (decide (x6 = (x7.len : Int))) (
    K ((⟨0, 0⟩ : S_api_Word), 11)
    ) (
    mDeref a0 fun a9 =>
    mLoad (cInt .i64) (a9.add 2) fun x11 =>
    mDeref a0 fun a12 =>
    mStore (a12.add 2) [(Value.int .i64 (iAdd .i64 x11 1))] <|
    mDeref a0 fun a14 =>
    mDeref a0 fun a16 =>
    mDeref a0 fun a18 =>
    mLoad cSl (a14.add 0) fun x20 =>
    mLoad (cInt .i64) (a16.add 2) fun x21 =>
    mIdx x20 (iSub .i64 x21 1) 2 fun a22 =>
    mLoad S_api_Word.cells a22 fun x24 =>
    mLoad (cInt .i64) (a18.add 1) fun x25 =>
    mPure (m_ref01_Cut x24 x25) fun r26 =>
    K (r26, 0)
    )
set_option maxRecDepth 100000 in
set_option maxHeartbeats 8000000 in
theorem c_ref04_Draws_Draw {a0 : Option Addr} {K : (S_api_Word × Int) → H → Prop} {h : H} (hm : m_ref04_Draws_Draw a0 K h) : ACall Try.prog 53 #[(Value.pointer a0)] h (fun v h' => ∃ r, v = e_ref04_Draws_Draw r ∧ K r h') noP := by
  unfold m_ref04_Draws_Draw at hm
  have nd : (([] : List (Nat × Obj)).map Prod.fst).Nodup := List.nodup_nil
  refine cw_func Try.func53 rfl rfl ?_
  refine cw_seq ?_
  refine cw_reg (l := [0, 1]) rfl rfl ?_
  refine sg rfl rfl (b_alloc nd i25 rfl (c := #[(Value.int .u64 0), (Value.int .u64 0)]) rfl (fun b1 nd => ?_))
  refine sgy (some 3) (Value.int .i64 0) rfl rfl rfl (y_assign rfl) ?_
  refine drop.of ?_
  refine cw_seq ?_
  refine cw_seq ?_
  refine cw_draw mixed rfl ?_
  refine tyy 0 (some 4) (Value.pointer a0) rfl rfl (by kernel_rfl) (by kernel_rfl) (by kernel_rfl) rfl (y_move rfl) ?_
  obtain ⟨a2, hq3, hm⟩ := hm
  refine tyy 1 (some 5) (Value.pointer (some a2)) rfl rfl (by kernel_rfl) (by kernel_rfl) (by kernel_rfl) rfl (y_nilP rfl hq3) ?_
  refine tyy 2 (some 6) (Value.pointer (some (a2.add 2))) rfl rfl (by kernel_rfl) (by kernel_rfl) (by kernel_rfl) rfl (yv (y_fieldAddr rfl Try.underlying100 rfl i3 rfl) rfl) ?_
  refine tyy 4 (some 8) (Value.pointer a0) rfl rfl (by kernel_rfl) (by kernel_rfl) (by kernel_rfl) rfl (y_move rfl) ?_
  obtain ⟨a4, hq5, hm⟩ := hm
  refine tyy 5 (some 9) (Value.pointer (some a4)) rfl rfl (by kernel_rfl) (by kernel_rfl) (by kernel_rfl) rfl (y_nilP rfl hq5) ?_
  refine tyy 6 (some 10) (Value.pointer (some (a4.add 0))) rfl rfl (by kernel_rfl) (by kernel_rfl) (by kernel_rfl) rfl (yv (y_fieldAddr rfl Try.underlying100 rfl i22 rfl) rfl) ?_
  refine tq 3 rfl (by kernel_rfl) (by kernel_rfl) (by kernel_rfl) rfl (v_load hm rfl Try.underlying3 rfl (Value.int .i64) (fun _ => rfl) (fun x6 hm => ?_))
  refine tq 7 rfl (by kernel_rfl) (by kernel_rfl) (by kernel_rfl) rfl (v_load hm rfl Try.underlying22 rfl Sl.val (fun _ => rfl) (fun x7 hm => ?_))
  refine tyy 8 (some 12) (Value.int .i64 (x7.len : Int)) rfl rfl (by kernel_rfl) (by kernel_rfl) (by kernel_rfl) rfl (y_len (s := x7) rfl rfl Try.underlying22) ?_
  refine tyy 9 (some 13) (Value.bool (decide (x6 = (x7.len : Int)))) rfl rfl (by kernel_rfl) (by kernel_rfl) (by kernel_rfl) rfl (y_bin rfl rfl rfl) ?_
  refine td (by kernel_rfl) ?_
  refine drop.of ?_
  refine cw_ifm hm rfl (fun hc8 hm => ?_) (fun hc8 hm => ?_)
  · refine cw_seq ?_
    refine cw_reg (l := [0, 1, 2]) rfl rfl ?_
    refine sgy (some 14) (S_api_Word.val (⟨0, 0⟩ : S_api_Word)) rfl rfl rfl (y_build Try.underlying25 i25 rfl (sizes_cons i23 (sizes_cons i23 sizes_nil)) rfl (cs := #[(Value.int .u64 0), (Value.int .u64 0)]) rfl) ?_
    refine sg rfl rfl (b_store 0 nd rfl rfl rfl i25 rfl rfl rfl (c' := #[(Value.int .u64 0), (Value.int .u64 0)]) rfl (fun nd => ?_))
    refine sgy (some 3) (Value.int .i64 11) rfl rfl rfl (y_assign rfl) ?_
    refine drop.of ?_
    refine cw_ret ?_
    refine out_one [(S_api_Word.val (⟨0, 0⟩ : S_api_Word)), (Value.int .i64 11)] (e_ref04_Draws_Draw ((⟨0, 0⟩ : S_api_Word), 11)) Try.results53 ?_ rfl ?_
    · exact (And.intro (⟨_, rfl, res_box 0 nd rfl Try.underlying25 rfl i25 rfl⟩) (And.intro (rfl) trivial))
    · exact Exists.intro ((⟨0, 0⟩ : S_api_Word), 11) (And.intro rfl hm)
  · refine cw_skip ?_
    refine drop.of ?_
    refine cw_seq ?_
    refine cw_reg (l := [0, 1, 2, 3, 4, 5, 6, 7]) rfl rfl ?_
    refine sgy (some 15) (Value.pointer a0) rfl rfl rfl (y_move rfl) ?_
    obtain ⟨a9, hq10, hm⟩ := hm
    refine sgy (some 16) (Value.pointer (some a9)) rfl rfl rfl (y_nilP rfl hq10) ?_
    refine sgy (some 17) (Value.pointer (some (a9.add 2))) rfl rfl rfl (yv (y_fieldAddr rfl Try.underlying100 rfl i3 rfl) rfl) ?_
    refine sg rfl rfl (v_load hm rfl Try.underlying3 rfl (Value.int .i64) (fun _ => rfl) (fun x11 hm => ?_))
    refine sgy (some 19) (Value.int .i64 (iAdd .i64 x11 1)) rfl rfl rfl (y_bin rfl rfl rfl) ?_
    obtain ⟨a12, hq13, hm⟩ := hm
    refine sgy (some 20) (Value.pointer (some a12)) rfl rfl rfl (y_nilP rfl hq13) ?_
    refine sgy (some 21) (Value.pointer (some (a12.add 2))) rfl rfl rfl (yv (y_fieldAddr rfl Try.underlying100 rfl i3 rfl) rfl) ?_
    refine sg rfl rfl (v_store hm rfl rfl rfl i3 rfl rfl (fun h hm => ?_))
    refine drop.of ?_
    refine cw_seq ?_
    refine cw_draw mixed rfl ?_
    refine tyy 0 (some 22) (Value.pointer a0) rfl rfl (by kernel_rfl) (by kernel_rfl) (by kernel_rfl) rfl (y_move rfl) ?_
    obtain ⟨a14, hq15, hm⟩ := hm
    refine tyy 1 (some 23) (Value.pointer (some a14)) rfl rfl (by kernel_rfl) (by kernel_rfl) (by kernel_rfl) rfl (y_nilP rfl hq15) ?_
    refine tyy 2 (some 24) (Value.pointer (some (a14.add 0))) rfl rfl (by kernel_rfl) (by kernel_rfl) (by kernel_rfl) rfl (yv (y_fieldAddr rfl Try.underlying100 rfl i22 rfl) rfl) ?_
    refine tyy 4 (some 26) (Value.pointer a0) rfl rfl (by kernel_rfl) (by kernel_rfl) (by kernel_rfl) rfl (y_move rfl) ?_
    obtain ⟨a16, hq17, hm⟩ := hm
    refine tyy 5 (some 27) (Value.pointer (some a16)) rfl rfl (by kernel_rfl) (by kernel_rfl) (by kernel_rfl) rfl (y_nilP rfl hq17) ?_
    refine tyy 6 (some 28) (Value.pointer (some (a16.add 2))) rfl rfl (by kernel_rfl) (by kernel_rfl) (by kernel_rfl) rfl (yv (y_fieldAddr rfl Try.underlying100 rfl i3 rfl) rfl) ?_
    refine tyy 11 (some 33) (Value.pointer a0) rfl rfl (by kernel_rfl) (by kernel_rfl) (by kernel_rfl) rfl (y_move rfl) ?_
    obtain ⟨a18, hq19, hm⟩ := hm
    refine tyy 12 (some 34) (Value.pointer (some a18)) rfl rfl (by kernel_rfl) (by kernel_rfl) (by kernel_rfl) rfl (y_nilP rfl hq19) ?_
    refine tyy 13 (some 35) (Value.pointer (some (a18.add 1))) rfl rfl (by kernel_rfl) (by kernel_rfl) (by kernel_rfl) rfl (yv (y_fieldAddr rfl Try.underlying100 rfl i3 rfl) rfl) ?_
    refine tq 3 rfl (by kernel_rfl) (by kernel_rfl) (by kernel_rfl) rfl (v_load hm rfl Try.underlying22 rfl Sl.val (fun _ => rfl) (fun x20 hm => ?_))
    refine tq 7 rfl (by kernel_rfl) (by kernel_rfl) (by kernel_rfl) rfl (v_load hm rfl Try.underlying3 rfl (Value.int .i64) (fun _ => rfl) (fun x21 hm => ?_))
    refine tyy 8 (some 30) (Value.int .i64 (iSub .i64 x21 1)) rfl rfl (by kernel_rfl) (by kernel_rfl) (by kernel_rfl) rfl (y_bin rfl rfl rfl) ?_
    obtain ⟨a22, hq23, hm⟩ := hm
    refine tyy 9 (some 31) (Value.pointer (some a22)) rfl rfl (by kernel_rfl) (by kernel_rfl) (by kernel_rfl) rfl (y_idx Try.underlying22 i25 rfl rfl hq23) ?_
    refine tq 10 rfl (by kernel_rfl) (by kernel_rfl) (by kernel_rfl) rfl (v_loadA hm rfl Try.underlying25 rfl i25 S_api_Word.val (fun _ => ⟨rfl, rfl⟩) (fun x24 hm => ?_))
    refine tq 14 rfl (by kernel_rfl) (by kernel_rfl) (by kernel_rfl) rfl (v_load hm rfl Try.underlying3 rfl (Value.int .i64) (fun _ => rfl) (fun x25 hm => ?_))
    obtain ⟨r26, hq27, hm⟩ := hm
    refine tyy 15 (some 37) (e_ref01_Cut r26) rfl rfl (by kernel_rfl) (by kernel_rfl) (by kernel_rfl) rfl (y_call (enc := e_ref01_Cut) hq27 (fun k h hk => c_ref01_Cut hk) callee34 rfl) ?_
    refine t1 16 rfl (by kernel_rfl) rfl (b_store 0 nd rfl rfl rfl i25 rfl rfl rfl (c' := #[(Value.int .u64 r26.Hi), (Value.int .u64 r26.Lo)]) rfl (fun nd => ?_))
    refine tyy 17 (some 3) (Value.int .i64 0) rfl rfl (by kernel_rfl) (by kernel_rfl) (by kernel_rfl) rfl (y_assign rfl) ?_
    refine td (by kernel_rfl) ?_
    refine drop.of ?_
    refine cw_ret ?_
    refine out_one [(S_api_Word.val r26), (Value.int .i64 0)] (e_ref04_Draws_Draw (r26, 0)) Try.results53 ?_ rfl ?_
    · exact (And.intro (⟨_, rfl, res_box 0 nd rfl Try.underlying25 rfl i25 rfl⟩) (And.intro (rfl) trivial))
    · exact Exists.intro (r26, 0) (And.intro rfl hm)
/-! (*sesame/sesameref04.Draws).Left -/
def e_ref04_Draws_Left : Int → Value := fun r => (Value.int .i64 r)
def m_ref04_Draws_Left (a0 : Option Addr) (K : (Int) → H → Prop) : H → Prop :=
  mDeref a0 fun a1 =>
  mDeref a0 fun a3 =>
  mLoad cSl (a1.add 0) fun x5 =>
  mLoad (cInt .i64) (a3.add 2) fun x6 =>
  K (iSub .i64 (x5.len : Int) x6)
set_option maxRecDepth 100000 in
set_option maxHeartbeats 8000000 in
theorem c_ref04_Draws_Left {a0 : Option Addr} {K : (Int) → H → Prop} {h : H} (hm : m_ref04_Draws_Left a0 K h) : ACall Try.prog 54 #[(Value.pointer a0)] h (fun v h' => ∃ r, v = e_ref04_Draws_Left r ∧ K r h') noP := by
  unfold m_ref04_Draws_Left at hm
  have nd : (([] : List (Nat × Obj)).map Prod.fst).Nodup := List.nodup_nil
  refine cw_func Try.func54 rfl rfl ?_
  refine cw_seq ?_
  refine cw_reg (l := [0]) rfl rfl ?_
  refine sgy (some 2) (Value.int .i64 0) rfl rfl rfl (y_assign rfl) ?_
  refine drop.of ?_
  refine cw_seq ?_
  refine cw_draw mixed rfl ?_
  refine tyy 0 (some 3) (Value.pointer a0) rfl rfl (by kernel_rfl) (by kernel_rfl) (by kernel_rfl) rfl (y_move rfl) ?_
  obtain ⟨a1, hq2, hm⟩ := hm
  refine tyy 1 (some 4) (Value.pointer (some a1)) rfl rfl (by kernel_rfl) (by kernel_rfl) (by kernel_rfl) rfl (y_nilP rfl hq2) ?_
  refine tyy 2 (some 5) (Value.pointer (some (a1.add 0))) rfl rfl (by kernel_rfl) (by kernel_rfl) (by kernel_rfl) rfl (yv (y_fieldAddr rfl Try.underlying100 rfl i22 rfl) rfl) ?_
  refine tyy 5 (some 8) (Value.pointer a0) rfl rfl (by kernel_rfl) (by kernel_rfl) (by kernel_rfl) rfl (y_move rfl) ?_
  obtain ⟨a3, hq4, hm⟩ := hm
  refine tyy 6 (some 9) (Value.pointer (some a3)) rfl rfl (by kernel_rfl) (by kernel_rfl) (by kernel_rfl) rfl (y_nilP rfl hq4) ?_
  refine tyy 7 (some 10) (Value.pointer (some (a3.add 2))) rfl rfl (by kernel_rfl) (by kernel_rfl) (by kernel_rfl) rfl (yv (y_fieldAddr rfl Try.underlying100 rfl i3 rfl) rfl) ?_
  refine tq 3 rfl (by kernel_rfl) (by kernel_rfl) (by kernel_rfl) rfl (v_load hm rfl Try.underlying22 rfl Sl.val (fun _ => rfl) (fun x5 hm => ?_))
  refine tyy 4 (some 7) (Value.int .i64 (x5.len : Int)) rfl rfl (by kernel_rfl) (by kernel_rfl) (by kernel_rfl) rfl (y_len (s := x5) rfl rfl Try.underlying22) ?_
  refine tq 8 rfl (by kernel_rfl) (by kernel_rfl) (by kernel_rfl) rfl (v_load hm rfl Try.underlying3 rfl (Value.int .i64) (fun _ => rfl) (fun x6 hm => ?_))
  refine tyy 9 (some 12) (Value.int .i64 (iSub .i64 (x5.len : Int) x6)) rfl rfl (by kernel_rfl) (by kernel_rfl) (by kernel_rfl) rfl (y_bin rfl rfl rfl) ?_
  refine tyy 10 (some 2) (Value.int .i64 (iSub .i64 (x5.len : Int) x6)) rfl rfl (by kernel_rfl) (by kernel_rfl) (by kernel_rfl) rfl (y_assign rfl) ?_
  refine td (by kernel_rfl) ?_
  refine drop.of ?_
  refine cw_ret ?_
  refine out_one [(Value.int .i64 (iSub .i64 (x5.len : Int) x6))] (e_ref04_Draws_Left (iSub .i64 (x5.len : Int) x6)) Try.results54 ?_ rfl ?_
  · exact (And.intro (rfl) trivial)
  · exact Exists.intro (iSub .i64 (x5.len : Int) x6) (And.intro rfl hm)
end Go.Proofs.Ytnmaknkbdfpbkaa.K
