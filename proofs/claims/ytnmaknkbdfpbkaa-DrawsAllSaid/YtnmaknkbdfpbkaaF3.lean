/- Printed by gen.py: what these functions of the program come to. -/
import Derived.Test.YtnmaknkbdfpbkaaT
namespace Go.Proofs.Ytnmaknkbdfpbkaa.K
open Go Go.Proofs
/-! sesame/sesameref04.New -/
def e_ref04_New : Option Addr × Int → Value := fun r => Value.tuple #[(Value.pointer r.1), (Value.int .i64 r.2)]
def m_ref04_New (a0 : Sl) (a1 : Int) (K : (Option Addr × Int) → H → Prop) : H → Prop :=
  mJoin (fun (s1 : Bool) =>
    mIf s1 (
      K (none, 18)
      ) (
      mIf (decide (4096 < (a0.len : Int))) (
        K (none, 23)
        ) (
        mAppend 25 2 16 #[(Value.int .u64 0), (Value.int .u64 0)] Sl.nil a0 fun s5 =>
        mNew 100 #[(Sl.val s5), (Value.int .i64 a1), (Value.int .i64 0)] fun a6 =>
        K ((some a6), 0)
        )
      )
    ) (fun j2 =>
    mIf (decide (a1 < 1)) (
      j2 true
      ) (
      j2 (decide (128 < a1))
      )
    )
set_option maxRecDepth 100000 in
set_option maxHeartbeats 8000000 in
theorem c_ref04_New {a0 : Sl} {a1 : Int} {K : (Option Addr × Int) → H → Prop} {h : H} (hm : m_ref04_New a0 a1 K h) : ACall Try.prog 19 #[(Sl.val a0), (Value.int .i64 a1)] h (fun v h' => ∃ r, v = e_ref04_New r ∧ K r h') noP := by
  unfold m_ref04_New at hm
  have nd : (([] : List (Nat × Obj)).map Prod.fst).Nodup := List.nodup_nil
  refine cw_func Try.func19 rfl rfl ?_
  refine cw_seq ?_
  refine cw_reg (l := [0, 1]) rfl rfl ?_
  refine sgy (some 4) (Value.pointer none) rfl rfl rfl (y_assign rfl) ?_
  refine sgy (some 5) (Value.int .i64 0) rfl rfl rfl (y_assign rfl) ?_
  refine drop.of ?_
  refine cw_seq ?_
  refine cw_joinM hm [7, 8, 9, 10, 11, 12] (fun s1 => [(12, (Value.bool s1))]) (fun s1 => []) rfl (fun _ => nd) (fun hm => ?_) (fun s1 h junk nd hm => ?_)
  · refine cw_reg (l := [0, 1, 2, 3, 4, 5]) rfl rfl ?_
    refine sgy (some 7) (Value.int .i64 a1) rfl rfl rfl (y_move rfl) ?_
    refine sgy (some 8) (Value.bool (decide (a1 < 1))) rfl rfl rfl (y_bin rfl rfl rfl) ?_
    refine sgy (some 9) (Value.bool (decide (a1 < 1))) rfl rfl rfl (y_move rfl) ?_
    refine mIf_elim hm (fun hc7 hm => ?_) (fun hc7 hm => ?_)
    · refine sgn (some 10) rfl rfl (by exact wFT rfl rfl hc7) ?_
      refine sgn (some 11) rfl rfl (by exact wFT rfl rfl hc7) ?_
      refine sgy (some 12) (Value.bool true) rfl rfl rfl (y_pickT rfl hc7 rfl) ?_
      exact Exists.intro true (And.intro (And.intro rfl trivial) (And.intro (bx_drop nd 0) hm))
    · refine sgy (some 10) (Value.int .i64 a1) rfl rfl (by exact wFF rfl rfl hc7) (y_move rfl) ?_
      refine sgy (some 11) (Value.bool (decide (128 < a1))) rfl rfl (by exact wFF rfl rfl hc7) (y_bin rfl rfl rfl) ?_
      refine sgy (some 12) (Value.bool (decide (128 < a1))) rfl rfl rfl (y_pickF rfl hc7 rfl) ?_
      exact Exists.intro (decide (128 < a1)) (And.intro (And.intro rfl trivial) (And.intro (bx_drop nd 0) hm))
  · refine cw_ifm hm rfl (fun hc3 hm => ?_) (fun hc3 hm => ?_)
    · refine cw_seq ?_
      refine cw_reg (l := [0, 1]) rfl rfl ?_
      refine sgy (some 4) (Value.pointer none) rfl rfl rfl (y_assign rfl) ?_
      refine sgy (some 5) (Value.int .i64 18) rfl rfl rfl (y_assign rfl) ?_
      refine drop.of ?_
      refine cw_ret ?_
      refine out_one [(Value.pointer none), (Value.int .i64 18)] (e_ref04_New (none, 18)) Try.results19 ?_ rfl ?_
      · exact (And.intro (rfl) (And.intro (rfl) trivial))
      · exact Exists.intro (none, 18) (And.intro rfl hm)
    · refine cw_skip ?_
      refine drop.of ?_
      refine cw_seq ?_
      refine cw_seq ?_
      refine cw_reg (l := [0, 1, 2]) rfl rfl ?_
      refine sgy (some 13) (Sl.val a0) rfl rfl rfl (y_move rfl) ?_
      refine sgy (some 14) (Value.int .i64 (a0.len : Int)) rfl rfl rfl (y_len (s := a0) rfl rfl Try.underlying22) ?_
      refine sgy (some 15) (Value.bool (decide (4096 < (a0.len : Int)))) rfl rfl rfl (y_bin rfl rfl rfl) ?_
      refine drop.of ?_
      refine cw_ifm hm rfl (fun hc4 hm => ?_) (fun hc4 hm => ?_)
      · refine cw_seq ?_
        refine cw_reg (l := [0, 1]) rfl rfl ?_
        refine sgy (some 4) (Value.pointer none) rfl rfl rfl (y_assign rfl) ?_
        refine sgy (some 5) (Value.int .i64 23) rfl rfl rfl (y_assign rfl) ?_
        refine drop.of ?_
        refine cw_ret ?_
        refine out_one [(Value.pointer none), (Value.int .i64 23)] (e_ref04_New (none, 23)) Try.results19 ?_ rfl ?_
        · exact (And.intro (rfl) (And.intro (rfl) trivial))
        · exact Exists.intro (none, 23) (And.intro rfl hm)
      · refine cw_skip ?_
        refine drop.of ?_
        refine cw_seq ?_
        refine cw_reg (l := [0]) rfl rfl ?_
        refine sgy (some 6) (Sl.val Sl.nil) rfl rfl rfl (y_assign rfl) ?_
        refine drop.of ?_
        refine cw_seq ?_
        refine cw_reg (l := [0, 1, 2, 3]) rfl rfl ?_
        refine sgy (some 16) (Sl.val Sl.nil) rfl rfl rfl (y_move rfl) ?_
        refine sgy (some 17) (Sl.val a0) rfl rfl rfl (y_move rfl) ?_
        refine sg rfl rfl (v_append Try.underlying22 Try.underlying22 i25 rfl rfl (s := Sl.nil) (x' := a0) rfl rfl hm (fun s5 h hm => ?_))
        refine sgy (some 6) (Sl.val s5) rfl rfl rfl (y_assign rfl) ?_
        refine drop.of ?_
        refine cw_seq ?_
        refine cw_reg (l := [0, 1, 2, 3, 4, 5]) rfl rfl ?_
        refine sgy (some 19) (Sl.val s5) rfl rfl rfl (y_move rfl) ?_
        refine sgy (some 20) (Value.int .i64 a1) rfl rfl rfl (y_move rfl) ?_
        refine sgy (some 21) (S_ref04_Draws.val (⟨s5, a1, 0⟩ : S_ref04_Draws)) rfl rfl rfl (y_build Try.underlying100 i100 rfl (sizes_cons i22 (sizes_cons i3 (sizes_cons i3 sizes_nil))) rfl (cs := #[(Sl.val s5), (Value.int .i64 a1), (Value.int .i64 0)]) rfl) ?_
        refine sg rfl rfl (v_box hm rfl (fun a6 h hm => ?_))
        refine sgy (some 4) (Value.pointer (some a6)) rfl rfl rfl (y_assign rfl) ?_
        refine sgy (some 5) (Value.int .i64 0) rfl rfl rfl (y_assign rfl) ?_
        refine drop.of ?_
        refine cw_ret ?_
        refine out_one [(Value.pointer (some a6)), (Value.int .i64 0)] (e_ref04_New ((some a6), 0)) Try.results19 ?_ rfl ?_
        · exact (And.intro (rfl) (And.intro (rfl) trivial))
        · exact Exists.intro ((some a6), 0) (And.intro rfl hm)
/-! (*sesame/draws.Draws).Skip -/
def e_draws_Draws_Skip : Int → Value := fun r => (Value.int .i64 r)
def m_draws_Draws_Skip (a0 : Option Addr) (a1 : Int) (K : (Int) → H → Prop) : H → Prop :=
  mJoin (fun (s1 : Bool) =>
    mIf s1 (
      K 5
      ) (
      mDeref a0 fun a4 =>
      mStore (a4.add 1) [(Value.int .i64 a1)] <|
      K 0
      )
    ) (fun j2 =>
    mIf (decide (a1 < 0)) (
      j2 true
      ) (
      mDeref a0 fun a7 =>
      mLoad cSl (a7.add 0) fun x9 =>
      j2 (decide ((x9.len : Int) < a1))
      )
    )
set_option maxRecDepth 100000 in
set_option maxHeartbeats 8000000 in
theorem c_draws_Draws_Skip {a0 : Option Addr} {a1 : Int} {K : (Int) → H → Prop} {h : H} (hm : m_draws_Draws_Skip a0 a1 K h) : ACall Try.prog 21 #[(Value.pointer a0), (Value.int .i64 a1)] h (fun v h' => ∃ r, v = e_draws_Draws_Skip r ∧ K r h') noP := by
  unfold m_draws_Draws_Skip at hm
  have nd : (([] : List (Nat × Obj)).map Prod.fst).Nodup := List.nodup_nil
  refine cw_func Try.func21 rfl rfl ?_
  refine cw_seq ?_
  refine cw_reg (l := [0]) rfl rfl ?_
  refine sgy (some 4) (Value.int .i64 0) rfl rfl rfl (y_assign rfl) ?_
  refine drop.of ?_
  refine cw_seq ?_
  refine cw_joinM hm [5, 6, 7, 8, 9, 10, 11, 12, 13, 14, 15] (fun s1 => [(15, (Value.bool s1))]) (fun s1 => []) rfl (fun _ => nd) (fun hm => ?_) (fun s1 h junk nd hm => ?_)
  · refine cw_reg (l := [0, 1, 2, 3, 4, 5, 6, 7, 8, 9, 10]) rfl rfl ?_
    refine sgy (some 5) (Value.int .i64 a1) rfl rfl rfl (y_move rfl) ?_
    refine sgy (some 6) (Value.bool (decide (a1 < 0))) rfl rfl rfl (y_bin rfl rfl rfl) ?_
    refine sgy (some 7) (Value.bool (decide (a1 < 0))) rfl rfl rfl (y_move rfl) ?_
    refine mIf_elim hm (fun hc6 hm => ?_) (fun hc6 hm => ?_)
    · refine sgn (some 8) rfl rfl (by exact wFT rfl rfl hc6) ?_
      refine sgn (some 9) rfl rfl (by exact wFT rfl rfl hc6) ?_
      refine sgn (some 10) rfl rfl (by exact wFT rfl rfl hc6) ?_
      refine sgn (some 11) rfl rfl (by exact wFT rfl rfl hc6) ?_
      refine sgn (some 12) rfl rfl (by exact wFT rfl rfl hc6) ?_
      refine sgn (some 13) rfl rfl (by exact wFT rfl rfl hc6) ?_
      refine sgn (some 14) rfl rfl (by exact wFT rfl rfl hc6) ?_
      refine sgy (some 15) (Value.bool true) rfl rfl rfl (y_pickT rfl hc6 rfl) ?_
      exact Exists.intro true (And.intro (And.intro rfl trivial) (And.intro (bx_drop nd 0) hm))
    · refine sgy (some 8) (Value.int .i64 a1) rfl rfl (by exact wFF rfl rfl hc6) (y_move rfl) ?_
      refine sgy (some 9) (Value.pointer a0) rfl rfl (by exact wFF rfl rfl hc6) (y_move rfl) ?_
      obtain ⟨a7, hq8, hm⟩ := hm
      refine sgy (some 10) (Value.pointer (some a7)) rfl rfl (by exact wFF rfl rfl hc6) (y_nilP rfl hq8) ?_
      refine sgy (some 11) (Value.pointer (some (a7.add 0))) rfl rfl (by exact wFF rfl rfl hc6) (yv (y_fieldAddr rfl Try.underlying97 rfl i95 rfl) rfl) ?_
      refine sg rfl (by exact wFF rfl rfl hc6) (v_load hm rfl Try.underlying95 rfl Sl.val (fun _ => rfl) (fun x9 hm => ?_))
      refine sgy (some 13) (Value.int .i64 (x9.len : Int)) rfl rfl (by exact wFF rfl rfl hc6) (y_len (s := x9) rfl rfl Try.underlying95) ?_
      refine sgy (some 14) (Value.bool (decide ((x9.len : Int) < a1))) rfl rfl (by exact wFF rfl rfl hc6) (y_bin rfl rfl rfl) ?_
      refine sgy (some 15) (Value.bool (decide ((x9.len : Int) < a1))) rfl rfl rfl (y_pickF rfl hc6 rfl) ?_
      exact Exists.intro (decide ((x9.len : Int) < a1)) (And.intro (And.intro rfl trivial) (And.intro (bx_drop nd 0) hm))
  · refine cw_ifm hm rfl (fun hc3 hm => ?_) (fun hc3 hm => ?_)
    · refine cw_seq ?_
      refine cw_reg (l := [0]) rfl rfl ?_
      refine sgy (some 4) (Value.int .i64 5) rfl rfl rfl (y_assign rfl) ?_
      refine drop.of ?_
      refine cw_ret ?_
      refine out_one [(Value.int .i64 5)] (e_draws_Draws_Skip 5) Try.results21 ?_ rfl ?_
      · exact (And.intro (rfl) trivial)
      · exact Exists.intro 5 (And.intro rfl hm)
    · refine cw_skip ?_
      refine drop.of ?_
      refine cw_seq ?_
      refine cw_reg (l := [0, 1, 2, 3, 4]) rfl rfl ?_
      refine sgy (some 16) (Value.pointer a0) rfl rfl rfl (y_move rfl) ?_
      refine sgy (some 17) (Value.int .i64 a1) rfl rfl rfl (y_move rfl) ?_
      obtain ⟨a4, hq5, hm⟩ := hm
      refine sgy (some 18) (Value.pointer (some a4)) rfl rfl rfl (y_nilP rfl hq5) ?_
      refine sgy (some 19) (Value.pointer (some (a4.add 1))) rfl rfl rfl (yv (y_fieldAddr rfl Try.underlying97 rfl i3 rfl) rfl) ?_
      refine sg rfl rfl (v_store hm rfl rfl rfl i3 rfl rfl (fun h hm => ?_))
      refine drop.of ?_
      refine cw_seq ?_
      refine cw_reg (l := [0]) rfl rfl ?_
      refine sgy (some 4) (Value.int .i64 0) rfl rfl rfl (y_assign rfl) ?_
      refine drop.of ?_
      refine cw_ret ?_
      refine out_one [(Value.int .i64 0)] (e_draws_Draws_Skip 0) Try.results21 ?_ rfl ?_
      · exact (And.intro (rfl) trivial)
      · exact Exists.intro 0 (And.intro rfl hm)
/-! (*sesame/sesameref04.Draws).Skip -/
def e_ref04_Draws_Skip : Int → Value := fun r => (Value.int .i64 r)
def m_ref04_Draws_Skip (a0 : Option Addr) (a1 : Int) (K : (Int) → H → Prop) : H → Prop :=
  mJoin (fun (s1 : Bool) =>
    mIf s1 (
      K 5
      ) (
      mDeref a0 fun a4 =>
      mStore (a4.add 2) [(Value.int .i64 a1)] <|
      K 0
      )
    ) (fun j2 =>
    mIf (decide (a1 < 0)) (
      j2 true
      ) (
      mDeref a0 fun a7 =>
      mLoad cSl (a7.add 0) fun x9 =>
      j2 (decide ((x9.len : Int) < a1))
      )
    )
set_option maxRecDepth 100000 in
set_option maxHeartbeats 8000000 in
theorem c_ref04_Draws_Skip {a0 : Option Addr} {a1 : Int} {K : (Int) → H → Prop} {h : H} (hm : m_ref04_Draws_Skip a0 a1 K h) : ACall Try.prog 23 #[(Value.pointer a0), (Value.int .i64 a1)] h (fun v h' => ∃ r, v = e_ref04_Draws_Skip r ∧ K r h') noP := by
  unfold m_ref04_Draws_Skip at hm
  have nd : (([] : List (Nat × Obj)).map Prod.fst).Nodup := List.nodup_nil
  refine cw_func Try.func23 rfl rfl ?_
  refine cw_seq ?_
  refine cw_reg (l := [0]) rfl rfl ?_
  refine sgy (some 4) (Value.int .i64 0) rfl rfl rfl (y_assign rfl) ?_
  refine drop.of ?_
  refine cw_seq ?_
  refine cw_joinM hm [5, 6, 7, 8, 9, 10, 11, 12, 13, 14, 15] (fun s1 => [(15, (Value.bool s1))]) (fun s1 => []) rfl (fun _ => nd) (fun hm => ?_) (fun s1 h junk nd hm => ?_)
  · refine cw_reg (l := [0, 1, 2, 3, 4, 5, 6, 7, 8, 9, 10]) rfl rfl ?_
    refine sgy (some 5) (Value.int .i64 a1) rfl rfl rfl (y_move rfl) ?_
    refine sgy (some 6) (Value.bool (decide (a1 < 0))) rfl rfl rfl (y_bin rfl rfl rfl) ?_
    refine sgy (some 7) (Value.bool (decide (a1 < 0))) rfl rfl rfl (y_move rfl) ?_
    refine mIf_elim hm (fun hc6 hm => ?_) (fun hc6 hm => ?_)
    · refine sgn (some 8) rfl rfl (by exact wFT rfl rfl hc6) ?_
      refine sgn (some 9) rfl rfl (by exact wFT rfl rfl hc6) ?_
      refine sgn (some 10) rfl rfl (by exact wFT rfl rfl hc6) ?_
      refine sgn (some 11) rfl rfl (by exact wFT rfl rfl hc6) ?_
      refine sgn (some 12) rfl rfl (by exact wFT rfl rfl hc6) ?_
      refine sgn (some 13) rfl rfl (by exact wFT rfl rfl hc6) ?_
      refine sgn (some 14) rfl rfl (by exact wFT rfl rfl hc6) ?_
      refine sgy (some 15) (Value.bool true) rfl rfl rfl (y_pickT rfl hc6 rfl) ?_
      exact Exists.intro true (And.intro (And.intro rfl trivial) (And.intro (bx_drop nd 0) hm))
    · refine sgy (some 8) (Value.int .i64 a1) rfl rfl (by exact wFF rfl rfl hc6) (y_move rfl) ?_
      refine sgy (some 9) (Value.pointer a0) rfl rfl (by exact wFF rfl rfl hc6) (y_move rfl) ?_
      obtain ⟨a7, hq8, hm⟩ := hm
      refine sgy (some 10) (Value.pointer (some a7)) rfl rfl (by exact wFF rfl rfl hc6) (y_nilP rfl hq8) ?_
      refine sgy (some 11) (Value.pointer (some (a7.add 0))) rfl rfl (by exact wFF rfl rfl hc6) (yv (y_fieldAddr rfl Try.underlying100 rfl i22 rfl) rfl) ?_
      refine sg rfl (by exact wFF rfl rfl hc6) (v_load hm rfl Try.underlying22 rfl Sl.val (fun _ => rfl) (fun x9 hm => ?_))
      refine sgy (some 13) (Value.int .i64 (x9.len : Int)) rfl rfl (by exact wFF rfl rfl hc6) (y_len (s := x9) rfl rfl Try.underlying22) ?_
      refine sgy (some 14) (Value.bool (decide ((x9.len : Int) < a1))) rfl rfl (by exact wFF rfl rfl hc6) (y_bin rfl rfl rfl) ?_
      refine sgy (some 15) (Value.bool (decide ((x9.len : Int) < a1))) rfl rfl rfl (y_pickF rfl hc6 rfl) ?_
      exact Exists.intro (decide ((x9.len : Int) < a1)) (And.intro (And.intro rfl trivial) (And.intro (bx_drop nd 0) hm))
  · refine cw_ifm hm rfl (fun hc3 hm => ?_) (fun hc3 hm => ?_)
    · refine cw_seq ?_
      refine cw_reg (l := [0]) rfl rfl ?_
      refine sgy (some 4) (Value.int .i64 5) rfl rfl rfl (y_assign rfl) ?_
      refine drop.of ?_
      refine cw_ret ?_
      refine out_one [(Value.int .i64 5)] (e_ref04_Draws_Skip 5) Try.results23 ?_ rfl ?_
      · exact (And.intro (rfl) trivial)
      · exact Exists.intro 5 (And.intro rfl hm)
    · refine cw_skip ?_
      refine drop.of ?_
      refine cw_seq ?_
      refine cw_reg (l := [0, 1, 2, 3, 4]) rfl rfl ?_
      refine sgy (some 16) (Value.pointer a0) rfl rfl rfl (y_move rfl) ?_
      refine sgy (some 17) (Value.int .i64 a1) rfl rfl rfl (y_move rfl) ?_
      obtain ⟨a4, hq5, hm⟩ := hm
      refine sgy (some 18) (Value.pointer (some a4)) rfl rfl rfl (y_nilP rfl hq5) ?_
      refine sgy (some 19) (Value.pointer (some (a4.add 2))) rfl rfl rfl (yv (y_fieldAddr rfl Try.underlying100 rfl i3 rfl) rfl) ?_
      refine sg rfl rfl (v_store hm rfl rfl rfl i3 rfl rfl (fun h hm => ?_))
      refine drop.of ?_
      refine cw_seq ?_
      refine cw_reg (l := [0]) rfl rfl ?_
      refine sgy (some 4) (Value.int .i64 0) rfl rfl rfl (y_assign rfl) ?_
      refine drop.of ?_
      refine cw_ret ?_
      refine out_one [(Value.int .i64 0)] (e_ref04_Draws_Skip 0) Try.results23 ?_ rfl ?_
      · exact (And.intro (rfl) trivial)
      · exact Exists.intro 0 (And.intro rfl hm)
/-! (*sesame/sesameref04.Draws).Taken -/
def e_ref04_Draws_Taken : Int → Value := fun r => (Value.int .i64 r)
def m_ref04_Draws_Taken (a0 : Option Addr) (K : (Int) → H → Prop) : H → Prop :=
  mDeref a0 fun a1 =>
  mLoad (cInt .i64) (a1.add 2) fun x3 =>
  K x3
set_option maxRecDepth 100000 in
set_option maxHeartbeats 8000000 in
theorem c_ref04_Draws_Taken {a0 : Option Addr} {K : (Int) → H → Prop} {h : H} (hm : m_ref04_Draws_Taken a0 K h) : ACall Try.prog 26 #[(Value.pointer a0)] h (fun v h' => ∃ r, v = e_ref04_Draws_Taken r ∧ K r h') noP := by
  unfold m_ref04_Draws_Taken at hm
  have nd : (([] : List (Nat × Obj)).map Prod.fst).Nodup := List.nodup_nil
  refine cw_func Try.func26 rfl rfl ?_
  refine cw_seq ?_
  refine cw_reg (l := [0]) rfl rfl ?_
  refine sgy (some 2) (Value.int .i64 0) rfl rfl rfl (y_assign rfl) ?_
  refine drop.of ?_
  refine cw_seq ?_
  refine cw_reg (l := [0, 1, 2, 3, 4]) rfl rfl ?_
  refine sgy (some 3) (Value.pointer a0) rfl rfl rfl (y_move rfl) ?_
  obtain ⟨a1, hq2, hm⟩ := hm
  refine sgy (some 4) (Value.pointer (some a1)) rfl rfl rfl (y_nilP rfl hq2) ?_
  refine sgy (some 5) (Value.pointer (some (a1.add 2))) rfl rfl rfl (yv (y_fieldAddr rfl Try.underlying100 rfl i3 rfl) rfl) ?_
  refine sg rfl rfl (v_load hm rfl Try.underlying3 rfl (Value.int .i64) (fun _ => rfl) (fun x3 hm => ?_))
  refine sgy (some 2) (Value.int .i64 x3) rfl rfl rfl (y_assign rfl) ?_
  refine drop.of ?_
  refine cw_ret ?_
  refine out_one [(Value.int .i64 x3)] (e_ref04_Draws_Taken x3) Try.results26 ?_ rfl ?_
  · exact (And.intro (rfl) trivial)
  · exact Exists.intro x3 (And.intro rfl hm)
/-! sesame/sesameref01.Bit -/
def e_ref01_Bit : Int → Value := fun r => (Value.int .i64 r)
def m_ref01_Bit (a0 : S_api_Word) (a1 : Int) (K : (Int) → H → Prop) : H → Prop :=
  mIf (decide (a1 < 64)) (
    mNN (IntKind.wrap .u64 a1) <|
    K (IntKind.wrap .i64 (iRem .u64 (iShr .u64 a0.Lo (IntKind.wrap .u64 a1)) 2))
    ) (
    mNN (IntKind.wrap .u64 (iSub .i64 a1 64)) <|
    K (IntKind.wrap .i64 (iRem .u64 (iShr .u64 a0.Hi (IntKind.wrap .u64 (iSub .i64 a1 64))) 2))
    )
set_option maxRecDepth 100000 in
set_option maxHeartbeats 8000000 in
theorem c_ref01_Bit {a0 : S_api_Word} {a1 : Int} {K : (Int) → H → Prop} {h : H} (hm : m_ref01_Bit a0 a1 K h) : ACall Try.prog 59 #[(S_api_Word.val a0), (Value.int .i64 a1)] h (fun v h' => ∃ r, v = e_ref01_Bit r ∧ K r h') noP := by
  unfold m_ref01_Bit at hm
  have nd : (([] : List (Nat × Obj)).map Prod.fst).Nodup := List.nodup_nil
  refine cw_func Try.func59 rfl rfl ?_
  refine cw_seq ?_
  refine cw_reg (l := [0, 1]) rfl rfl ?_
  refine sg rfl rfl (b_box nd (c := #[(Value.int .u64 a0.Hi), (Value.int .u64 a0.Lo)]) rfl (fun b1 nd => ?_))
  refine sgy (some 4) (Value.int .i64 0) rfl rfl rfl (y_assign rfl) ?_
  refine drop.of ?_
  refine cw_seq ?_
  refine cw_seq ?_
  refine cw_reg (l := [0, 1]) rfl rfl ?_
  refine sgy (some 5) (Value.int .i64 a1) rfl rfl rfl (y_move rfl) ?_
  refine sgy (some 6) (Value.bool (decide (a1 < 64))) rfl rfl rfl (y_bin rfl rfl rfl) ?_
  refine drop.of ?_
  refine cw_ifm hm rfl (fun hc2 hm => ?_) (fun hc2 hm => ?_)
  · refine cw_seq ?_
    refine cw_reg (l := [0, 1, 2, 3, 4, 5, 6, 7]) rfl rfl ?_
    refine sgy (some 7) (Value.pointer (some ⟨b1, 1, none⟩)) rfl rfl rfl (yv (y_fieldAddr rfl Try.underlying25 rfl i23 rfl) rfl) ?_
    refine sgr (some 8) (Value.int .u64 a0.Lo) rfl rfl rfl (r_load 0 nd rfl rfl Try.underlying23 rfl rfl) ?_
    refine sgy (some 9) (Value.int .i64 a1) rfl rfl rfl (y_move rfl) ?_
    refine sgy (some 10) (Value.int .u64 (IntKind.wrap .u64 a1)) rfl rfl rfl (y_conv rfl Try.underlying3 Try.underlying109) ?_
    obtain ⟨hq3, hm⟩ := hm
    refine sgy (some 11) (Value.int .u64 (iShr .u64 a0.Lo (IntKind.wrap .u64 a1))) rfl rfl rfl (y_shr rfl rfl hq3) ?_
    refine sgy (some 12) (Value.int .u64 (iRem .u64 (iShr .u64 a0.Lo (IntKind.wrap .u64 a1)) 2)) rfl rfl rfl (y_rem rfl rfl (by decide)) ?_
    refine sgy (some 13) (Value.int .i64 (IntKind.wrap .i64 (iRem .u64 (iShr .u64 a0.Lo (IntKind.wrap .u64 a1)) 2))) rfl rfl rfl (y_conv rfl Try.underlying23 Try.underlying3) ?_
    refine sgy (some 4) (Value.int .i64 (IntKind.wrap .i64 (iRem .u64 (iShr .u64 a0.Lo (IntKind.wrap .u64 a1)) 2))) rfl rfl rfl (y_assign rfl) ?_
    refine drop.of ?_
    refine cw_ret ?_
    refine out_one [(Value.int .i64 (IntKind.wrap .i64 (iRem .u64 (iShr .u64 a0.Lo (IntKind.wrap .u64 a1)) 2)))] (e_ref01_Bit (IntKind.wrap .i64 (iRem .u64 (iShr .u64 a0.Lo (IntKind.wrap .u64 a1)) 2))) Try.results59 ?_ rfl ?_
    · exact (And.intro (rfl) trivial)
    · exact Exists.intro (IntKind.wrap .i64 (iRem .u64 (iShr .u64 a0.Lo (IntKind.wrap .u64 a1)) 2)) (And.intro rfl hm)
  · refine cw_skip ?_
    refine drop.of ?_
    refine cw_seq ?_
    refine cw_reg (l := [0, 1, 2, 3, 4, 5, 6, 7, 8]) rfl rfl ?_
    refine sgy (some 14) (Value.pointer (some ⟨b1, 0, none⟩)) rfl rfl rfl (yv (y_fieldAddr rfl Try.underlying25 rfl i23 rfl) rfl) ?_
    refine sgr (some 15) (Value.int .u64 a0.Hi) rfl rfl rfl (r_load 0 nd rfl rfl Try.underlying23 rfl rfl) ?_
    refine sgy (some 16) (Value.int .i64 a1) rfl rfl rfl (y_move rfl) ?_
    refine sgy (some 17) (Value.int .i64 (iSub .i64 a1 64)) rfl rfl rfl (y_bin rfl rfl rfl) ?_
    refine sgy (some 18) (Value.int .u64 (IntKind.wrap .u64 (iSub .i64 a1 64))) rfl rfl rfl (y_conv rfl Try.underlying3 Try.underlying109) ?_
    obtain ⟨hq4, hm⟩ := hm
    refine sgy (some 19) (Value.int .u64 (iShr .u64 a0.Hi (IntKind.wrap .u64 (iSub .i64 a1 64)))) rfl rfl rfl (y_shr rfl rfl hq4) ?_
    refine sgy (some 20) (Value.int .u64 (iRem .u64 (iShr .u64 a0.Hi (IntKind.wrap .u64 (iSub .i64 a1 64))) 2)) rfl rfl rfl (y_rem rfl rfl (by decide)) ?_
    refine sgy (some 21) (Value.int .i64 (IntKind.wrap .i64 (iRem .u64 (iShr .u64 a0.Hi (IntKind.wrap .u64 (iSub .i64 a1 64))) 2))) rfl rfl rfl (y_conv rfl Try.underlying23 Try.underlying3) ?_
    refine sgy (some 4) (Value.int .i64 (IntKind.wrap .i64 (iRem .u64 (iShr .u64 a0.Hi (IntKind.wrap .u64 (iSub .i64 a1 64))) 2))) rfl rfl rfl (y_assign rfl) ?_
    refine drop.of ?_
    refine cw_ret ?_
    refine out_one [(Value.int .i64 (IntKind.wrap .i64 (iRem .u64 (iShr .u64 a0.Hi (IntKind.wrap .u64 (iSub .i64 a1 64))) 2)))] (e_ref01_Bit (IntKind.wrap .i64 (iRem .u64 (iShr .u64 a0.Hi (IntKind.wrap .u64 (iSub .i64 a1 64))) 2))) Try.results59 ?_ rfl ?_
    · exact (And.intro (rfl) trivial)
    · exact Exists.intro (IntKind.wrap .i64 (iRem .u64 (iShr .u64 a0.Hi (IntKind.wrap .u64 (iSub .i64 a1 64))) 2)) (And.intro rfl hm)
/-! sesame/sesameref01.Set -/
def e_ref01_Set : S_api_Word → Value := fun r => (S_api_Word.val r)
def m_ref01_Set (a0 : S_api_Word) (a1 : Int) (K : (S_api_Word) → H → Prop) : H → Prop :=
  mJoin (fun (s3 : Int × Int) =>
    K (⟨s3.1, s3.2⟩ : S_api_Word)
    ) (fun j4 =>
    mIf (decide (a1 < 64)) (
      mNN (IntKind.wrap .u64 a1) <|
      j4 (a0.Hi, (iOr .u64 a0.Lo (iShl .u64 1 (IntKind.wrap .u64 a1))))
      ) (
      mNN (IntKind.wrap .u64 (iSub .i64 a1 64)) <|
      j4 ((iOr .u64 a0.Hi (iShl .u64 1 (IntKind.wrap .u64 (iSub .i64 a1 64)))), a0.Lo)
      )
    )
set_option maxRecDepth 100000 in
set_option maxHeartbeats 8000000 in
theorem c_ref01_Set {a0 : S_api_Word} {a1 : Int} {K : (S_api_Word) → H → Prop} {h : H} (hm : m_ref01_Set a0 a1 K h) : ACall Try.prog 60 #[(S_api_Word.val a0), (Value.int .i64 a1)] h (fun v h' => ∃ r, v = e_ref01_Set r ∧ K r h') noP := by
  unfold m_ref01_Set at hm
  have nd : (([] : List (Nat × Obj)).map Prod.fst).Nodup := List.nodup_nil
  refine cw_func Try.func60 rfl rfl ?_
  refine cw_seq ?_
  refine cw_reg (l := [0, 1]) rfl rfl ?_
  refine sg rfl rfl (b_box nd (c := #[(Value.int .u64 a0.Hi), (Value.int .u64 a0.Lo)]) rfl (fun b1 nd => ?_))
  refine sg rfl rfl (b_alloc nd i25 rfl (c := #[(Value.int .u64 0), (Value.int .u64 0)]) rfl (fun b2 nd => ?_))
  refine drop.of ?_
  refine cw_joinM hm [5, 6, 7, 8, 9, 10, 11, 12, 13, 14, 15, 16, 17, 18, 19, 20, 21] (fun s3 => []) (fun s3 => [(b2, Obj.cells #[(Value.int .u64 0), (Value.int .u64 0)] 25 (0, 0)), (b1, Obj.cells #[(Value.int .u64 s3.1), (Value.int .u64 s3.2)] 25 (0, 0))]) rfl (fun _ => nd) (fun hm => ?_) (fun s3 h junk nd hm => ?_)
  · refine cw_seq ?_
    refine cw_reg (l := [0, 1]) rfl rfl ?_
    refine sgy (some 5) (Value.int .i64 a1) rfl rfl rfl (y_move rfl) ?_
    refine sgy (some 6) (Value.bool (decide (a1 < 64))) rfl rfl rfl (y_bin rfl rfl rfl) ?_
    refine drop.of ?_
    refine cw_ifm hm rfl (fun hc5 hm => ?_) (fun hc5 hm => ?_)
    · refine cw_reg (l := [0, 1, 2, 3, 4, 5, 6, 7]) rfl rfl ?_
      refine sgy (some 7) (Value.pointer (some ⟨b1, 1, none⟩)) rfl rfl rfl (yv (y_fieldAddr rfl Try.underlying25 rfl i23 rfl) rfl) ?_
      refine sgr (some 8) (Value.int .u64 a0.Lo) rfl rfl rfl (r_load 1 nd rfl rfl Try.underlying23 rfl rfl) ?_
      refine sgy (some 9) (Value.int .i64 a1) rfl rfl rfl (y_move rfl) ?_
      refine sgy (some 10) (Value.int .u64 (IntKind.wrap .u64 a1)) rfl rfl rfl (y_conv rfl Try.underlying3 Try.underlying109) ?_
      obtain ⟨hq6, hm⟩ := hm
      refine sgy (some 11) (Value.int .u64 (iShl .u64 1 (IntKind.wrap .u64 a1))) rfl rfl rfl (y_shl rfl rfl hq6) ?_
      refine sgy (some 12) (Value.int .u64 (iOr .u64 a0.Lo (iShl .u64 1 (IntKind.wrap .u64 a1)))) rfl rfl rfl (y_bin rfl rfl rfl) ?_
      refine sgy (some 13) (Value.pointer (some ⟨b1, 1, none⟩)) rfl rfl rfl (yv (y_fieldAddr rfl Try.underlying25 rfl i23 rfl) rfl) ?_
      refine sg rfl rfl (b_store 1 nd rfl rfl rfl i23 rfl rfl rfl (c' := #[(Value.int .u64 a0.Hi), (Value.int .u64 (iOr .u64 a0.Lo (iShl .u64 1 (IntKind.wrap .u64 a1))))]) rfl (fun nd => ?_))
      exact Exists.intro (a0.Hi, (iOr .u64 a0.Lo (iShl .u64 1 (IntKind.wrap .u64 a1)))) (And.intro trivial (And.intro (bx_drop nd 0) hm))
    · refine cw_reg (l := [0, 1, 2, 3, 4, 5, 6, 7, 8]) rfl rfl ?_
      refine sgy (some 14) (Value.pointer (some ⟨b1, 0, none⟩)) rfl rfl rfl (yv (y_fieldAddr rfl Try.underlying25 rfl i23 rfl) rfl) ?_
      refine sgr (some 15) (Value.int .u64 a0.Hi) rfl rfl rfl (r_load 1 nd rfl rfl Try.underlying23 rfl rfl) ?_
      refine sgy (some 16) (Value.int .i64 a1) rfl rfl rfl (y_move rfl) ?_
      refine sgy (some 17) (Value.int .i64 (iSub .i64 a1 64)) rfl rfl rfl (y_bin rfl rfl rfl) ?_
      refine sgy (some 18) (Value.int .u64 (IntKind.wrap .u64 (iSub .i64 a1 64))) rfl rfl rfl (y_conv rfl Try.underlying3 Try.underlying109) ?_
      obtain ⟨hq7, hm⟩ := hm
      refine sgy (some 19) (Value.int .u64 (iShl .u64 1 (IntKind.wrap .u64 (iSub .i64 a1 64)))) rfl rfl rfl (y_shl rfl rfl hq7) ?_
      refine sgy (some 20) (Value.int .u64 (iOr .u64 a0.Hi (iShl .u64 1 (IntKind.wrap .u64 (iSub .i64 a1 64))))) rfl rfl rfl (y_bin rfl rfl rfl) ?_
      refine sgy (some 21) (Value.pointer (some ⟨b1, 0, none⟩)) rfl rfl rfl (yv (y_fieldAddr rfl Try.underlying25 rfl i23 rfl) rfl) ?_
      refine sg rfl rfl (b_store 1 nd rfl rfl rfl i23 rfl rfl rfl (c' := #[(Value.int .u64 (iOr .u64 a0.Hi (iShl .u64 1 (IntKind.wrap .u64 (iSub .i64 a1 64))))), (Value.int .u64 a0.Lo)]) rfl (fun nd => ?_))
      exact Exists.intro ((iOr .u64 a0.Hi (iShl .u64 1 (IntKind.wrap .u64 (iSub .i64 a1 64)))), a0.Lo) (And.intro trivial (And.intro (bx_drop nd 0) hm))
  · refine cw_seq ?_
    refine cw_reg (l := [0, 1]) rfl rfl ?_
    refine sgr (some 22) (S_api_Word.val (⟨s3.1, s3.2⟩ : S_api_Word)) rfl rfl rfl (r_loadA 1 nd rfl rfl Try.underlying25 rfl i25 rfl) ?_
    refine sg rfl rfl (b_store 0 nd rfl rfl rfl i25 rfl rfl rfl (c' := #[(Value.int .u64 s3.1), (Value.int .u64 s3.2)]) rfl (fun nd => ?_))
    refine drop.of ?_
    refine cw_ret ?_
    refine out_one [(S_api_Word.val (⟨s3.1, s3.2⟩ : S_api_Word))] (e_ref01_Set (⟨s3.1, s3.2⟩ : S_api_Word)) Try.results60 ?_ rfl ?_
    · exact (And.intro (⟨_, rfl, res_box 0 nd rfl Try.underlying25 rfl i25 rfl⟩) trivial)
    · exact Exists.intro (⟨s3.1, s3.2⟩ : S_api_Word) (And.intro rfl hm)
end Go.Proofs.Ytnmaknkbdfpbkaa.K
