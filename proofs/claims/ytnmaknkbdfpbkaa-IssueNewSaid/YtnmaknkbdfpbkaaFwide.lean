/- Functions of the program, printed by a program of mine: wide_cut, wide_Cut, wide_Cmp, wide_Fits, wide_Next, wide_kindOf -/
import Derived.Test.YtnmaknkbdfpbkaaT
namespace Go.Proofs.Ytnmaknkbdfpbkaa.K
open Go Go.Proofs
/-! sesame/wide.cut -/
def e_wide_cut : Int → Value := fun r => (Value.int .u64 r)
def m_wide_cut (a0 : Int) (a1 : Int) (K : (Int) → H → Prop) : H → Prop :=
  mIf (decide (a1 ≤ 0)) (
    K 0
    ) (
    mIf (decide (64 ≤ a1)) (
      K a0
      ) (
      mNN a1 <|
      K (iAnd .u64 a0 (iSub .u64 (iShl .u64 1 a1) 1))
      )
    )
set_option maxRecDepth 100000 in
set_option maxHeartbeats 8000000 in
theorem c_wide_cut {a0 : Int} {a1 : Int} {K : (Int) → H → Prop} {h : H} (hm : m_wide_cut a0 a1 K h) : ACall Try.prog 58 #[(Value.int .u64 a0), (Value.int .i64 a1)] h (fun v h' => ∃ r, v = e_wide_cut r ∧ K r h') noP := by
  unfold m_wide_cut at hm
  have nd : (([] : List (Nat × Obj)).map Prod.fst).Nodup := List.nodup_nil
  refine cw_func Try.func58 rfl rfl ?_
  refine cw_seq ?_
  refine cw_reg (l := [0]) rfl rfl ?_
  refine sgy (some 4) (Value.int .u64 0) rfl rfl rfl (y_assign rfl) ?_
  refine drop.of ?_
  refine cw_seq ?_
  refine cw_block ?_
  refine cw_seq ?_
  refine cw_reg (l := [0, 1, 2]) rfl rfl ?_
  refine sgy (some 6) (Value.int .i64 a1) rfl rfl rfl (y_move rfl) ?_
  refine sgy (some 7) (Value.bool (decide (a1 ≤ 0))) rfl rfl rfl (y_bin rfl rfl rfl) ?_
  refine sgy (some 5) (Value.bool (decide (a1 ≤ 0))) rfl rfl rfl (y_assign rfl) ?_
  refine drop.of ?_
  refine cw_ifm hm rfl (fun hc1 hm => ?_) (fun hc1 hm => ?_)
  · refine cw_seq ?_
    refine cw_reg (l := [0]) rfl rfl ?_
    refine sgy (some 4) (Value.int .u64 0) rfl rfl rfl (y_assign rfl) ?_
    refine drop.of ?_
    refine cw_ret ?_
    refine out_one [(Value.int .u64 0)] (e_wide_cut 0) Try.results58 ?_ rfl ?_
    · exact (And.intro (rfl) trivial)
    · exact Exists.intro 0 (And.intro rfl hm)
  · refine cw_seq ?_
    refine cw_reg (l := [0, 1, 2]) rfl rfl ?_
    refine sgy (some 9) (Value.int .i64 a1) rfl rfl rfl (y_move rfl) ?_
    refine sgy (some 10) (Value.bool (decide (64 ≤ a1))) rfl rfl rfl (y_bin rfl rfl rfl) ?_
    refine sgy (some 8) (Value.bool (decide (64 ≤ a1))) rfl rfl rfl (y_assign rfl) ?_
    refine drop.of ?_
    refine cw_ifm hm rfl (fun hc2 hm => ?_) (fun hc2 hm => ?_)
    · refine cw_seq ?_
      refine cw_reg (l := [0, 1]) rfl rfl ?_
      refine sgy (some 11) (Value.int .u64 a0) rfl rfl rfl (y_move rfl) ?_
      refine sgy (some 4) (Value.int .u64 a0) rfl rfl rfl (y_assign rfl) ?_
      refine drop.of ?_
      refine cw_ret ?_
      refine out_one [(Value.int .u64 a0)] (e_wide_cut a0) Try.results58 ?_ rfl ?_
      · exact (And.intro (rfl) trivial)
      · exact Exists.intro a0 (And.intro rfl hm)
    · refine cw_skip ?_
      refine drop.of ?_
      refine cw_seq ?_
      refine cw_reg (l := [0, 1, 2, 3, 4, 5]) rfl rfl ?_
      refine sgy (some 12) (Value.int .u64 a0) rfl rfl rfl (y_move rfl) ?_
      refine sgy (some 13) (Value.int .i64 a1) rfl rfl rfl (y_move rfl) ?_
      obtain ⟨hq3, hm⟩ := hm
      refine sgy (some 14) (Value.int .u64 (iShl .u64 1 a1)) rfl rfl rfl (y_shl rfl rfl hq3) ?_
      refine sgy (some 15) (Value.int .u64 (iSub .u64 (iShl .u64 1 a1) 1)) rfl rfl rfl (y_bin rfl rfl rfl) ?_
      refine sgy (some 16) (Value.int .u64 (iAnd .u64 a0 (iSub .u64 (iShl .u64 1 a1) 1))) rfl rfl rfl (y_bin rfl rfl rfl) ?_
      refine sgy (some 4) (Value.int .u64 (iAnd .u64 a0 (iSub .u64 (iShl .u64 1 a1) 1))) rfl rfl rfl (y_assign rfl) ?_
      refine drop.of ?_
      refine cw_ret ?_
      refine out_one [(Value.int .u64 (iAnd .u64 a0 (iSub .u64 (iShl .u64 1 a1) 1)))] (e_wide_cut (iAnd .u64 a0 (iSub .u64 (iShl .u64 1 a1) 1))) Try.results58 ?_ rfl ?_
      · exact (And.intro (rfl) trivial)
      · exact Exists.intro (iAnd .u64 a0 (iSub .u64 (iShl .u64 1 a1) 1)) (And.intro rfl hm)
/-! sesame/wide.Cut -/
def e_wide_Cut : S_api_Word → Value := fun r => (S_api_Word.val r)
def m_wide_Cut (a0 : S_api_Word) (a1 : Int) (K : (S_api_Word) → H → Prop) : H → Prop :=
  mPure (m_wide_cut a0.Hi (iSub .i64 (iMin (iMax a1 0) 128) 64)) fun r3 =>
  mPure (m_wide_cut a0.Lo (iMin (iMax a1 0) 128)) fun r5 =>
  K (⟨r3, r5⟩ : S_api_Word)
set_option maxRecDepth 100000 in
set_option maxHeartbeats 8000000 in
theorem c_wide_Cut {a0 : S_api_Word} {a1 : Int} {K : (S_api_Word) → H → Prop} {h : H} (hm : m_wide_Cut a0 a1 K h) : ACall Try.prog 30 #[(S_api_Word.val a0), (Value.int .i64 a1)] h (fun v h' => ∃ r, v = e_wide_Cut r ∧ K r h') noP := by
  unfold m_wide_Cut at hm
  have nd : (([] : List (Nat × Obj)).map Prod.fst).Nodup := List.nodup_nil
  refine cw_func Try.func30 rfl rfl ?_
  refine cw_seq ?_
  refine cw_reg (l := [0, 1]) rfl rfl ?_
  refine sg rfl rfl (b_box nd (c := #[(Value.int .u64 a0.Hi), (Value.int .u64 a0.Lo)]) rfl (fun b1 nd => ?_))
  refine sg rfl rfl (b_alloc nd i25 rfl (c := #[(Value.int .u64 0), (Value.int .u64 0)]) rfl (fun b2 nd => ?_))
  refine drop.of ?_
  refine cw_seq ?_
  refine cw_reg (l := [0, 1, 2, 3]) rfl rfl ?_
  refine sgy (some 5) (Value.int .i64 a1) rfl rfl rfl (y_move rfl) ?_
  refine sgy (some 6) (Value.int .i64 (iMax a1 0)) rfl rfl rfl (y_max rfl rfl) ?_
  refine sgy (some 7) (Value.int .i64 (iMin (iMax a1 0) 128)) rfl rfl rfl (y_min rfl rfl) ?_
  refine sgy (some 1) (Value.int .i64 (iMin (iMax a1 0) 128)) rfl rfl rfl (y_assign rfl) ?_
  refine drop.of ?_
  refine cw_seq ?_
  refine cw_draw mixed rfl ?_
  refine tyy 0 (some 8) (Value.pointer (some ⟨b1, 0, none⟩)) rfl rfl (by kernel_rfl) (by kernel_rfl) (by kernel_rfl) rfl (yv (y_fieldAddr rfl Try.underlying25 rfl i23 rfl) rfl) ?_
  refine tyy 2 (some 10) (Value.int .i64 (iMin (iMax a1 0) 128)) rfl rfl (by kernel_rfl) (by kernel_rfl) (by kernel_rfl) rfl (y_move rfl) ?_
  refine tyy 3 (some 11) (Value.int .i64 (iSub .i64 (iMin (iMax a1 0) 128) 64)) rfl rfl (by kernel_rfl) (by kernel_rfl) (by kernel_rfl) rfl (y_bin rfl rfl rfl) ?_
  refine tyy 5 (some 13) (Value.pointer (some ⟨b1, 1, none⟩)) rfl rfl (by kernel_rfl) (by kernel_rfl) (by kernel_rfl) rfl (yv (y_fieldAddr rfl Try.underlying25 rfl i23 rfl) rfl) ?_
  refine tyy 7 (some 15) (Value.int .i64 (iMin (iMax a1 0) 128)) rfl rfl (by kernel_rfl) (by kernel_rfl) (by kernel_rfl) rfl (y_move rfl) ?_
  refine trr 1 (some 9) (Value.int .u64 a0.Hi) rfl rfl (by kernel_rfl) (by kernel_rfl) (by kernel_rfl) rfl (r_load 1 nd rfl rfl Try.underlying23 rfl rfl) ?_
  obtain ⟨r3, hq4, hm⟩ := hm
  refine tyy 4 (some 12) (e_wide_cut r3) rfl rfl (by kernel_rfl) (by kernel_rfl) (by kernel_rfl) rfl (y_call (enc := e_wide_cut) hq4 (fun k h hk => c_wide_cut hk) callee58 rfl) ?_
  refine trr 6 (some 14) (Value.int .u64 a0.Lo) rfl rfl (by kernel_rfl) (by kernel_rfl) (by kernel_rfl) rfl (r_load 1 nd rfl rfl Try.underlying23 rfl rfl) ?_
  obtain ⟨r5, hq6, hm⟩ := hm
  refine tyy 8 (some 16) (e_wide_cut r5) rfl rfl (by kernel_rfl) (by kernel_rfl) (by kernel_rfl) rfl (y_call (enc := e_wide_cut) hq6 (fun k h hk => c_wide_cut hk) callee58 rfl) ?_
  refine tyy 9 (some 17) (S_api_Word.val (⟨r3, r5⟩ : S_api_Word)) rfl rfl (by kernel_rfl) (by kernel_rfl) (by kernel_rfl) rfl (y_build Try.underlying25 i25 rfl (sizes_cons i23 (sizes_cons i23 sizes_nil)) rfl (cs := #[(Value.int .u64 r3), (Value.int .u64 r5)]) rfl) ?_
  refine t1 10 rfl (by kernel_rfl) rfl (b_store 0 nd rfl rfl rfl i25 rfl rfl rfl (c' := #[(Value.int .u64 r3), (Value.int .u64 r5)]) rfl (fun nd => ?_))
  refine td (by kernel_rfl) ?_
  refine drop.of ?_
  refine cw_ret ?_
  refine out_one [(S_api_Word.val (⟨r3, r5⟩ : S_api_Word))] (e_wide_Cut (⟨r3, r5⟩ : S_api_Word)) Try.results30 ?_ rfl ?_
  · exact (And.intro (⟨_, rfl, res_box 0 nd rfl Try.underlying25 rfl i25 rfl⟩) trivial)
  · exact Exists.intro (⟨r3, r5⟩ : S_api_Word) (And.intro rfl hm)
/-! sesame/wide.Cmp -/
def e_wide_Cmp : Int → Value := fun r => (Value.int .i64 r)
def m_wide_Cmp (a0 : S_api_Word) (a1 : S_api_Word) (K : (Int) → H → Prop) : H → Prop :=
  mIf ((decide (a0.Hi = a1.Hi)) && ((decide (a0.Lo = a1.Lo)) && true)) (
    K 0
    ) (
    mJoin (fun (s4 : Bool) =>
      mIf s4 (
        K (-1)
        ) (
        K 1
        )
      ) (fun j5 =>
      mIf (decide (a0.Hi < a1.Hi)) (
        j5 true
        ) (
        mIf (decide (a0.Hi = a1.Hi)) (
          j5 (decide (a0.Lo < a1.Lo))
          ) (
          j5 false
          )
        )
      )
    )
set_option maxRecDepth 100000 in
set_option maxHeartbeats 8000000 in
theorem c_wide_Cmp {a0 : S_api_Word} {a1 : S_api_Word} {K : (Int) → H → Prop} {h : H} (hm : m_wide_Cmp a0 a1 K h) : ACall Try.prog 28 #[(S_api_Word.val a0), (S_api_Word.val a1)] h (fun v h' => ∃ r, v = e_wide_Cmp r ∧ K r h') noP := by
  unfold m_wide_Cmp at hm
  have nd : (([] : List (Nat × Obj)).map Prod.fst).Nodup := List.nodup_nil
  refine cw_func Try.func28 rfl rfl ?_
  refine cw_seq ?_
  refine cw_reg (l := [0, 1, 2]) rfl rfl ?_
  refine sg rfl rfl (b_box nd (c := #[(Value.int .u64 a0.Hi), (Value.int .u64 a0.Lo)]) rfl (fun b1 nd => ?_))
  refine sg rfl rfl (b_box nd (c := #[(Value.int .u64 a1.Hi), (Value.int .u64 a1.Lo)]) rfl (fun b2 nd => ?_))
  refine sgy (some 4) (Value.int .i64 0) rfl rfl rfl (y_assign rfl) ?_
  refine drop.of ?_
  refine cw_seq ?_
  refine cw_block ?_
  refine cw_seq ?_
  refine cw_reg (l := [0, 1, 2, 3]) rfl rfl ?_
  refine sgr (some 6) (S_api_Word.val a0) rfl rfl rfl (r_loadA 1 nd rfl rfl Try.underlying25 rfl i25 rfl) ?_
  refine sgr (some 7) (S_api_Word.val a1) rfl rfl rfl (r_loadA 0 nd rfl rfl Try.underlying25 rfl i25 rfl) ?_
  refine sgy (some 8) (Value.bool ((decide (a0.Hi = a1.Hi)) && ((decide (a0.Lo = a1.Lo)) && true))) rfl rfl rfl (y_eqA (n := 2) Try.eqGuardType25 rfl rfl (eq_struct (n := 1) Try.underlying25 Try.stoodInHeld25 (efs_cons rfl (part_one Try.underlying23 rfl rfl) (part_one Try.underlying23 rfl rfl) (eq_int Try.underlying23) rfl (efs_cons rfl (part_one Try.underlying23 rfl rfl) (part_one Try.underlying23 rfl rfl) (eq_int Try.underlying23) rfl efs_nil))) rfl) ?_
  refine sgy (some 5) (Value.bool ((decide (a0.Hi = a1.Hi)) && ((decide (a0.Lo = a1.Lo)) && true))) rfl rfl rfl (y_assign rfl) ?_
  refine drop.of ?_
  refine cw_ifm hm rfl (fun hc3 hm => ?_) (fun hc3 hm => ?_)
  · refine cw_seq ?_
    refine cw_reg (l := [0]) rfl rfl ?_
    refine sgy (some 4) (Value.int .i64 0) rfl rfl rfl (y_assign rfl) ?_
    refine drop.of ?_
    refine cw_ret ?_
    refine out_one [(Value.int .i64 0)] (e_wide_Cmp 0) Try.results28 ?_ rfl ?_
    · exact (And.intro (rfl) trivial)
    · exact Exists.intro 0 (And.intro rfl hm)
  · refine cw_joinM hm [9, 10, 11, 12, 13, 14, 15, 16, 17, 18, 19, 20, 21, 22, 23, 24, 25, 26, 27, 28] (fun s4 => [(9, (Value.bool s4))]) (fun s4 => [(b2, Obj.cells #[(Value.int .u64 a1.Hi), (Value.int .u64 a1.Lo)] 25 (0, 0)), (b1, Obj.cells #[(Value.int .u64 a0.Hi), (Value.int .u64 a0.Lo)] 25 (0, 0))]) rfl (fun _ => nd) (fun hm => ?_) (fun s4 h junk nd hm => ?_)
    · refine cw_reg (l := [0, 1, 2, 3, 4, 5, 6, 7, 8, 9, 10, 11, 12, 13, 14, 15, 16, 17, 18, 19]) rfl rfl ?_
      refine sgy (some 10) (Value.pointer (some ⟨b1, 0, none⟩)) rfl rfl rfl (yv (y_fieldAddr rfl Try.underlying25 rfl i23 rfl) rfl) ?_
      refine sgr (some 11) (Value.int .u64 a0.Hi) rfl rfl rfl (r_load 1 nd rfl rfl Try.underlying23 rfl rfl) ?_
      refine sgy (some 12) (Value.pointer (some ⟨b2, 0, none⟩)) rfl rfl rfl (yv (y_fieldAddr rfl Try.underlying25 rfl i23 rfl) rfl) ?_
      refine sgr (some 13) (Value.int .u64 a1.Hi) rfl rfl rfl (r_load 0 nd rfl rfl Try.underlying23 rfl rfl) ?_
      refine sgy (some 14) (Value.bool (decide (a0.Hi < a1.Hi))) rfl rfl rfl (y_bin rfl rfl rfl) ?_
      refine sgy (some 15) (Value.bool (decide (a0.Hi < a1.Hi))) rfl rfl rfl (y_move rfl) ?_
      refine mIf_elim hm (fun hc7 hm => ?_) (fun hc7 hm => ?_)
      · refine sgn (some 16) rfl rfl (by exact wFT rfl rfl hc7) ?_
        refine sgn (some 17) rfl rfl (by exact wFT rfl rfl hc7) ?_
        refine sgn (some 18) rfl rfl (by exact wFT rfl rfl hc7) ?_
        refine sgn (some 19) rfl rfl (by exact wFT rfl rfl hc7) ?_
        refine sgn (some 20) rfl rfl (by exact wFT rfl rfl hc7) ?_
        refine sgn (some 21) rfl rfl (by exact wFT rfl rfl hc7) ?_
        refine sgn (some 22) rfl rfl rfl ?_
        refine sgn (some 23) rfl rfl rfl ?_
        refine sgn (some 24) rfl rfl rfl ?_
        refine sgn (some 25) rfl rfl rfl ?_
        refine sgn (some 26) rfl rfl rfl ?_
        refine sgn (some 27) rfl rfl (by exact wFT rfl rfl hc7) ?_
        refine sgy (some 28) (Value.bool true) rfl rfl rfl (y_pickT rfl hc7 rfl) ?_
        refine sgy (some 9) (Value.bool true) rfl rfl rfl (y_assign rfl) ?_
        exact Exists.intro true (And.intro (And.intro rfl trivial) (And.intro (bx_drop nd 0) hm))
      · refine sgy (some 16) (Value.pointer (some ⟨b1, 0, none⟩)) rfl rfl (by exact wFF rfl rfl hc7) (yv (y_fieldAddr rfl Try.underlying25 rfl i23 rfl) rfl) ?_
        refine sgr (some 17) (Value.int .u64 a0.Hi) rfl rfl (by exact wFF rfl rfl hc7) (r_load 1 nd rfl rfl Try.underlying23 rfl rfl) ?_
        refine sgy (some 18) (Value.pointer (some ⟨b2, 0, none⟩)) rfl rfl (by exact wFF rfl rfl hc7) (yv (y_fieldAddr rfl Try.underlying25 rfl i23 rfl) rfl) ?_
        refine sgr (some 19) (Value.int .u64 a1.Hi) rfl rfl (by exact wFF rfl rfl hc7) (r_load 0 nd rfl rfl Try.underlying23 rfl rfl) ?_
        refine sgy (some 20) (Value.bool (decide (a0.Hi = a1.Hi))) rfl rfl (by exact wFF rfl rfl hc7) (y_bin rfl rfl rfl) ?_
        refine sgy (some 21) (Value.bool (decide (a0.Hi = a1.Hi))) rfl rfl (by exact wFF rfl rfl hc7) (y_move rfl) ?_
        refine mIf_elim hm (fun hc8 hm => ?_) (fun hc8 hm => ?_)
        · refine sgy (some 22) (Value.pointer (some ⟨b1, 1, none⟩)) rfl rfl (by exact wTT rfl rfl hc8) (yv (y_fieldAddr rfl Try.underlying25 rfl i23 rfl) rfl) ?_
          refine sgr (some 23) (Value.int .u64 a0.Lo) rfl rfl (by exact wTT rfl rfl hc8) (r_load 1 nd rfl rfl Try.underlying23 rfl rfl) ?_
          refine sgy (some 24) (Value.pointer (some ⟨b2, 1, none⟩)) rfl rfl (by exact wTT rfl rfl hc8) (yv (y_fieldAddr rfl Try.underlying25 rfl i23 rfl) rfl) ?_
          refine sgr (some 25) (Value.int .u64 a1.Lo) rfl rfl (by exact wTT rfl rfl hc8) (r_load 0 nd rfl rfl Try.underlying23 rfl rfl) ?_
          refine sgy (some 26) (Value.bool (decide (a0.Lo < a1.Lo))) rfl rfl (by exact wTT rfl rfl hc8) (y_bin rfl rfl rfl) ?_
          refine sgy (some 27) (Value.bool (decide (a0.Lo < a1.Lo))) rfl rfl (by exact wFF rfl rfl hc7) (y_pickT rfl hc8 rfl) ?_
          refine sgy (some 28) (Value.bool (decide (a0.Lo < a1.Lo))) rfl rfl rfl (y_pickF rfl hc7 rfl) ?_
          refine sgy (some 9) (Value.bool (decide (a0.Lo < a1.Lo))) rfl rfl rfl (y_assign rfl) ?_
          exact Exists.intro (decide (a0.Lo < a1.Lo)) (And.intro (And.intro rfl trivial) (And.intro (bx_drop nd 0) hm))
        · refine sgn (some 22) rfl rfl (by exact wTF rfl rfl hc8) ?_
          refine sgn (some 23) rfl rfl (by exact wTF rfl rfl hc8) ?_
          refine sgn (some 24) rfl rfl (by exact wTF rfl rfl hc8) ?_
          refine sgn (some 25) rfl rfl (by exact wTF rfl rfl hc8) ?_
          refine sgn (some 26) rfl rfl (by exact wTF rfl rfl hc8) ?_
          refine sgy (some 27) (Value.bool false) rfl rfl (by exact wFF rfl rfl hc7) (y_pickF rfl hc8 rfl) ?_
          refine sgy (some 28) (Value.bool false) rfl rfl rfl (y_pickF rfl hc7 rfl) ?_
          refine sgy (some 9) (Value.bool false) rfl rfl rfl (y_assign rfl) ?_
          exact Exists.intro false (And.intro (And.intro rfl trivial) (And.intro (bx_drop nd 0) hm))
    · refine cw_ifm hm rfl (fun hc6 hm => ?_) (fun hc6 hm => ?_)
      · refine cw_seq ?_
        refine cw_reg (l := [0]) rfl rfl ?_
        refine sgy (some 4) (Value.int .i64 (-1)) rfl rfl rfl (y_assign rfl) ?_
        refine drop.of ?_
        refine cw_ret ?_
        refine out_one [(Value.int .i64 (-1))] (e_wide_Cmp (-1)) Try.results28 ?_ rfl ?_
        · exact (And.intro (rfl) trivial)
        · exact Exists.intro (-1) (And.intro rfl hm)
      · refine cw_skip ?_
        refine drop.of ?_
        refine cw_seq ?_
        refine cw_reg (l := [0]) rfl rfl ?_
        refine sgy (some 4) (Value.int .i64 1) rfl rfl rfl (y_assign rfl) ?_
        refine drop.of ?_
        refine cw_ret ?_
        refine out_one [(Value.int .i64 1)] (e_wide_Cmp 1) Try.results28 ?_ rfl ?_
        · exact (And.intro (rfl) trivial)
        · exact Exists.intro 1 (And.intro rfl hm)
/-! sesame/wide.Fits -/
def e_wide_Fits : Bool → Value := fun r => (Value.bool r)
def m_wide_Fits (a0 : S_api_Word) (a1 : Int) (K : (Bool) → H → Prop) : H → Prop :=
  mIf (decide (1 ≤ a1)) (
    mPure (m_wide_Cut a0 a1) fun r3 =>
    K ((decide (r3.Hi = a0.Hi)) && ((decide (r3.Lo = a0.Lo)) && true))
    ) (
    K false
    )
set_option maxRecDepth 100000 in
set_option maxHeartbeats 8000000 in
theorem c_wide_Fits {a0 : S_api_Word} {a1 : Int} {K : (Bool) → H → Prop} {h : H} (hm : m_wide_Fits a0 a1 K h) : ACall Try.prog 31 #[(S_api_Word.val a0), (Value.int .i64 a1)] h (fun v h' => ∃ r, v = e_wide_Fits r ∧ K r h') noP := by
  unfold m_wide_Fits at hm
  have nd : (([] : List (Nat × Obj)).map Prod.fst).Nodup := List.nodup_nil
  refine cw_func Try.func31 rfl rfl ?_
  refine cw_seq ?_
  refine cw_reg (l := [0, 1]) rfl rfl ?_
  refine sg rfl rfl (b_box nd (c := #[(Value.int .u64 a0.Hi), (Value.int .u64 a0.Lo)]) rfl (fun b1 nd => ?_))
  refine sgy (some 4) (Value.bool false) rfl rfl rfl (y_assign rfl) ?_
  refine drop.of ?_
  refine cw_seq ?_
  refine cw_draw mixed rfl ?_
  refine tyy 0 (some 5) (Value.int .i64 a1) rfl rfl (by kernel_rfl) (by kernel_rfl) (by kernel_rfl) rfl (y_move rfl) ?_
  refine tyy 1 (some 6) (Value.bool (decide (1 ≤ a1))) rfl rfl (by kernel_rfl) (by kernel_rfl) (by kernel_rfl) rfl (y_bin rfl rfl rfl) ?_
  refine tyy 2 (some 7) (Value.bool (decide (1 ≤ a1))) rfl rfl (by kernel_rfl) (by kernel_rfl) (by kernel_rfl) rfl (y_move rfl) ?_
  refine mIf_elim hm (fun hc2 hm => ?_) (fun hc2 hm => ?_)
  · refine trr 3 (some 8) (S_api_Word.val a0) rfl rfl (by kernel_rfl) (by kernel_rfl) (by kernel_rfl) (by exact wTT rfl rfl hc2) (r_loadA 0 nd rfl rfl Try.underlying25 rfl i25 rfl) ?_
    refine tyy 4 (some 9) (Value.int .i64 a1) rfl rfl (by kernel_rfl) (by kernel_rfl) (by kernel_rfl) (by exact wTT rfl rfl hc2) (y_move rfl) ?_
    obtain ⟨r3, hq4, hm⟩ := hm
    refine tyy 5 (some 10) (e_wide_Cut r3) rfl rfl (by kernel_rfl) (by kernel_rfl) (by kernel_rfl) (by exact wTT rfl rfl hc2) (y_call (enc := e_wide_Cut) hq4 (fun k h hk => c_wide_Cut hk) callee30 rfl) ?_
    refine trr 6 (some 11) (S_api_Word.val a0) rfl rfl (by kernel_rfl) (by kernel_rfl) (by kernel_rfl) (by exact wTT rfl rfl hc2) (r_loadA 0 nd rfl rfl Try.underlying25 rfl i25 rfl) ?_
    refine tyy 7 (some 12) (Value.bool ((decide (r3.Hi = a0.Hi)) && ((decide (r3.Lo = a0.Lo)) && true))) rfl rfl (by kernel_rfl) (by kernel_rfl) (by kernel_rfl) (by exact wTT rfl rfl hc2) (y_eqA (n := 2) Try.eqGuardType25 rfl rfl (eq_struct (n := 1) Try.underlying25 Try.stoodInHeld25 (efs_cons rfl (part_one Try.underlying23 rfl rfl) (part_one Try.underlying23 rfl rfl) (eq_int Try.underlying23) rfl (efs_cons rfl (part_one Try.underlying23 rfl rfl) (part_one Try.underlying23 rfl rfl) (eq_int Try.underlying23) rfl efs_nil))) rfl) ?_
    refine tyy 8 (some 13) (Value.bool ((decide (r3.Hi = a0.Hi)) && ((decide (r3.Lo = a0.Lo)) && true))) rfl rfl (by kernel_rfl) (by kernel_rfl) (by kernel_rfl) rfl (y_pickT rfl hc2 rfl) ?_
    refine tyy 9 (some 4) (Value.bool ((decide (r3.Hi = a0.Hi)) && ((decide (r3.Lo = a0.Lo)) && true))) rfl rfl (by kernel_rfl) (by kernel_rfl) (by kernel_rfl) rfl (y_assign rfl) ?_
    refine td (by kernel_rfl) ?_
    refine drop.of ?_
    refine cw_ret ?_
    refine out_one [(Value.bool ((decide (r3.Hi = a0.Hi)) && ((decide (r3.Lo = a0.Lo)) && true)))] (e_wide_Fits ((decide (r3.Hi = a0.Hi)) && ((decide (r3.Lo = a0.Lo)) && true))) Try.results31 ?_ rfl ?_
    · exact (And.intro (rfl) trivial)
    · exact Exists.intro ((decide (r3.Hi = a0.Hi)) && ((decide (r3.Lo = a0.Lo)) && true)) (And.intro rfl hm)
  · refine tnn 3 (some 8) rfl rfl (by kernel_rfl) (by kernel_rfl) (by kernel_rfl) (by exact wTF rfl rfl hc2) ?_
    refine tnn 4 (some 9) rfl rfl (by kernel_rfl) (by kernel_rfl) (by kernel_rfl) (by exact wTF rfl rfl hc2) ?_
    refine tnn 5 (some 10) rfl rfl (by kernel_rfl) (by kernel_rfl) (by kernel_rfl) (by exact wTF rfl rfl hc2) ?_
    refine tnn 6 (some 11) rfl rfl (by kernel_rfl) (by kernel_rfl) (by kernel_rfl) (by exact wTF rfl rfl hc2) ?_
    refine tnn 7 (some 12) rfl rfl (by kernel_rfl) (by kernel_rfl) (by kernel_rfl) (by exact wTF rfl rfl hc2) ?_
    refine tyy 8 (some 13) (Value.bool false) rfl rfl (by kernel_rfl) (by kernel_rfl) (by kernel_rfl) rfl (y_pickF rfl hc2 rfl) ?_
    refine tyy 9 (some 4) (Value.bool false) rfl rfl (by kernel_rfl) (by kernel_rfl) (by kernel_rfl) rfl (y_assign rfl) ?_
    refine td (by kernel_rfl) ?_
    refine drop.of ?_
    refine cw_ret ?_
    refine out_one [(Value.bool false)] (e_wide_Fits false) Try.results31 ?_ rfl ?_
    · exact (And.intro (rfl) trivial)
    · exact Exists.intro false (And.intro rfl hm)
/-! sesame/wide.Next -/
def e_wide_Next : S_api_Word × Bool → Value := fun r => Value.tuple #[(S_api_Word.val r.1), (Value.bool r.2)]
def m_wide_Next (a0 : S_api_Word) (a1 : Int) (K : (S_api_Word × Bool) → H → Prop) : H → Prop :=
  mJoin (fun (s4 : Int × Int) =>
    mJoin (fun (s6 : Bool) =>
      mIf s6 (
        K ((⟨0, 0⟩ : S_api_Word), false)
        ) (
        K ((⟨s4.1, s4.2⟩ : S_api_Word), true)
        )
      ) (fun j7 =>
      mPure (m_wide_Fits a0 a1) fun r9 =>
      mIf (!r9) (
        j7 true
        ) (
        mPure (m_wide_Fits (⟨s4.1, s4.2⟩ : S_api_Word) a1) fun r12 =>
        mIf (!r12) (
          j7 true
          ) (
          j7 ((decide (s4.1 = 0)) && ((decide (s4.2 = 0)) && true))
          )
        )
      )
    ) (fun j5 =>
    mIf (decide ((iAdd .u64 a0.Lo 1) = 0)) (
      j5 ((iAdd .u64 a0.Hi 1), (iAdd .u64 a0.Lo 1))
      ) (
      j5 (a0.Hi, (iAdd .u64 a0.Lo 1))
      )
    )
set_option maxRecDepth 100000 in
set_option maxHeartbeats 8000000 in
theorem c_wide_Next {a0 : S_api_Word} {a1 : Int} {K : (S_api_Word × Bool) → H → Prop} {h : H} (hm : m_wide_Next a0 a1 K h) : ACall Try.prog 32 #[(S_api_Word.val a0), (Value.int .i64 a1)] h (fun v h' => ∃ r, v = e_wide_Next r ∧ K r h') noP := by
  unfold m_wide_Next at hm
  have nd : (([] : List (Nat × Obj)).map Prod.fst).Nodup := List.nodup_nil
  refine cw_func Try.func32 rfl rfl ?_
  refine cw_seq ?_
  refine cw_reg (l := [0, 1, 2]) rfl rfl ?_
  refine sg rfl rfl (b_box nd (c := #[(Value.int .u64 a0.Hi), (Value.int .u64 a0.Lo)]) rfl (fun b1 nd => ?_))
  refine sg rfl rfl (b_alloc nd i25 rfl (c := #[(Value.int .u64 0), (Value.int .u64 0)]) rfl (fun b2 nd => ?_))
  refine sgy (some 5) (Value.bool false) rfl rfl rfl (y_assign rfl) ?_
  refine drop.of ?_
  refine cw_seq ?_
  refine cw_reg (l := [0, 1, 2, 3, 4, 5, 6, 7]) rfl rfl ?_
  refine sgy (some 7) (Value.pointer (some ⟨b1, 0, none⟩)) rfl rfl rfl (yv (y_fieldAddr rfl Try.underlying25 rfl i23 rfl) rfl) ?_
  refine sgr (some 8) (Value.int .u64 a0.Hi) rfl rfl rfl (r_load 1 nd rfl rfl Try.underlying23 rfl rfl) ?_
  refine sgy (some 9) (Value.pointer (some ⟨b1, 1, none⟩)) rfl rfl rfl (yv (y_fieldAddr rfl Try.underlying25 rfl i23 rfl) rfl) ?_
  refine sgr (some 10) (Value.int .u64 a0.Lo) rfl rfl rfl (r_load 1 nd rfl rfl Try.underlying23 rfl rfl) ?_
  refine sgy (some 11) (Value.int .u64 (iAdd .u64 a0.Lo 1)) rfl rfl rfl (y_bin rfl rfl rfl) ?_
  refine sgy (some 12) (S_api_Word.val (⟨a0.Hi, (iAdd .u64 a0.Lo 1)⟩ : S_api_Word)) rfl rfl rfl (y_build Try.underlying25 i25 rfl (sizes_cons i23 (sizes_cons i23 sizes_nil)) rfl (cs := #[(Value.int .u64 a0.Hi), (Value.int .u64 (iAdd .u64 a0.Lo 1))]) rfl) ?_
  refine sg rfl rfl (b_alloc nd i25 rfl (c := #[(Value.int .u64 0), (Value.int .u64 0)]) rfl (fun b3 nd => ?_))
  refine sg rfl rfl (b_store 0 nd rfl rfl rfl i25 rfl rfl rfl (c' := #[(Value.int .u64 a0.Hi), (Value.int .u64 (iAdd .u64 a0.Lo 1))]) rfl (fun nd => ?_))
  refine drop.of ?_
  refine cw_joinM hm [13, 14, 15, 16, 17, 18, 19] (fun s4 => []) (fun s4 => [(b3, Obj.cells #[(Value.int .u64 s4.1), (Value.int .u64 s4.2)] 25 (0, 0)), (b2, Obj.cells #[(Value.int .u64 0), (Value.int .u64 0)] 25 (0, 0)), (b1, Obj.cells #[(Value.int .u64 a0.Hi), (Value.int .u64 a0.Lo)] 25 (0, 0))]) rfl (fun _ => nd) (fun hm => ?_) (fun s4 h junk nd hm => ?_)
  · refine cw_seq ?_
    refine cw_reg (l := [0, 1, 2]) rfl rfl ?_
    refine sgy (some 13) (Value.pointer (some ⟨b3, 1, none⟩)) rfl rfl rfl (yv (y_fieldAddr rfl Try.underlying25 rfl i23 rfl) rfl) ?_
    refine sgr (some 14) (Value.int .u64 (iAdd .u64 a0.Lo 1)) rfl rfl rfl (r_load 0 nd rfl rfl Try.underlying23 rfl rfl) ?_
    refine sgy (some 15) (Value.bool (decide ((iAdd .u64 a0.Lo 1) = 0))) rfl rfl rfl (y_bin rfl rfl rfl) ?_
    refine drop.of ?_
    refine cw_ifm hm rfl (fun hc15 hm => ?_) (fun hc15 hm => ?_)
    · refine cw_reg (l := [0, 1, 2, 3, 4]) rfl rfl ?_
      refine sgy (some 16) (Value.pointer (some ⟨b3, 0, none⟩)) rfl rfl rfl (yv (y_fieldAddr rfl Try.underlying25 rfl i23 rfl) rfl) ?_
      refine sgr (some 17) (Value.int .u64 a0.Hi) rfl rfl rfl (r_load 0 nd rfl rfl Try.underlying23 rfl rfl) ?_
      refine sgy (some 18) (Value.int .u64 (iAdd .u64 a0.Hi 1)) rfl rfl rfl (y_bin rfl rfl rfl) ?_
      refine sgy (some 19) (Value.pointer (some ⟨b3, 0, none⟩)) rfl rfl rfl (yv (y_fieldAddr rfl Try.underlying25 rfl i23 rfl) rfl) ?_
      refine sg rfl rfl (b_store 0 nd rfl rfl rfl i23 rfl rfl rfl (c' := #[(Value.int .u64 (iAdd .u64 a0.Hi 1)), (Value.int .u64 (iAdd .u64 a0.Lo 1))]) rfl (fun nd => ?_))
      exact Exists.intro ((iAdd .u64 a0.Hi 1), (iAdd .u64 a0.Lo 1)) (And.intro trivial (And.intro (bx_drop nd 0) hm))
    · refine cw_skip ?_
      exact Exists.intro (a0.Hi, (iAdd .u64 a0.Lo 1)) (And.intro trivial (And.intro (bx_drop nd 0) hm))
  · refine cw_seq ?_
    refine cw_joinM hm [20, 21, 22, 23, 24, 25, 26, 27, 28, 29, 30, 31, 32, 33, 34] (fun s6 => [(34, (Value.bool s6))]) (fun s6 => [(b3, Obj.cells #[(Value.int .u64 s4.1), (Value.int .u64 s4.2)] 25 (0, 0)), (b2, Obj.cells #[(Value.int .u64 0), (Value.int .u64 0)] 25 (0, 0)), (b1, Obj.cells #[(Value.int .u64 a0.Hi), (Value.int .u64 a0.Lo)] 25 (0, 0))]) rfl (fun _ => nd) (fun hm => ?_) (fun s6 h junk nd hm => ?_)
    · refine cw_reg (l := [0, 1, 2, 3, 4, 5, 6, 7, 8, 9, 10, 11, 12, 13, 14]) rfl rfl ?_
      refine sgr (some 20) (S_api_Word.val a0) rfl rfl rfl (r_loadA 2 nd rfl rfl Try.underlying25 rfl i25 rfl) ?_
      refine sgy (some 21) (Value.int .i64 a1) rfl rfl rfl (y_move rfl) ?_
      obtain ⟨r9, hq10, hm⟩ := hm
      refine sgy (some 22) (e_wide_Fits r9) rfl rfl rfl (y_call (enc := e_wide_Fits) hq10 (fun k h hk => c_wide_Fits hk) callee31 rfl) ?_
      refine sgy (some 23) (Value.bool (!r9)) rfl rfl rfl (y_not rfl) ?_
      refine sgy (some 24) (Value.bool (!r9)) rfl rfl rfl (y_move rfl) ?_
      refine mIf_elim hm (fun hc11 hm => ?_) (fun hc11 hm => ?_)
      · refine sgn (some 25) rfl rfl (by exact wFT rfl rfl hc11) ?_
        refine sgn (some 26) rfl rfl (by exact wFT rfl rfl hc11) ?_
        refine sgn (some 27) rfl rfl (by exact wFT rfl rfl hc11) ?_
        refine sgn (some 28) rfl rfl (by exact wFT rfl rfl hc11) ?_
        refine sgy (some 29) (Value.bool true) rfl rfl rfl (y_pickT rfl hc11 rfl) ?_
        refine sgy (some 30) (Value.bool true) rfl rfl rfl (y_move rfl) ?_
        refine sgn (some 31) rfl rfl rfl ?_
        refine sgn (some 32) rfl rfl rfl ?_
        refine sgn (some 33) rfl rfl rfl ?_
        refine sgy (some 34) (Value.bool true) rfl rfl rfl (y_pickT rfl rfl rfl) ?_
        exact Exists.intro true (And.intro (And.intro rfl trivial) (And.intro (bx_drop nd 0) hm))
      · refine sgr (some 25) (S_api_Word.val (⟨s4.1, s4.2⟩ : S_api_Word)) rfl rfl (by exact wFF rfl rfl hc11) (r_loadA 0 nd rfl rfl Try.underlying25 rfl i25 rfl) ?_
        refine sgy (some 26) (Value.int .i64 a1) rfl rfl (by exact wFF rfl rfl hc11) (y_move rfl) ?_
        obtain ⟨r12, hq13, hm⟩ := hm
        refine sgy (some 27) (e_wide_Fits r12) rfl rfl (by exact wFF rfl rfl hc11) (y_call (enc := e_wide_Fits) hq13 (fun k h hk => c_wide_Fits hk) callee31 rfl) ?_
        refine sgy (some 28) (Value.bool (!r12)) rfl rfl (by exact wFF rfl rfl hc11) (y_not rfl) ?_
        refine sgy (some 29) (Value.bool (!r12)) rfl rfl rfl (y_pickF rfl hc11 rfl) ?_
        refine sgy (some 30) (Value.bool (!r12)) rfl rfl rfl (y_move rfl) ?_
        refine mIf_elim hm (fun hc14 hm => ?_) (fun hc14 hm => ?_)
        · refine sgn (some 31) rfl rfl (by exact wFT rfl rfl hc14) ?_
          refine sgn (some 32) rfl rfl (by exact wFT rfl rfl hc14) ?_
          refine sgn (some 33) rfl rfl (by exact wFT rfl rfl hc14) ?_
          refine sgy (some 34) (Value.bool true) rfl rfl rfl (y_pickT rfl hc14 rfl) ?_
          exact Exists.intro true (And.intro (And.intro rfl trivial) (And.intro (bx_drop nd 0) hm))
        · refine sgr (some 31) (S_api_Word.val (⟨s4.1, s4.2⟩ : S_api_Word)) rfl rfl (by exact wFF rfl rfl hc14) (r_loadA 0 nd rfl rfl Try.underlying25 rfl i25 rfl) ?_
          refine sgy (some 32) (S_api_Word.val (⟨0, 0⟩ : S_api_Word)) rfl rfl (by exact wFF rfl rfl hc14) (y_build Try.underlying25 i25 rfl (sizes_cons i23 (sizes_cons i23 sizes_nil)) rfl (cs := #[(Value.int .u64 0), (Value.int .u64 0)]) rfl) ?_
          refine sgy (some 33) (Value.bool ((decide (s4.1 = 0)) && ((decide (s4.2 = 0)) && true))) rfl rfl (by exact wFF rfl rfl hc14) (y_eqA (n := 2) Try.eqGuardType25 rfl rfl (eq_struct (n := 1) Try.underlying25 Try.stoodInHeld25 (efs_cons rfl (part_one Try.underlying23 rfl rfl) (part_one Try.underlying23 rfl rfl) (eq_int Try.underlying23) rfl (efs_cons rfl (part_one Try.underlying23 rfl rfl) (part_one Try.underlying23 rfl rfl) (eq_int Try.underlying23) rfl efs_nil))) rfl) ?_
          refine sgy (some 34) (Value.bool ((decide (s4.1 = 0)) && ((decide (s4.2 = 0)) && true))) rfl rfl rfl (y_pickF rfl hc14 rfl) ?_
          exact Exists.intro ((decide (s4.1 = 0)) && ((decide (s4.2 = 0)) && true)) (And.intro (And.intro rfl trivial) (And.intro (bx_drop nd 0) hm))
    · refine cw_ifm hm rfl (fun hc8 hm => ?_) (fun hc8 hm => ?_)
      · refine cw_seq ?_
        refine cw_reg (l := [0, 1, 2]) rfl rfl ?_
        refine sgy (some 35) (S_api_Word.val (⟨0, 0⟩ : S_api_Word)) rfl rfl rfl (y_build Try.underlying25 i25 rfl (sizes_cons i23 (sizes_cons i23 sizes_nil)) rfl (cs := #[(Value.int .u64 0), (Value.int .u64 0)]) rfl) ?_
        refine sg rfl rfl (b_store 1 nd rfl rfl rfl i25 rfl rfl rfl (c' := #[(Value.int .u64 0), (Value.int .u64 0)]) rfl (fun nd => ?_))
        refine sgy (some 5) (Value.bool false) rfl rfl rfl (y_assign rfl) ?_
        refine drop.of ?_
        refine cw_ret ?_
        refine out_one [(S_api_Word.val (⟨0, 0⟩ : S_api_Word)), (Value.bool false)] (e_wide_Next ((⟨0, 0⟩ : S_api_Word), false)) Try.results32 ?_ rfl ?_
        · exact (And.intro (⟨_, rfl, res_box 1 nd rfl Try.underlying25 rfl i25 rfl⟩) (And.intro (rfl) trivial))
        · exact Exists.intro ((⟨0, 0⟩ : S_api_Word), false) (And.intro rfl hm)
      · refine cw_skip ?_
        refine drop.of ?_
        refine cw_seq ?_
        refine cw_reg (l := [0, 1, 2]) rfl rfl ?_
        refine sgr (some 36) (S_api_Word.val (⟨s4.1, s4.2⟩ : S_api_Word)) rfl rfl rfl (r_loadA 0 nd rfl rfl Try.underlying25 rfl i25 rfl) ?_
        refine sg rfl rfl (b_store 1 nd rfl rfl rfl i25 rfl rfl rfl (c' := #[(Value.int .u64 s4.1), (Value.int .u64 s4.2)]) rfl (fun nd => ?_))
        refine sgy (some 5) (Value.bool true) rfl rfl rfl (y_assign rfl) ?_
        refine drop.of ?_
        refine cw_ret ?_
        refine out_one [(S_api_Word.val (⟨s4.1, s4.2⟩ : S_api_Word)), (Value.bool true)] (e_wide_Next ((⟨s4.1, s4.2⟩ : S_api_Word), true)) Try.results32 ?_ rfl ?_
        · exact (And.intro (⟨_, rfl, res_box 1 nd rfl Try.underlying25 rfl i25 rfl⟩) (And.intro (rfl) trivial))
        · exact Exists.intro ((⟨s4.1, s4.2⟩ : S_api_Word), true) (And.intro rfl hm)
/-! sesame/wide.kindOf -/
def e_wide_kindOf : Int → Value := fun r => (Value.int .i64 r)
def m_wide_kindOf (a0 : Int) (K : (Int) → H → Prop) : H → Prop :=
  mJoin (fun (s1 : Bool) =>
    mIf s1 (
      K 1
      ) (
      mJoin (fun (s4 : Bool) =>
        mIf s4 (
          K 2
          ) (
          K 0
          )
        ) (fun j5 =>
        mIf (decide (97 ≤ a0)) (
          j5 (decide (a0 ≤ 102))
          ) (
          j5 false
          )
        )
      )
    ) (fun j2 =>
    mIf (decide (48 ≤ a0)) (
      j2 (decide (a0 ≤ 57))
      ) (
      j2 false
      )
    )
set_option maxRecDepth 100000 in
set_option maxHeartbeats 8000000 in
theorem c_wide_kindOf {a0 : Int} {K : (Int) → H → Prop} {h : H} (hm : m_wide_kindOf a0 K h) : ACall Try.prog 61 #[(Value.int .u8 a0)] h (fun v h' => ∃ r, v = e_wide_kindOf r ∧ K r h') noP := by
  unfold m_wide_kindOf at hm
  have nd : (([] : List (Nat × Obj)).map Prod.fst).Nodup := List.nodup_nil
  refine cw_func Try.func61 rfl rfl ?_
  refine cw_seq ?_
  refine cw_reg (l := [0]) rfl rfl ?_
  refine sgy (some 2) (Value.int .i64 0) rfl rfl rfl (y_assign rfl) ?_
  refine drop.of ?_
  refine cw_seq ?_
  refine cw_block ?_
  refine cw_joinM hm [3, 4, 5, 6, 7, 8, 9] (fun s1 => [(3, (Value.bool s1))]) (fun s1 => []) rfl (fun _ => nd) (fun hm => ?_) (fun s1 h junk nd hm => ?_)
  · refine cw_reg (l := [0, 1, 2, 3, 4, 5, 6]) rfl rfl ?_
    refine sgy (some 4) (Value.int .u8 a0) rfl rfl rfl (y_move rfl) ?_
    refine sgy (some 5) (Value.bool (decide (48 ≤ a0))) rfl rfl rfl (y_bin rfl rfl rfl) ?_
    refine sgy (some 6) (Value.bool (decide (48 ≤ a0))) rfl rfl rfl (y_move rfl) ?_
    refine mIf_elim hm (fun hc8 hm => ?_) (fun hc8 hm => ?_)
    · refine sgy (some 7) (Value.int .u8 a0) rfl rfl (by exact wTT rfl rfl hc8) (y_move rfl) ?_
      refine sgy (some 8) (Value.bool (decide (a0 ≤ 57))) rfl rfl (by exact wTT rfl rfl hc8) (y_bin rfl rfl rfl) ?_
      refine sgy (some 9) (Value.bool (decide (a0 ≤ 57))) rfl rfl rfl (y_pickT rfl hc8 rfl) ?_
      refine sgy (some 3) (Value.bool (decide (a0 ≤ 57))) rfl rfl rfl (y_assign rfl) ?_
      exact Exists.intro (decide (a0 ≤ 57)) (And.intro (And.intro rfl trivial) (And.intro (bx_drop nd 0) hm))
    · refine sgn (some 7) rfl rfl (by exact wTF rfl rfl hc8) ?_
      refine sgn (some 8) rfl rfl (by exact wTF rfl rfl hc8) ?_
      refine sgy (some 9) (Value.bool false) rfl rfl rfl (y_pickF rfl hc8 rfl) ?_
      refine sgy (some 3) (Value.bool false) rfl rfl rfl (y_assign rfl) ?_
      exact Exists.intro false (And.intro (And.intro rfl trivial) (And.intro (bx_drop nd 0) hm))
  · refine cw_ifm hm rfl (fun hc3 hm => ?_) (fun hc3 hm => ?_)
    · refine cw_seq ?_
      refine cw_reg (l := [0]) rfl rfl ?_
      refine sgy (some 2) (Value.int .i64 1) rfl rfl rfl (y_assign rfl) ?_
      refine drop.of ?_
      refine cw_ret ?_
      refine out_one [(Value.int .i64 1)] (e_wide_kindOf 1) Try.results61 ?_ rfl ?_
      · exact (And.intro (rfl) trivial)
      · exact Exists.intro 1 (And.intro rfl hm)
    · refine cw_joinM hm [10, 11, 12, 13, 14, 15, 16] (fun s4 => [(10, (Value.bool s4))]) (fun s4 => []) rfl (fun _ => nd) (fun hm => ?_) (fun s4 h junk nd hm => ?_)
      · refine cw_reg (l := [0, 1, 2, 3, 4, 5, 6]) rfl rfl ?_
        refine sgy (some 11) (Value.int .u8 a0) rfl rfl rfl (y_move rfl) ?_
        refine sgy (some 12) (Value.bool (decide (97 ≤ a0))) rfl rfl rfl (y_bin rfl rfl rfl) ?_
        refine sgy (some 13) (Value.bool (decide (97 ≤ a0))) rfl rfl rfl (y_move rfl) ?_
        refine mIf_elim hm (fun hc7 hm => ?_) (fun hc7 hm => ?_)
        · refine sgy (some 14) (Value.int .u8 a0) rfl rfl (by exact wTT rfl rfl hc7) (y_move rfl) ?_
          refine sgy (some 15) (Value.bool (decide (a0 ≤ 102))) rfl rfl (by exact wTT rfl rfl hc7) (y_bin rfl rfl rfl) ?_
          refine sgy (some 16) (Value.bool (decide (a0 ≤ 102))) rfl rfl rfl (y_pickT rfl hc7 rfl) ?_
          refine sgy (some 10) (Value.bool (decide (a0 ≤ 102))) rfl rfl rfl (y_assign rfl) ?_
          exact Exists.intro (decide (a0 ≤ 102)) (And.intro (And.intro rfl trivial) (And.intro (bx_drop nd 0) hm))
        · refine sgn (some 14) rfl rfl (by exact wTF rfl rfl hc7) ?_
          refine sgn (some 15) rfl rfl (by exact wTF rfl rfl hc7) ?_
          refine sgy (some 16) (Value.bool false) rfl rfl rfl (y_pickF rfl hc7 rfl) ?_
          refine sgy (some 10) (Value.bool false) rfl rfl rfl (y_assign rfl) ?_
          exact Exists.intro false (And.intro (And.intro rfl trivial) (And.intro (bx_drop nd 0) hm))
      · refine cw_ifm hm rfl (fun hc6 hm => ?_) (fun hc6 hm => ?_)
        · refine cw_seq ?_
          refine cw_reg (l := [0]) rfl rfl ?_
          refine sgy (some 2) (Value.int .i64 2) rfl rfl rfl (y_assign rfl) ?_
          refine drop.of ?_
          refine cw_ret ?_
          refine out_one [(Value.int .i64 2)] (e_wide_kindOf 2) Try.results61 ?_ rfl ?_
          · exact (And.intro (rfl) trivial)
          · exact Exists.intro 2 (And.intro rfl hm)
        · refine cw_skip ?_
          refine drop.of ?_
          refine cw_seq ?_
          refine cw_reg (l := [0]) rfl rfl ?_
          refine sgy (some 2) (Value.int .i64 0) rfl rfl rfl (y_assign rfl) ?_
          refine drop.of ?_
          refine cw_ret ?_
          refine out_one [(Value.int .i64 0)] (e_wide_kindOf 0) Try.results61 ?_ rfl ?_
          · exact (And.intro (rfl) trivial)
          · exact Exists.intro 0 (And.intro rfl hm)
end Go.Proofs.Ytnmaknkbdfpbkaa.K
