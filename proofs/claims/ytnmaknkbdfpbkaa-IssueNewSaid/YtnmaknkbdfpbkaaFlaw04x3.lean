/- Functions of the program, printed by a program of mine: law04_Pair_step -/
import Derived.Test.YtnmaknkbdfpbkaaT
import Derived.Test.YtnmaknkbdfpbkaaFdraws
import Derived.Test.YtnmaknkbdfpbkaaFref04
namespace Go.Proofs.Ytnmaknkbdfpbkaa.K
open Go Go.Proofs
/-! (sesame/sesamelaw04.Pair).step -/
def e_law04_Pair_step : Bool → Value := fun r => (Value.bool r)
def m_law04_Pair_step (a0 : S_law04_Pair) (a1 : S_law04_Step) (K : (Bool) → H → Prop) : H → Prop :=
  mIf (decide (a1.Kind = 0)) (
    m_draws_Draws_Draw a0.P fun r4 =>
    m_ref04_Draws_Draw a0.R fun r7 =>
    mIf ((decide (r4.1.Hi = r7.1.Hi)) && ((decide (r4.1.Lo = r7.1.Lo)) && true)) (
      K (decide (r4.2 = r7.2))
      ) (
      K false
      )
    ) (
    mIf (decide (a1.Kind = 1)) (
      m_draws_Draws_Taken a0.P fun r12 =>
      m_ref04_Draws_Taken a0.R fun r14 =>
      mIf (decide (r12 = r14)) (
        m_draws_Draws_Left a0.P fun r17 =>
        m_ref04_Draws_Left a0.R fun r19 =>
        K (decide (r17 = r19))
        ) (
        K false
        )
      ) (
      mIf (decide (a1.Kind = 2)) (
        m_draws_Draws_Skip a0.P a1.N fun r22 =>
        m_ref04_Draws_Skip a0.R a1.N fun r24 =>
        K (decide (r22 = r24))
        ) (
        K true
        )
      )
    )
set_option maxRecDepth 100000 in
set_option maxHeartbeats 8000000 in
theorem c_law04_Pair_step {a0 : S_law04_Pair} {a1 : S_law04_Step} {K : (Bool) → H → Prop} {h : H} (hm : m_law04_Pair_step a0 a1 K h) : ACall Try.prog 20 #[(S_law04_Pair.val a0), (S_law04_Step.val a1)] h (fun v h' => ∃ r, v = e_law04_Pair_step r ∧ K r h') noP := by
  unfold m_law04_Pair_step at hm
  have nd : (([] : List (Nat × Obj)).map Prod.fst).Nodup := List.nodup_nil
  refine cw_func Try.func20 rfl rfl ?_
  refine cw_seq ?_
  refine cw_reg (l := [0, 1, 2]) rfl rfl ?_
  refine sg rfl rfl (b_box nd (c := #[(Value.pointer a0.P), (Value.pointer a0.R)]) rfl (fun b1 nd => ?_))
  refine sg rfl rfl (b_box nd (c := #[(Value.bool a1.Second), (Value.int .i64 a1.Kind), (Value.int .i64 a1.N)]) rfl (fun b2 nd => ?_))
  refine sgy (some 4) (Value.bool false) rfl rfl rfl (y_assign rfl) ?_
  refine drop.of ?_
  refine cw_seq ?_
  refine cw_seq ?_
  refine cw_reg (l := [0, 1]) rfl rfl ?_
  refine sgy (some 9) (Value.pointer (some ⟨b2, 1, none⟩)) rfl rfl rfl (yv (y_fieldAddr rfl Try.underlying43 rfl i3 rfl) rfl) ?_
  refine sgr (some 10) (Value.int .i64 a1.Kind) rfl rfl rfl (r_load 0 nd rfl rfl Try.underlying3 rfl rfl) ?_
  refine drop.of ?_
  refine cw_block ?_
  refine cw_seq ?_
  refine cw_reg (l := [0, 1]) rfl rfl ?_
  refine sgy (some 12) (Value.bool (decide (a1.Kind = 0))) rfl rfl rfl (y_bin rfl rfl rfl) ?_
  refine sgy (some 11) (Value.bool (decide (a1.Kind = 0))) rfl rfl rfl (y_assign rfl) ?_
  refine drop.of ?_
  refine cw_ifm hm rfl (fun hc3 hm => ?_) (fun hc3 hm => ?_)
  · refine cw_seq ?_
    refine cw_reg (l := [0, 1, 2, 3, 4, 5, 6, 7, 8]) rfl rfl ?_
    refine sgy (some 14) (Value.pointer (some ⟨b1, 0, none⟩)) rfl rfl rfl (yv (y_fieldAddr rfl Try.underlying41 rfl i26 rfl) rfl) ?_
    refine sgr (some 15) (Value.pointer a0.P) rfl rfl rfl (r_load 1 nd rfl rfl Try.underlying26 rfl rfl) ?_
    refine sg rfl rfl (v_call (c_draws_Draws_Draw hm) callee15 rfl (fun v h hm => ?_))
    obtain ⟨r4, rfl, hm⟩ := hm
    refine sgy (some 13) (Value.tuple #[(S_api_Word.val r4.1), (Value.int .i64 r4.2)]) rfl rfl rfl (y_move rfl) ?_
    refine sgy (some 17) (S_api_Word.val r4.1) rfl rfl rfl (y_extract rfl rfl) ?_
    refine sgy (some 18) (Value.int .i64 r4.2) rfl rfl rfl (y_extract rfl rfl) ?_
    refine sg rfl rfl (b_alloc nd i25 rfl (c := #[(Value.int .u64 0), (Value.int .u64 0)]) rfl (fun b6 nd => ?_))
    refine sg rfl rfl (b_store 0 nd rfl rfl rfl i25 rfl rfl rfl (c' := #[(Value.int .u64 r4.1.Hi), (Value.int .u64 r4.1.Lo)]) rfl (fun nd => ?_))
    refine sgy (some 6) (Value.int .i64 r4.2) rfl rfl rfl (y_assign rfl) ?_
    refine drop.of ?_
    refine cw_seq ?_
    refine cw_reg (l := [0, 1, 2, 3, 4, 5, 6, 7, 8]) rfl rfl ?_
    refine sgy (some 20) (Value.pointer (some ⟨b1, 1, none⟩)) rfl rfl rfl (yv (y_fieldAddr rfl Try.underlying41 rfl i37 rfl) rfl) ?_
    refine sgr (some 21) (Value.pointer a0.R) rfl rfl rfl (r_load 2 nd rfl rfl Try.underlying37 rfl rfl) ?_
    refine sg rfl rfl (v_call (c_ref04_Draws_Draw hm) callee53 rfl (fun v h hm => ?_))
    obtain ⟨r7, rfl, hm⟩ := hm
    refine sgy (some 19) (Value.tuple #[(S_api_Word.val r7.1), (Value.int .i64 r7.2)]) rfl rfl rfl (y_move rfl) ?_
    refine sgy (some 23) (S_api_Word.val r7.1) rfl rfl rfl (y_extract rfl rfl) ?_
    refine sgy (some 24) (Value.int .i64 r7.2) rfl rfl rfl (y_extract rfl rfl) ?_
    refine sg rfl rfl (b_alloc nd i25 rfl (c := #[(Value.int .u64 0), (Value.int .u64 0)]) rfl (fun b9 nd => ?_))
    refine sg rfl rfl (b_store 0 nd rfl rfl rfl i25 rfl rfl rfl (c' := #[(Value.int .u64 r7.1.Hi), (Value.int .u64 r7.1.Lo)]) rfl (fun nd => ?_))
    refine sgy (some 8) (Value.int .i64 r7.2) rfl rfl rfl (y_assign rfl) ?_
    refine drop.of ?_
    refine cw_seq ?_
    refine cw_reg (l := [0, 1, 2, 3, 4, 5, 6, 7, 8]) rfl rfl ?_
    refine sgr (some 25) (S_api_Word.val r4.1) rfl rfl rfl (r_loadA 1 nd rfl rfl Try.underlying25 rfl i25 rfl) ?_
    refine sgr (some 26) (S_api_Word.val r7.1) rfl rfl rfl (r_loadA 0 nd rfl rfl Try.underlying25 rfl i25 rfl) ?_
    refine sgy (some 27) (Value.bool ((decide (r4.1.Hi = r7.1.Hi)) && ((decide (r4.1.Lo = r7.1.Lo)) && true))) rfl rfl rfl (y_eqA (n := 2) Try.eqGuardType25 rfl rfl (eq_struct (n := 1) Try.underlying25 Try.stoodInHeld25 (efs_cons rfl (part_one Try.underlying23 rfl rfl) (part_one Try.underlying23 rfl rfl) (eq_int Try.underlying23) rfl (efs_cons rfl (part_one Try.underlying23 rfl rfl) (part_one Try.underlying23 rfl rfl) (eq_int Try.underlying23) rfl efs_nil))) rfl) ?_
    refine sgy (some 28) (Value.bool ((decide (r4.1.Hi = r7.1.Hi)) && ((decide (r4.1.Lo = r7.1.Lo)) && true))) rfl rfl rfl (y_move rfl) ?_
    refine mIf_elim hm (fun hc10 hm => ?_) (fun hc10 hm => ?_)
    · refine sgy (some 29) (Value.int .i64 r4.2) rfl rfl (by exact wTT rfl rfl hc10) (y_move rfl) ?_
      refine sgy (some 30) (Value.int .i64 r7.2) rfl rfl (by exact wTT rfl rfl hc10) (y_move rfl) ?_
      refine sgy (some 31) (Value.bool (decide (r4.2 = r7.2))) rfl rfl (by exact wTT rfl rfl hc10) (y_bin rfl rfl rfl) ?_
      refine sgy (some 32) (Value.bool (decide (r4.2 = r7.2))) rfl rfl rfl (y_pickT rfl hc10 rfl) ?_
      refine sgy (some 4) (Value.bool (decide (r4.2 = r7.2))) rfl rfl rfl (y_assign rfl) ?_
      refine drop.of ?_
      refine cw_ret ?_
      refine out_one [(Value.bool (decide (r4.2 = r7.2)))] (e_law04_Pair_step (decide (r4.2 = r7.2))) Try.results20 ?_ rfl ?_
      · exact (And.intro (rfl) trivial)
      · exact Exists.intro (decide (r4.2 = r7.2)) (And.intro rfl hm)
    · refine sgn (some 29) rfl rfl (by exact wTF rfl rfl hc10) ?_
      refine sgn (some 30) rfl rfl (by exact wTF rfl rfl hc10) ?_
      refine sgn (some 31) rfl rfl (by exact wTF rfl rfl hc10) ?_
      refine sgy (some 32) (Value.bool false) rfl rfl rfl (y_pickF rfl hc10 rfl) ?_
      refine sgy (some 4) (Value.bool false) rfl rfl rfl (y_assign rfl) ?_
      refine drop.of ?_
      refine cw_ret ?_
      refine out_one [(Value.bool false)] (e_law04_Pair_step false) Try.results20 ?_ rfl ?_
      · exact (And.intro (rfl) trivial)
      · exact Exists.intro false (And.intro rfl hm)
  · refine cw_seq ?_
    refine cw_reg (l := [0, 1]) rfl rfl ?_
    refine sgy (some 34) (Value.bool (decide (a1.Kind = 1))) rfl rfl rfl (y_bin rfl rfl rfl) ?_
    refine sgy (some 33) (Value.bool (decide (a1.Kind = 1))) rfl rfl rfl (y_assign rfl) ?_
    refine drop.of ?_
    refine cw_ifm hm rfl (fun hc11 hm => ?_) (fun hc11 hm => ?_)
    · refine cw_seq ?_
      refine cw_draw mixed rfl ?_
      refine tyy 0 (some 35) (Value.pointer (some ⟨b1, 0, none⟩)) rfl rfl (by kernel_rfl) (by kernel_rfl) (by kernel_rfl) rfl (yv (y_fieldAddr rfl Try.underlying41 rfl i26 rfl) rfl) ?_
      refine tyy 3 (some 38) (Value.pointer (some ⟨b1, 1, none⟩)) rfl rfl (by kernel_rfl) (by kernel_rfl) (by kernel_rfl) rfl (yv (y_fieldAddr rfl Try.underlying41 rfl i37 rfl) rfl) ?_
      refine trr 1 (some 36) (Value.pointer a0.P) rfl rfl (by kernel_rfl) (by kernel_rfl) (by kernel_rfl) rfl (r_load 1 nd rfl rfl Try.underlying26 rfl rfl) ?_
      refine trr 4 (some 39) (Value.pointer a0.R) rfl rfl (by kernel_rfl) (by kernel_rfl) (by kernel_rfl) rfl (r_load 1 nd rfl rfl Try.underlying37 rfl rfl) ?_
      refine t1 2 rfl (by kernel_rfl) rfl (v_call (c_draws_Draws_Taken hm) callee16 rfl (fun v h hm => ?_))
      obtain ⟨r12, rfl, hm⟩ := hm
      refine t1 5 rfl (by kernel_rfl) rfl (v_call (c_ref04_Draws_Taken hm) callee26 rfl (fun v h hm => ?_))
      obtain ⟨r14, rfl, hm⟩ := hm
      refine tyy 6 (some 41) (Value.bool (decide (r12 = r14))) rfl rfl (by kernel_rfl) (by kernel_rfl) (by kernel_rfl) rfl (y_bin rfl rfl rfl) ?_
      refine tyy 7 (some 42) (Value.bool (decide (r12 = r14))) rfl rfl (by kernel_rfl) (by kernel_rfl) (by kernel_rfl) rfl (y_move rfl) ?_
      refine mIf_elim hm (fun hc16 hm => ?_) (fun hc16 hm => ?_)
      · refine tyy 8 (some 43) (Value.pointer (some ⟨b1, 0, none⟩)) rfl rfl (by kernel_rfl) (by kernel_rfl) (by kernel_rfl) (by exact wTT rfl rfl hc16) (yv (y_fieldAddr rfl Try.underlying41 rfl i26 rfl) rfl) ?_
        refine tyy 11 (some 46) (Value.pointer (some ⟨b1, 1, none⟩)) rfl rfl (by kernel_rfl) (by kernel_rfl) (by kernel_rfl) (by exact wTT rfl rfl hc16) (yv (y_fieldAddr rfl Try.underlying41 rfl i37 rfl) rfl) ?_
        refine trr 9 (some 44) (Value.pointer a0.P) rfl rfl (by kernel_rfl) (by kernel_rfl) (by kernel_rfl) (by exact wTT rfl rfl hc16) (r_load 1 nd rfl rfl Try.underlying26 rfl rfl) ?_
        refine trr 12 (some 47) (Value.pointer a0.R) rfl rfl (by kernel_rfl) (by kernel_rfl) (by kernel_rfl) (by exact wTT rfl rfl hc16) (r_load 1 nd rfl rfl Try.underlying37 rfl rfl) ?_
        refine t1 10 rfl (by kernel_rfl) (by exact wTT rfl rfl hc16) (v_call (c_draws_Draws_Left hm) callee17 rfl (fun v h hm => ?_))
        obtain ⟨r17, rfl, hm⟩ := hm
        refine t1 13 rfl (by kernel_rfl) (by exact wTT rfl rfl hc16) (v_call (c_ref04_Draws_Left hm) callee54 rfl (fun v h hm => ?_))
        obtain ⟨r19, rfl, hm⟩ := hm
        refine tyy 14 (some 49) (Value.bool (decide (r17 = r19))) rfl rfl (by kernel_rfl) (by kernel_rfl) (by kernel_rfl) (by exact wTT rfl rfl hc16) (y_bin rfl rfl rfl) ?_
        refine tyy 15 (some 50) (Value.bool (decide (r17 = r19))) rfl rfl (by kernel_rfl) (by kernel_rfl) (by kernel_rfl) rfl (y_pickT rfl hc16 rfl) ?_
        refine tyy 16 (some 4) (Value.bool (decide (r17 = r19))) rfl rfl (by kernel_rfl) (by kernel_rfl) (by kernel_rfl) rfl (y_assign rfl) ?_
        refine td (by kernel_rfl) ?_
        refine drop.of ?_
        refine cw_ret ?_
        refine out_one [(Value.bool (decide (r17 = r19)))] (e_law04_Pair_step (decide (r17 = r19))) Try.results20 ?_ rfl ?_
        · exact (And.intro (rfl) trivial)
        · exact Exists.intro (decide (r17 = r19)) (And.intro rfl hm)
      · refine tnn 8 (some 43) rfl rfl (by kernel_rfl) (by kernel_rfl) (by kernel_rfl) (by exact wTF rfl rfl hc16) ?_
        refine tnn 9 (some 44) rfl rfl (by kernel_rfl) (by kernel_rfl) (by kernel_rfl) (by exact wTF rfl rfl hc16) ?_
        refine tnn 10 (some 45) rfl rfl (by kernel_rfl) (by kernel_rfl) (by kernel_rfl) (by exact wTF rfl rfl hc16) ?_
        refine tnn 11 (some 46) rfl rfl (by kernel_rfl) (by kernel_rfl) (by kernel_rfl) (by exact wTF rfl rfl hc16) ?_
        refine tnn 12 (some 47) rfl rfl (by kernel_rfl) (by kernel_rfl) (by kernel_rfl) (by exact wTF rfl rfl hc16) ?_
        refine tnn 13 (some 48) rfl rfl (by kernel_rfl) (by kernel_rfl) (by kernel_rfl) (by exact wTF rfl rfl hc16) ?_
        refine tnn 14 (some 49) rfl rfl (by kernel_rfl) (by kernel_rfl) (by kernel_rfl) (by exact wTF rfl rfl hc16) ?_
        refine tyy 15 (some 50) (Value.bool false) rfl rfl (by kernel_rfl) (by kernel_rfl) (by kernel_rfl) rfl (y_pickF rfl hc16 rfl) ?_
        refine tyy 16 (some 4) (Value.bool false) rfl rfl (by kernel_rfl) (by kernel_rfl) (by kernel_rfl) rfl (y_assign rfl) ?_
        refine td (by kernel_rfl) ?_
        refine drop.of ?_
        refine cw_ret ?_
        refine out_one [(Value.bool false)] (e_law04_Pair_step false) Try.results20 ?_ rfl ?_
        · exact (And.intro (rfl) trivial)
        · exact Exists.intro false (And.intro rfl hm)
    · refine cw_seq ?_
      refine cw_reg (l := [0, 1]) rfl rfl ?_
      refine sgy (some 52) (Value.bool (decide (a1.Kind = 2))) rfl rfl rfl (y_bin rfl rfl rfl) ?_
      refine sgy (some 51) (Value.bool (decide (a1.Kind = 2))) rfl rfl rfl (y_assign rfl) ?_
      refine drop.of ?_
      refine cw_ifm hm rfl (fun hc21 hm => ?_) (fun hc21 hm => ?_)
      · refine cw_seq ?_
        refine cw_draw mixed rfl ?_
        refine tyy 0 (some 53) (Value.pointer (some ⟨b1, 0, none⟩)) rfl rfl (by kernel_rfl) (by kernel_rfl) (by kernel_rfl) rfl (yv (y_fieldAddr rfl Try.underlying41 rfl i26 rfl) rfl) ?_
        refine tyy 2 (some 55) (Value.pointer (some ⟨b2, 2, none⟩)) rfl rfl (by kernel_rfl) (by kernel_rfl) (by kernel_rfl) rfl (yv (y_fieldAddr rfl Try.underlying43 rfl i3 rfl) rfl) ?_
        refine tyy 5 (some 58) (Value.pointer (some ⟨b1, 1, none⟩)) rfl rfl (by kernel_rfl) (by kernel_rfl) (by kernel_rfl) rfl (yv (y_fieldAddr rfl Try.underlying41 rfl i37 rfl) rfl) ?_
        refine tyy 7 (some 60) (Value.pointer (some ⟨b2, 2, none⟩)) rfl rfl (by kernel_rfl) (by kernel_rfl) (by kernel_rfl) rfl (yv (y_fieldAddr rfl Try.underlying43 rfl i3 rfl) rfl) ?_
        refine trr 1 (some 54) (Value.pointer a0.P) rfl rfl (by kernel_rfl) (by kernel_rfl) (by kernel_rfl) rfl (r_load 1 nd rfl rfl Try.underlying26 rfl rfl) ?_
        refine trr 3 (some 56) (Value.int .i64 a1.N) rfl rfl (by kernel_rfl) (by kernel_rfl) (by kernel_rfl) rfl (r_load 0 nd rfl rfl Try.underlying3 rfl rfl) ?_
        refine trr 6 (some 59) (Value.pointer a0.R) rfl rfl (by kernel_rfl) (by kernel_rfl) (by kernel_rfl) rfl (r_load 1 nd rfl rfl Try.underlying37 rfl rfl) ?_
        refine trr 8 (some 61) (Value.int .i64 a1.N) rfl rfl (by kernel_rfl) (by kernel_rfl) (by kernel_rfl) rfl (r_load 0 nd rfl rfl Try.underlying3 rfl rfl) ?_
        refine t1 4 rfl (by kernel_rfl) rfl (v_call (c_draws_Draws_Skip hm) callee21 rfl (fun v h hm => ?_))
        obtain ⟨r22, rfl, hm⟩ := hm
        refine t1 9 rfl (by kernel_rfl) rfl (v_call (c_ref04_Draws_Skip hm) callee23 rfl (fun v h hm => ?_))
        obtain ⟨r24, rfl, hm⟩ := hm
        refine tyy 10 (some 63) (Value.bool (decide (r22 = r24))) rfl rfl (by kernel_rfl) (by kernel_rfl) (by kernel_rfl) rfl (y_bin rfl rfl rfl) ?_
        refine tyy 11 (some 4) (Value.bool (decide (r22 = r24))) rfl rfl (by kernel_rfl) (by kernel_rfl) (by kernel_rfl) rfl (y_assign rfl) ?_
        refine td (by kernel_rfl) ?_
        refine drop.of ?_
        refine cw_ret ?_
        refine out_one [(Value.bool (decide (r22 = r24)))] (e_law04_Pair_step (decide (r22 = r24))) Try.results20 ?_ rfl ?_
        · exact (And.intro (rfl) trivial)
        · exact Exists.intro (decide (r22 = r24)) (And.intro rfl hm)
      · refine cw_skip ?_
        refine drop.of ?_
        refine cw_seq ?_
        refine cw_reg (l := [0]) rfl rfl ?_
        refine sgy (some 4) (Value.bool true) rfl rfl rfl (y_assign rfl) ?_
        refine drop.of ?_
        refine cw_ret ?_
        refine out_one [(Value.bool true)] (e_law04_Pair_step true) Try.results20 ?_ rfl ?_
        · exact (And.intro (rfl) trivial)
        · exact Exists.intro true (And.intro rfl hm)
end Go.Proofs.Ytnmaknkbdfpbkaa.K
