/- Functions of the program, printed by a program of mine: ref13_Draw -/
import Derived.Test.YtnmaknkbdfpbkaaT
import Derived.Test.YtnmaknkbdfpbkaaFref04
namespace Go.Proofs.Ytnmaknkbdfpbkaa.K
open Go Go.Proofs
/-! sesame/sesameref13.Draw -/
def e_ref13_Draw : S_api_Word × Int → Value := fun r => Value.tuple #[(S_api_Word.val r.1), (Value.int .i64 r.2)]
def m_ref13_Draw (a0 : Option Addr) (a1 : Sl) (K : (S_api_Word × Int) → H → Prop) : H → Prop :=
  mLoop (fun (rec3 : Int → H → Prop) (s2 : Int) =>
    mIf (decide (s2 < 9)) (
      m_ref04_Draws_Draw a0 fun r5 =>
      mIf (!decide (r5.2 = 0)) (
        K ((⟨0, 0⟩ : S_api_Word), r5.2)
        ) (
        mLoop (fun (rec10 : Bool × Int → H → Prop) (s9 : Bool × Int) =>
          mIf (decide (s9.2 < (a1.len : Int))) (
            mIf s9.1 (
              rec10 (true, (iAdd .i64 s9.2 1))
              ) (
              mIdx a1 s9.2 2 fun a13 =>
              mLoad S_api_Word.cells a13 fun x15 =>
              rec10 (((decide (x15.Hi = r5.1.Hi)) && ((decide (x15.Lo = r5.1.Lo)) && true)), (iAdd .i64 s9.2 1))
              )
            ) (
            mIf (!s9.1) (
              K (r5.1, 0)
              ) (
              rec3 (iAdd .i64 s2 1)
              )
            )
          ) (false, 0)
        )
      ) (
      K ((⟨0, 0⟩ : S_api_Word), 12)
      )
    ) 0
set_option maxRecDepth 100000 in
set_option maxHeartbeats 8000000 in
theorem c_ref13_Draw {a0 : Option Addr} {a1 : Sl} {K : (S_api_Word × Int) → H → Prop} {h : H} (hm : m_ref13_Draw a0 a1 K h) : ACall Try.prog 24 #[(Value.pointer a0), (Sl.val a1)] h (fun v h' => ∃ r, v = e_ref13_Draw r ∧ K r h') noP := by
  unfold m_ref13_Draw at hm
  have nd : (([] : List (Nat × Obj)).map Prod.fst).Nodup := List.nodup_nil
  refine cw_func Try.func24 rfl rfl ?_
  refine cw_seq ?_
  refine cw_reg (l := [0, 1]) rfl rfl ?_
  refine sg rfl rfl (b_alloc nd i25 rfl (c := #[(Value.int .u64 0), (Value.int .u64 0)]) rfl (fun b1 nd => ?_))
  refine sgy (some 5) (Value.int .i64 0) rfl rfl rfl (y_assign rfl) ?_
  refine drop.of ?_
  refine cw_seq ?_
  refine cw_seq ?_
  refine cw_reg (l := [0]) rfl rfl ?_
  refine sgy (some 6) (Value.int .i64 0) rfl rfl rfl (y_assign rfl) ?_
  refine drop.of ?_
  refine cw_block ?_
  refine cw_loop [5, 6, 7, 8, 9, 10, 11, 12, 13, 14, 15, 16, 17, 18, 19, 20, 21, 22, 23, 24, 25, 26, 27, 28, 29, 30, 31, 32, 33, 34, 35, 36, 37, 38, 39, 40, 41] (fun s2 => [(6, (Value.int .i64 s2))]) (fun s2 => [(b1, Obj.cells #[(Value.int .u64 0), (Value.int .u64 0)] 25 (0, 0))]) hm rfl (fun _ => rfl) ⟨rfl, trivial⟩ rfl (fun _ => nd) (fun rec3 s2 h junk nd hm => ?_)
  refine cw_seq ?_
  refine cw_seq ?_
  refine cw_reg (l := [0, 1]) rfl rfl ?_
  refine sgy (some 11) (Value.int .i64 s2) rfl rfl rfl (y_move rfl) ?_
  refine sgy (some 12) (Value.bool (decide (s2 < 9))) rfl rfl rfl (y_bin rfl rfl rfl) ?_
  refine drop.of ?_
  refine cw_ifm hm rfl (fun hc4 hm => ?_) (fun hc4 hm => ?_)
  · refine cw_skip ?_
    refine drop.of ?_
    refine cw_seq ?_
    refine cw_block ?_
    refine cw_seq ?_
    refine cw_reg (l := [0, 1, 2, 3, 4, 5, 6, 7]) rfl rfl ?_
    refine sgy (some 16) (Value.pointer a0) rfl rfl rfl (y_move rfl) ?_
    refine sg rfl rfl (v_call (c_ref04_Draws_Draw hm) callee53 rfl (fun v h hm => ?_))
    obtain ⟨r5, rfl, hm⟩ := hm
    refine sgy (some 15) (Value.tuple #[(S_api_Word.val r5.1), (Value.int .i64 r5.2)]) rfl rfl rfl (y_move rfl) ?_
    refine sgy (some 18) (S_api_Word.val r5.1) rfl rfl rfl (y_extract rfl rfl) ?_
    refine sgy (some 19) (Value.int .i64 r5.2) rfl rfl rfl (y_extract rfl rfl) ?_
    refine sg rfl rfl (b_alloc nd i25 rfl (c := #[(Value.int .u64 0), (Value.int .u64 0)]) rfl (fun b7 nd => ?_))
    refine sg rfl rfl (b_store 0 nd rfl rfl rfl i25 rfl rfl rfl (c' := #[(Value.int .u64 r5.1.Hi), (Value.int .u64 r5.1.Lo)]) rfl (fun nd => ?_))
    refine sgy (some 8) (Value.int .i64 r5.2) rfl rfl rfl (y_assign rfl) ?_
    refine drop.of ?_
    refine cw_seq ?_
    refine cw_seq ?_
    refine cw_reg (l := [0, 1]) rfl rfl ?_
    refine sgy (some 20) (Value.int .i64 r5.2) rfl rfl rfl (y_move rfl) ?_
    refine sgy (some 21) (Value.bool (!decide (r5.2 = 0))) rfl rfl rfl (y_bin rfl rfl rfl) ?_
    refine drop.of ?_
    refine cw_ifm hm rfl (fun hc8 hm => ?_) (fun hc8 hm => ?_)
    · refine cw_seq ?_
      refine cw_reg (l := [0, 1, 2, 3]) rfl rfl ?_
      refine sgy (some 22) (S_api_Word.val (⟨0, 0⟩ : S_api_Word)) rfl rfl rfl (y_build Try.underlying25 i25 rfl (sizes_cons i23 (sizes_cons i23 sizes_nil)) rfl (cs := #[(Value.int .u64 0), (Value.int .u64 0)]) rfl) ?_
      refine sgy (some 23) (Value.int .i64 r5.2) rfl rfl rfl (y_move rfl) ?_
      refine sg rfl rfl (b_store 1 nd rfl rfl rfl i25 rfl rfl rfl (c' := #[(Value.int .u64 0), (Value.int .u64 0)]) rfl (fun nd => ?_))
      refine sgy (some 5) (Value.int .i64 r5.2) rfl rfl rfl (y_assign rfl) ?_
      refine drop.of ?_
      refine cw_ret ?_
      refine out_one [(S_api_Word.val (⟨0, 0⟩ : S_api_Word)), (Value.int .i64 r5.2)] (e_ref13_Draw ((⟨0, 0⟩ : S_api_Word), r5.2)) Try.results24 ?_ rfl ?_
      · exact (And.intro (⟨_, rfl, res_box 1 nd rfl Try.underlying25 rfl i25 rfl⟩) (And.intro (rfl) trivial))
      · exact Exists.intro ((⟨0, 0⟩ : S_api_Word), r5.2) (And.intro rfl hm)
    · refine cw_skip ?_
      refine drop.of ?_
      refine cw_seq ?_
      refine cw_reg (l := [0]) rfl rfl ?_
      refine sgy (some 9) (Value.bool false) rfl rfl rfl (y_assign rfl) ?_
      refine drop.of ?_
      refine cw_seq ?_
      refine cw_seq ?_
      refine cw_reg (l := [0]) rfl rfl ?_
      refine sgy (some 10) (Value.int .i64 0) rfl rfl rfl (y_assign rfl) ?_
      refine drop.of ?_
      refine cw_block ?_
      refine cw_loop [9, 10, 24, 25, 26, 27, 28, 29, 30, 31, 32, 33, 34, 35, 36, 37, 38] (fun s9 => [(9, (Value.bool s9.1)), (10, (Value.int .i64 s9.2))]) (fun s9 => [(b7, Obj.cells #[(Value.int .u64 r5.1.Hi), (Value.int .u64 r5.1.Lo)] 25 (0, 0)), (b1, Obj.cells #[(Value.int .u64 0), (Value.int .u64 0)] 25 (0, 0))]) hm rfl (fun _ => rfl) ⟨rfl, rfl, trivial⟩ rfl (fun _ => nd) (fun rec10 s9 h junk nd hm => ?_)
      refine cw_seq ?_
      refine cw_seq ?_
      refine cw_reg (l := [0, 1, 2, 3]) rfl rfl ?_
      refine sgy (some 24) (Value.int .i64 s9.2) rfl rfl rfl (y_move rfl) ?_
      refine sgy (some 25) (Sl.val a1) rfl rfl rfl (y_move rfl) ?_
      refine sgy (some 26) (Value.int .i64 (a1.len : Int)) rfl rfl rfl (y_len (s := a1) rfl rfl Try.underlying22) ?_
      refine sgy (some 27) (Value.bool (decide (s9.2 < (a1.len : Int)))) rfl rfl rfl (y_bin rfl rfl rfl) ?_
      refine drop.of ?_
      refine cw_ifm hm rfl (fun hc11 hm => ?_) (fun hc11 hm => ?_)
      · refine cw_skip ?_
        refine drop.of ?_
        refine cw_seq ?_
        refine cw_block ?_
        refine cw_draw mixed rfl ?_
        refine tyy 0 (some 30) (Value.bool s9.1) rfl rfl (by kernel_rfl) (by kernel_rfl) (by kernel_rfl) rfl (y_move rfl) ?_
        refine tyy 1 (some 31) (Value.bool s9.1) rfl rfl (by kernel_rfl) (by kernel_rfl) (by kernel_rfl) rfl (y_move rfl) ?_
        refine mIf_elim hm (fun hc12 hm => ?_) (fun hc12 hm => ?_)
        · refine tnn 2 (some 32) rfl rfl (by kernel_rfl) (by kernel_rfl) (by kernel_rfl) (by exact wFT rfl rfl hc12) ?_
          refine tnn 3 (some 33) rfl rfl (by kernel_rfl) (by kernel_rfl) (by kernel_rfl) (by exact wFT rfl rfl hc12) ?_
          refine tnn 4 (some 34) rfl rfl (by kernel_rfl) (by kernel_rfl) (by kernel_rfl) (by exact wFT rfl rfl hc12) ?_
          refine tnn 5 (some 35) rfl rfl (by kernel_rfl) (by kernel_rfl) (by kernel_rfl) (by exact wFT rfl rfl hc12) ?_
          refine tnn 6 (some 36) rfl rfl (by kernel_rfl) (by kernel_rfl) (by kernel_rfl) (by exact wFT rfl rfl hc12) ?_
          refine tnn 7 (some 37) rfl rfl (by kernel_rfl) (by kernel_rfl) (by kernel_rfl) (by exact wFT rfl rfl hc12) ?_
          refine tyy 8 (some 38) (Value.bool true) rfl rfl (by kernel_rfl) (by kernel_rfl) (by kernel_rfl) rfl (y_pickT rfl hc12 rfl) ?_
          refine tyy 9 (some 9) (Value.bool true) rfl rfl (by kernel_rfl) (by kernel_rfl) (by kernel_rfl) rfl (y_assign rfl) ?_
          refine td (by kernel_rfl) ?_
          refine drop.of ?_
          refine cw_reg (l := [0, 1, 2]) rfl rfl ?_
          refine sgy (some 28) (Value.int .i64 s9.2) rfl rfl rfl (y_move rfl) ?_
          refine sgy (some 29) (Value.int .i64 (iAdd .i64 s9.2 1)) rfl rfl rfl (y_bin rfl rfl rfl) ?_
          refine sgy (some 10) (Value.int .i64 (iAdd .i64 s9.2 1)) rfl rfl rfl (y_assign rfl) ?_
          exact Exists.intro (true, (iAdd .i64 s9.2 1)) (And.intro (And.intro rfl (And.intro rfl trivial)) (And.intro (bx_drop nd 0) hm))
        · refine tyy 2 (some 32) (Sl.val a1) rfl rfl (by kernel_rfl) (by kernel_rfl) (by kernel_rfl) (by exact wFF rfl rfl hc12) (y_move rfl) ?_
          refine tyy 3 (some 33) (Value.int .i64 s9.2) rfl rfl (by kernel_rfl) (by kernel_rfl) (by kernel_rfl) (by exact wFF rfl rfl hc12) (y_move rfl) ?_
          obtain ⟨a13, hq14, hm⟩ := hm
          refine tyy 4 (some 34) (Value.pointer (some a13)) rfl rfl (by kernel_rfl) (by kernel_rfl) (by kernel_rfl) (by exact wFF rfl rfl hc12) (y_idx Try.underlying22 i25 rfl rfl hq14) ?_
          refine trr 6 (some 36) (S_api_Word.val r5.1) rfl rfl (by kernel_rfl) (by kernel_rfl) (by kernel_rfl) (by exact wFF rfl rfl hc12) (r_loadA 0 nd rfl rfl Try.underlying25 rfl i25 rfl) ?_
          refine tq 5 rfl (by kernel_rfl) (by kernel_rfl) (by kernel_rfl) (by exact wFF rfl rfl hc12) (v_loadA hm rfl Try.underlying25 rfl i25 S_api_Word.val (fun _ => ⟨rfl, rfl⟩) (fun x15 hm => ?_))
          refine tyy 7 (some 37) (Value.bool ((decide (x15.Hi = r5.1.Hi)) && ((decide (x15.Lo = r5.1.Lo)) && true))) rfl rfl (by kernel_rfl) (by kernel_rfl) (by kernel_rfl) (by exact wFF rfl rfl hc12) (y_eqA (n := 2) Try.eqGuardType25 rfl rfl (eq_struct (n := 1) Try.underlying25 Try.stoodInHeld25 (efs_cons rfl (part_one Try.underlying23 rfl rfl) (part_one Try.underlying23 rfl rfl) (eq_int Try.underlying23) rfl (efs_cons rfl (part_one Try.underlying23 rfl rfl) (part_one Try.underlying23 rfl rfl) (eq_int Try.underlying23) rfl efs_nil))) rfl) ?_
          refine tyy 8 (some 38) (Value.bool ((decide (x15.Hi = r5.1.Hi)) && ((decide (x15.Lo = r5.1.Lo)) && true))) rfl rfl (by kernel_rfl) (by kernel_rfl) (by kernel_rfl) rfl (y_pickF rfl hc12 rfl) ?_
          refine tyy 9 (some 9) (Value.bool ((decide (x15.Hi = r5.1.Hi)) && ((decide (x15.Lo = r5.1.Lo)) && true))) rfl rfl (by kernel_rfl) (by kernel_rfl) (by kernel_rfl) rfl (y_assign rfl) ?_
          refine td (by kernel_rfl) ?_
          refine drop.of ?_
          refine cw_reg (l := [0, 1, 2]) rfl rfl ?_
          refine sgy (some 28) (Value.int .i64 s9.2) rfl rfl rfl (y_move rfl) ?_
          refine sgy (some 29) (Value.int .i64 (iAdd .i64 s9.2 1)) rfl rfl rfl (y_bin rfl rfl rfl) ?_
          refine sgy (some 10) (Value.int .i64 (iAdd .i64 s9.2 1)) rfl rfl rfl (y_assign rfl) ?_
          exact Exists.intro (((decide (x15.Hi = r5.1.Hi)) && ((decide (x15.Lo = r5.1.Lo)) && true)), (iAdd .i64 s9.2 1)) (And.intro (And.intro rfl (And.intro rfl trivial)) (And.intro (bx_drop nd 0) hm))
      · refine cw_exit ?_
        refine drop.of ?_
        refine cw_seq ?_
        refine cw_reg (l := [0, 1]) rfl rfl ?_
        refine sgy (some 39) (Value.bool s9.1) rfl rfl rfl (y_move rfl) ?_
        refine sgy (some 40) (Value.bool (!s9.1)) rfl rfl rfl (y_not rfl) ?_
        refine drop.of ?_
        refine cw_ifm hm rfl (fun hc16 hm => ?_) (fun hc16 hm => ?_)
        · refine cw_seq ?_
          refine cw_reg (l := [0, 1, 2]) rfl rfl ?_
          refine sgr (some 41) (S_api_Word.val r5.1) rfl rfl rfl (r_loadA 0 nd rfl rfl Try.underlying25 rfl i25 rfl) ?_
          refine sg rfl rfl (b_store 1 nd rfl rfl rfl i25 rfl rfl rfl (c' := #[(Value.int .u64 r5.1.Hi), (Value.int .u64 r5.1.Lo)]) rfl (fun nd => ?_))
          refine sgy (some 5) (Value.int .i64 0) rfl rfl rfl (y_assign rfl) ?_
          refine drop.of ?_
          refine cw_ret ?_
          refine out_one [(S_api_Word.val r5.1), (Value.int .i64 0)] (e_ref13_Draw (r5.1, 0)) Try.results24 ?_ rfl ?_
          · exact (And.intro (⟨_, rfl, res_box 1 nd rfl Try.underlying25 rfl i25 rfl⟩) (And.intro (rfl) trivial))
          · exact Exists.intro (r5.1, 0) (And.intro rfl hm)
        · refine cw_skip ?_
          refine drop.of ?_
          refine cw_reg (l := [0, 1, 2]) rfl rfl ?_
          refine sgy (some 13) (Value.int .i64 s2) rfl rfl rfl (y_move rfl) ?_
          refine sgy (some 14) (Value.int .i64 (iAdd .i64 s2 1)) rfl rfl rfl (y_bin rfl rfl rfl) ?_
          refine sgy (some 6) (Value.int .i64 (iAdd .i64 s2 1)) rfl rfl rfl (y_assign rfl) ?_
          exact Exists.intro (iAdd .i64 s2 1) (And.intro (And.intro rfl trivial) (And.intro (bx_drop nd 1) hm))
  · refine cw_exit ?_
    refine drop.of ?_
    refine cw_seq ?_
    refine cw_reg (l := [0, 1, 2]) rfl rfl ?_
    refine sgy (some 42) (S_api_Word.val (⟨0, 0⟩ : S_api_Word)) rfl rfl rfl (y_build Try.underlying25 i25 rfl (sizes_cons i23 (sizes_cons i23 sizes_nil)) rfl (cs := #[(Value.int .u64 0), (Value.int .u64 0)]) rfl) ?_
    refine sg rfl rfl (b_store 0 nd rfl rfl rfl i25 rfl rfl rfl (c' := #[(Value.int .u64 0), (Value.int .u64 0)]) rfl (fun nd => ?_))
    refine sgy (some 5) (Value.int .i64 12) rfl rfl rfl (y_assign rfl) ?_
    refine drop.of ?_
    refine cw_ret ?_
    refine out_one [(S_api_Word.val (⟨0, 0⟩ : S_api_Word)), (Value.int .i64 12)] (e_ref13_Draw ((⟨0, 0⟩ : S_api_Word), 12)) Try.results24 ?_ rfl ?_
    · exact (And.intro (⟨_, rfl, res_box 0 nd rfl Try.underlying25 rfl i25 rfl⟩) (And.intro (rfl) trivial))
    · exact Exists.intro ((⟨0, 0⟩ : S_api_Word), 12) (And.intro rfl hm)
end Go.Proofs.Ytnmaknkbdfpbkaa.K
