/- Printed by gen.py: what these functions of the program come to. -/
import Derived.Test.YtnmaknkbdfpbkaaT
import Derived.Test.YtnmaknkbdfpbkaaF3
namespace Go.Proofs.Ytnmaknkbdfpbkaa.K
open Go Go.Proofs
/-! sesame/sesameref01.Cut -/
def e_ref01_Cut : S_api_Word → Value := fun r => (S_api_Word.val r)
def m_ref01_Cut (a0 : S_api_Word) (a1 : Int) (K : (S_api_Word) → H → Prop) : H → Prop :=
  mLoop (fun (rec5 : Int × Int × Int → H → Prop) (s4 : Int × Int × Int) =>
    mJoin (fun (s6 : Bool) =>
      mIf s6 (
        mPure (m_ref01_Bit a0 s4.1) fun r9 =>
        mIf (decide (r9 = 1)) (
          mPure (m_ref01_Set (⟨s4.2.1, s4.2.2⟩ : S_api_Word) s4.1) fun r12 =>
          rec5 ((iAdd .i64 s4.1 1), r12.Hi, r12.Lo)
          ) (
          rec5 ((iAdd .i64 s4.1 1), s4.2.1, s4.2.2)
          )
        ) (
        K (⟨s4.2.1, s4.2.2⟩ : S_api_Word)
        )
      ) (fun j7 =>
      mIf (decide (s4.1 < a1)) (
        j7 (decide (s4.1 < 128))
        ) (
        j7 false
        )
      )
    ) (0, 0, 0)
set_option maxRecDepth 100000 in
set_option maxHeartbeats 8000000 in
theorem c_ref01_Cut {a0 : S_api_Word} {a1 : Int} {K : (S_api_Word) → H → Prop} {h : H} (hm : m_ref01_Cut a0 a1 K h) : ACall Try.prog 34 #[(S_api_Word.val a0), (Value.int .i64 a1)] h (fun v h' => ∃ r, v = e_ref01_Cut r ∧ K r h') noP := by
  unfold m_ref01_Cut at hm
  have nd : (([] : List (Nat × Obj)).map Prod.fst).Nodup := List.nodup_nil
  refine cw_func Try.func34 rfl rfl ?_
  refine cw_seq ?_
  refine cw_reg (l := [0, 1]) rfl rfl ?_
  refine sg rfl rfl (b_box nd (c := #[(Value.int .u64 a0.Hi), (Value.int .u64 a0.Lo)]) rfl (fun b1 nd => ?_))
  refine sg rfl rfl (b_alloc nd i25 rfl (c := #[(Value.int .u64 0), (Value.int .u64 0)]) rfl (fun b2 nd => ?_))
  refine drop.of ?_
  refine cw_seq ?_
  refine cw_reg (l := [0]) rfl rfl ?_
  refine sg rfl rfl (b_alloc nd i25 rfl (c := #[(Value.int .u64 0), (Value.int .u64 0)]) rfl (fun b3 nd => ?_))
  refine drop.of ?_
  refine cw_seq ?_
  refine cw_seq ?_
  refine cw_reg (l := [0]) rfl rfl ?_
  refine sgy (some 6) (Value.int .i64 0) rfl rfl rfl (y_assign rfl) ?_
  refine drop.of ?_
  refine cw_block ?_
  refine cw_loop [6, 7, 8, 9, 10, 11, 12, 13, 14, 15, 16, 17, 18, 19, 20, 21, 22] (fun s4 => [(6, (Value.int .i64 s4.1))]) (fun s4 => [(b3, Obj.cells #[(Value.int .u64 s4.2.1), (Value.int .u64 s4.2.2)] 25 (0, 0)), (b2, Obj.cells #[(Value.int .u64 0), (Value.int .u64 0)] 25 (0, 0)), (b1, Obj.cells #[(Value.int .u64 a0.Hi), (Value.int .u64 a0.Lo)] 25 (0, 0))]) hm rfl (fun _ => rfl) ⟨rfl, trivial⟩ rfl (fun _ => nd) (fun rec5 s4 h junk nd hm => ?_)
  refine cw_seq ?_
  refine cw_joinM hm [7, 8, 9, 10, 11, 12, 13] (fun s6 => [(13, (Value.bool s6))]) (fun s6 => [(b3, Obj.cells #[(Value.int .u64 s4.2.1), (Value.int .u64 s4.2.2)] 25 (0, 0)), (b2, Obj.cells #[(Value.int .u64 0), (Value.int .u64 0)] 25 (0, 0)), (b1, Obj.cells #[(Value.int .u64 a0.Hi), (Value.int .u64 a0.Lo)] 25 (0, 0))]) rfl (fun _ => nd) (fun hm => ?_) (fun s6 h junk nd hm => ?_)
  · refine cw_reg (l := [0, 1, 2, 3, 4, 5, 6]) rfl rfl ?_
    refine sgy (some 7) (Value.int .i64 s4.1) rfl rfl rfl (y_move rfl) ?_
    refine sgy (some 8) (Value.int .i64 a1) rfl rfl rfl (y_move rfl) ?_
    refine sgy (some 9) (Value.bool (decide (s4.1 < a1))) rfl rfl rfl (y_bin rfl rfl rfl) ?_
    refine sgy (some 10) (Value.bool (decide (s4.1 < a1))) rfl rfl rfl (y_move rfl) ?_
    refine mIf_elim hm (fun hc14 hm => ?_) (fun hc14 hm => ?_)
    · refine sgy (some 11) (Value.int .i64 s4.1) rfl rfl (by exact wTT rfl rfl hc14) (y_move rfl) ?_
      refine sgy (some 12) (Value.bool (decide (s4.1 < 128))) rfl rfl (by exact wTT rfl rfl hc14) (y_bin rfl rfl rfl) ?_
      refine sgy (some 13) (Value.bool (decide (s4.1 < 128))) rfl rfl rfl (y_pickT rfl hc14 rfl) ?_
      exact Exists.intro (decide (s4.1 < 128)) (And.intro (And.intro rfl trivial) (And.intro (bx_drop nd 0) hm))
    · refine sgn (some 11) rfl rfl (by exact wTF rfl rfl hc14) ?_
      refine sgn (some 12) rfl rfl (by exact wTF rfl rfl hc14) ?_
      refine sgy (some 13) (Value.bool false) rfl rfl rfl (y_pickF rfl hc14 rfl) ?_
      exact Exists.intro false (And.intro (And.intro rfl trivial) (And.intro (bx_drop nd 0) hm))
  · refine cw_ifm hm rfl (fun hc8 hm => ?_) (fun hc8 hm => ?_)
    · refine cw_skip ?_
      refine drop.of ?_
      refine cw_seq ?_
      refine cw_block ?_
      refine cw_seq ?_
      refine cw_reg (l := [0, 1, 2, 3]) rfl rfl ?_
      refine sgr (some 16) (S_api_Word.val a0) rfl rfl rfl (r_loadA 2 nd rfl rfl Try.underlying25 rfl i25 rfl) ?_
      refine sgy (some 17) (Value.int .i64 s4.1) rfl rfl rfl (y_move rfl) ?_
      obtain ⟨r9, hq10, hm⟩ := hm
      refine sgy (some 18) (e_ref01_Bit r9) rfl rfl rfl (y_call (enc := e_ref01_Bit) hq10 (fun k h hk => c_ref01_Bit hk) callee59 rfl) ?_
      refine sgy (some 19) (Value.bool (decide (r9 = 1))) rfl rfl rfl (y_bin rfl rfl rfl) ?_
      refine drop.of ?_
      refine cw_ifm hm rfl (fun hc11 hm => ?_) (fun hc11 hm => ?_)
      · refine cw_reg (l := [0, 1, 2, 3]) rfl rfl ?_
        refine sgr (some 20) (S_api_Word.val (⟨s4.2.1, s4.2.2⟩ : S_api_Word)) rfl rfl rfl (r_loadA 0 nd rfl rfl Try.underlying25 rfl i25 rfl) ?_
        refine sgy (some 21) (Value.int .i64 s4.1) rfl rfl rfl (y_move rfl) ?_
        obtain ⟨r12, hq13, hm⟩ := hm
        refine sgy (some 22) (e_ref01_Set r12) rfl rfl rfl (y_call (enc := e_ref01_Set) hq13 (fun k h hk => c_ref01_Set hk) callee60 rfl) ?_
        refine sg rfl rfl (b_store 0 nd rfl rfl rfl i25 rfl rfl rfl (c' := #[(Value.int .u64 r12.Hi), (Value.int .u64 r12.Lo)]) rfl (fun nd => ?_))
        refine drop.of ?_
        refine cw_reg (l := [0, 1, 2]) rfl rfl ?_
        refine sgy (some 14) (Value.int .i64 s4.1) rfl rfl rfl (y_move rfl) ?_
        refine sgy (some 15) (Value.int .i64 (iAdd .i64 s4.1 1)) rfl rfl rfl (y_bin rfl rfl rfl) ?_
        refine sgy (some 6) (Value.int .i64 (iAdd .i64 s4.1 1)) rfl rfl rfl (y_assign rfl) ?_
        exact Exists.intro ((iAdd .i64 s4.1 1), r12.Hi, r12.Lo) (And.intro (And.intro rfl trivial) (And.intro (bx_drop nd 0) hm))
      · refine cw_skip ?_
        refine drop.of ?_
        refine cw_reg (l := [0, 1, 2]) rfl rfl ?_
        refine sgy (some 14) (Value.int .i64 s4.1) rfl rfl rfl (y_move rfl) ?_
        refine sgy (some 15) (Value.int .i64 (iAdd .i64 s4.1 1)) rfl rfl rfl (y_bin rfl rfl rfl) ?_
        refine sgy (some 6) (Value.int .i64 (iAdd .i64 s4.1 1)) rfl rfl rfl (y_assign rfl) ?_
        exact Exists.intro ((iAdd .i64 s4.1 1), s4.2.1, s4.2.2) (And.intro (And.intro rfl trivial) (And.intro (bx_drop nd 0) hm))
    · refine cw_exit ?_
      refine drop.of ?_
      refine cw_seq ?_
      refine cw_reg (l := [0, 1]) rfl rfl ?_
      refine sgr (some 23) (S_api_Word.val (⟨s4.2.1, s4.2.2⟩ : S_api_Word)) rfl rfl rfl (r_loadA 0 nd rfl rfl Try.underlying25 rfl i25 rfl) ?_
      refine sg rfl rfl (b_store 1 nd rfl rfl rfl i25 rfl rfl rfl (c' := #[(Value.int .u64 s4.2.1), (Value.int .u64 s4.2.2)]) rfl (fun nd => ?_))
      refine drop.of ?_
      refine cw_ret ?_
      refine out_one [(S_api_Word.val (⟨s4.2.1, s4.2.2⟩ : S_api_Word))] (e_ref01_Cut (⟨s4.2.1, s4.2.2⟩ : S_api_Word)) Try.results34 ?_ rfl ?_
      · exact (And.intro (⟨_, rfl, res_box 1 nd rfl Try.underlying25 rfl i25 rfl⟩) trivial)
      · exact Exists.intro (⟨s4.2.1, s4.2.2⟩ : S_api_Word) (And.intro rfl hm)
/-! (*sesame/sesameref04.Draws).Draw -/
def e_ref04_Draws_Draw : S_api_Word × Int → Value := fun r => Value.tuple #[(S_api_Word.val r.1), (Value.int .i64 r.2)]
def m_ref04_Draws_Draw (a0 : Option Addr) (K : (S_api_Word × Int) → H → Prop) : H → Prop :=
  mDeref a0 fun a2 =>
  mDeref a0 fun a4 =>
  mLoad (cInt .i64) (a2.add 2) fun x6 =>
  mLoad cSl (a4.add 0) fun x7 =>
  mIf (decide (x6 = (x7.len : Int))) (
    K ((⟨0, 0⟩ : S_api_Word), 11)
    ) (
    mDeref a0 fun a9 =>
    mLoad (cInt .i64) (a9.add 2) fun x11 =>
    mDeref a0 fun a12 =>
    mStore (a12.add 2) [(Value.int .i64 (iAdd .i64 x11 1))] <|
    mDeref a0 fun a14 =>
    mDeref a0 fun a16 =>
    mDeref a0 fun a18 =>
    mLoad cSl (a14.add 0) fun x20 =>
    mLoad (cInt .i64) (a16.add 2) fun x21 =>
    mIdx x20 (iSub .i64 x21 1) 2 fun a22 =>
    mLoad S_api_Word.cells a22 fun x24 =>
    mLoad (cInt .i64) (a18.add 1) fun x25 =>
    mPure (m_ref01_Cut x24 x25) fun r26 =>
    K (r26, 0)
    )
set_option maxRecDepth 100000 in
set_option maxHeartbeats 8000000 in
theorem c_ref04_Draws_Draw {a0 : Option Addr} {K : (S_api_Word × Int) → H → Prop} {h : H} (hm : m_ref04_Draws_Draw a0 K h) : ACall Try.prog 53 #[(Value.pointer a0)] h (fun v h' => ∃ r, v = e_ref04_Draws_Draw r ∧ K r h') noP := by
  unfold m_ref04_Draws_Draw at hm
  have nd : (([] : List (Nat × Obj)).map Prod.fst).Nodup := List.nodup_nil
  refine cw_func Try.func53 rfl rfl ?_
  refine cw_seq ?_
  refine cw_reg (l := [0, 1]) rfl rfl ?_
  refine sg rfl rfl (b_alloc nd i25 rfl (c := #[(Value.int .u64 0), (Value.int .u64 0)]) rfl (fun b1 nd => ?_))
  refine sgy (some 3) (Value.int .i64 0) rfl rfl rfl (y_assign rfl) ?_
  refine drop.of ?_
  refine cw_seq ?_
  refine cw_seq ?_
  refine cw_draw mixed rfl ?_
  refine tyy 0 (some 4) (Value.pointer a0) rfl rfl (by kernel_rfl) (by kernel_rfl) (by kernel_rfl) rfl (y_move rfl) ?_
  obtain ⟨a2, hq3, hm⟩ := hm
  refine tyy 1 (some 5) (Value.pointer (some a2)) rfl rfl (by kernel_rfl) (by kernel_rfl) (by kernel_rfl) rfl (y_nilP rfl hq3) ?_
  refine tyy 2 (some 6) (Value.pointer (some (a2.add 2))) rfl rfl (by kernel_rfl) (by kernel_rfl) (by kernel_rfl) rfl (yv (y_fieldAddr rfl Try.underlying100 rfl i3 rfl) rfl) ?_
  refine tyy 4 (some 8) (Value.pointer a0) rfl rfl (by kernel_rfl) (by kernel_rfl) (by kernel_rfl) rfl (y_move rfl) ?_
  obtain ⟨a4, hq5, hm⟩ := hm
  refine tyy 5 (some 9) (Value.pointer (some a4)) rfl rfl (by kernel_rfl) (by kernel_rfl) (by kernel_rfl) rfl (y_nilP rfl hq5) ?_
  refine tyy 6 (some 10) (Value.pointer (some (a4.add 0))) rfl rfl (by kernel_rfl) (by kernel_rfl) (by kernel_rfl) rfl (yv (y_fieldAddr rfl Try.underlying100 rfl i22 rfl) rfl) ?_
  refine tq 3 rfl (by kernel_rfl) (by kernel_rfl) (by kernel_rfl) rfl (v_load hm rfl Try.underlying3 rfl (Value.int .i64) (fun _ => rfl) (fun x6 hm => ?_))
  refine tq 7 rfl (by kernel_rfl) (by kernel_rfl) (by kernel_rfl) rfl (v_load hm rfl Try.underlying22 rfl Sl.val (fun _ => rfl) (fun x7 hm => ?_))
  refine tyy 8 (some 12) (Value.int .i64 (x7.len : Int)) rfl rfl (by kernel_rfl) (by kernel_rfl) (by kernel_rfl) rfl (y_len (s := x7) rfl rfl Try.underlying22) ?_
  refine tyy 9 (some 13) (Value.bool (decide (x6 = (x7.len : Int)))) rfl rfl (by kernel_rfl) (by kernel_rfl) (by kernel_rfl) rfl (y_bin rfl rfl rfl) ?_
  refine td (by kernel_rfl) ?_
  refine drop.of ?_
  refine cw_ifm hm rfl (fun hc8 hm => ?_) (fun hc8 hm => ?_)
  · refine cw_seq ?_
    refine cw_reg (l := [0, 1, 2]) rfl rfl ?_
    refine sgy (some 14) (S_api_Word.val (⟨0, 0⟩ : S_api_Word)) rfl rfl rfl (y_build Try.underlying25 i25 rfl (sizes_cons i23 (sizes_cons i23 sizes_nil)) rfl (cs := #[(Value.int .u64 0), (Value.int .u64 0)]) rfl) ?_
    refine sg rfl rfl (b_store 0 nd rfl rfl rfl i25 rfl rfl rfl (c' := #[(Value.int .u64 0), (Value.int .u64 0)]) rfl (fun nd => ?_))
    refine sgy (some 3) (Value.int .i64 11) rfl rfl rfl (y_assign rfl) ?_
    refine drop.of ?_
    refine cw_ret ?_
    refine out_one [(S_api_Word.val (⟨0, 0⟩ : S_api_Word)), (Value.int .i64 11)] (e_ref04_Draws_Draw ((⟨0, 0⟩ : S_api_Word), 11)) Try.results53 ?_ rfl ?_
    · exact (And.intro (⟨_, rfl, res_box 0 nd rfl Try.underlying25 rfl i25 rfl⟩) (And.intro (rfl) trivial))
    · exact Exists.intro ((⟨0, 0⟩ : S_api_Word), 11) (And.intro rfl hm)
  · refine cw_skip ?_
    refine drop.of ?_
    refine cw_seq ?_
    refine cw_reg (l := [0, 1, 2, 3, 4, 5, 6, 7]) rfl rfl ?_
    refine sgy (some 15) (Value.pointer a0) rfl rfl rfl (y_move rfl) ?_
    obtain ⟨a9, hq10, hm⟩ := hm
    refine sgy (some 16) (Value.pointer (some a9)) rfl rfl rfl (y_nilP rfl hq10) ?_
    refine sgy (some 17) (Value.pointer (some (a9.add 2))) rfl rfl rfl (yv (y_fieldAddr rfl Try.underlying100 rfl i3 rfl) rfl) ?_
    refine sg rfl rfl (v_load hm rfl Try.underlying3 rfl (Value.int .i64) (fun _ => rfl) (fun x11 hm => ?_))
    refine sgy (some 19) (Value.int .i64 (iAdd .i64 x11 1)) rfl rfl rfl (y_bin rfl rfl rfl) ?_
    obtain ⟨a12, hq13, hm⟩ := hm
    refine sgy (some 20) (Value.pointer (some a12)) rfl rfl rfl (y_nilP rfl hq13) ?_
    refine sgy (some 21) (Value.pointer (some (a12.add 2))) rfl rfl rfl (yv (y_fieldAddr rfl Try.underlying100 rfl i3 rfl) rfl) ?_
    refine sg rfl rfl (v_store hm rfl rfl rfl i3 rfl rfl (fun h hm => ?_))
    refine drop.of ?_
    refine cw_seq ?_
    refine cw_draw mixed rfl ?_
    refine tyy 0 (some 22) (Value.pointer a0) rfl rfl (by kernel_rfl) (by kernel_rfl) (by kernel_rfl) rfl (y_move rfl) ?_
    obtain ⟨a14, hq15, hm⟩ := hm
    refine tyy 1 (some 23) (Value.pointer (some a14)) rfl rfl (by kernel_rfl) (by kernel_rfl) (by kernel_rfl) rfl (y_nilP rfl hq15) ?_
    refine tyy 2 (some 24) (Value.pointer (some (a14.add 0))) rfl rfl (by kernel_rfl) (by kernel_rfl) (by kernel_rfl) rfl (yv (y_fieldAddr rfl Try.underlying100 rfl i22 rfl) rfl) ?_
    refine tyy 4 (some 26) (Value.pointer a0) rfl rfl (by kernel_rfl) (by kernel_rfl) (by kernel_rfl) rfl (y_move rfl) ?_
    obtain ⟨a16, hq17, hm⟩ := hm
    refine tyy 5 (some 27) (Value.pointer (some a16)) rfl rfl (by kernel_rfl) (by kernel_rfl) (by kernel_rfl) rfl (y_nilP rfl hq17) ?_
    refine tyy 6 (some 28) (Value.pointer (some (a16.add 2))) rfl rfl (by kernel_rfl) (by kernel_rfl) (by kernel_rfl) rfl (yv (y_fieldAddr rfl Try.underlying100 rfl i3 rfl) rfl) ?_
    refine tyy 11 (some 33) (Value.pointer a0) rfl rfl (by kernel_rfl) (by kernel_rfl) (by kernel_rfl) rfl (y_move rfl) ?_
    obtain ⟨a18, hq19, hm⟩ := hm
    refine tyy 12 (some 34) (Value.pointer (some a18)) rfl rfl (by kernel_rfl) (by kernel_rfl) (by kernel_rfl) rfl (y_nilP rfl hq19) ?_
    refine tyy 13 (some 35) (Value.pointer (some (a18.add 1))) rfl rfl (by kernel_rfl) (by kernel_rfl) (by kernel_rfl) rfl (yv (y_fieldAddr rfl Try.underlying100 rfl i3 rfl) rfl) ?_
    refine tq 3 rfl (by kernel_rfl) (by kernel_rfl) (by kernel_rfl) rfl (v_load hm rfl Try.underlying22 rfl Sl.val (fun _ => rfl) (fun x20 hm => ?_))
    refine tq 7 rfl (by kernel_rfl) (by kernel_rfl) (by kernel_rfl) rfl (v_load hm rfl Try.underlying3 rfl (Value.int .i64) (fun _ => rfl) (fun x21 hm => ?_))
    refine tyy 8 (some 30) (Value.int .i64 (iSub .i64 x21 1)) rfl rfl (by kernel_rfl) (by kernel_rfl) (by kernel_rfl) rfl (y_bin rfl rfl rfl) ?_
    obtain ⟨a22, hq23, hm⟩ := hm
    refine tyy 9 (some 31) (Value.pointer (some a22)) rfl rfl (by kernel_rfl) (by kernel_rfl) (by kernel_rfl) rfl (y_idx Try.underlying22 i25 rfl rfl hq23) ?_
    refine tq 10 rfl (by kernel_rfl) (by kernel_rfl) (by kernel_rfl) rfl (v_loadA hm rfl Try.underlying25 rfl i25 S_api_Word.val (fun _ => ⟨rfl, rfl⟩) (fun x24 hm => ?_))
    refine tq 14 rfl (by kernel_rfl) (by kernel_rfl) (by kernel_rfl) rfl (v_load hm rfl Try.underlying3 rfl (Value.int .i64) (fun _ => rfl) (fun x25 hm => ?_))
    obtain ⟨r26, hq27, hm⟩ := hm
    refine tyy 15 (some 37) (e_ref01_Cut r26) rfl rfl (by kernel_rfl) (by kernel_rfl) (by kernel_rfl) rfl (y_call (enc := e_ref01_Cut) hq27 (fun k h hk => c_ref01_Cut hk) callee34 rfl) ?_
    refine t1 16 rfl (by kernel_rfl) rfl (b_store 0 nd rfl rfl rfl i25 rfl rfl rfl (c' := #[(Value.int .u64 r26.Hi), (Value.int .u64 r26.Lo)]) rfl (fun nd => ?_))
    refine tyy 17 (some 3) (Value.int .i64 0) rfl rfl (by kernel_rfl) (by kernel_rfl) (by kernel_rfl) rfl (y_assign rfl) ?_
    refine td (by kernel_rfl) ?_
    refine drop.of ?_
    refine cw_ret ?_
    refine out_one [(S_api_Word.val r26), (Value.int .i64 0)] (e_ref04_Draws_Draw (r26, 0)) Try.results53 ?_ rfl ?_
    · exact (And.intro (⟨_, rfl, res_box 0 nd rfl Try.underlying25 rfl i25 rfl⟩) (And.intro (rfl) trivial))
    · exact Exists.intro (r26, 0) (And.intro rfl hm)
/-! (*sesame/sesameref04.Draws).Left -/
def e_ref04_Draws_Left : Int → Value := fun r => (Value.int .i64 r)
def m_ref04_Draws_Left (a0 : Option Addr) (K : (Int) → H → Prop) : H → Prop :=
  mDeref a0 fun a1 =>
  mDeref a0 fun a3 =>
  mLoad cSl (a1.add 0) fun x5 =>
  mLoad (cInt .i64) (a3.add 2) fun x6 =>
  K (iSub .i64 (x5.len : Int) x6)
set_option maxRecDepth 100000 in
set_option maxHeartbeats 8000000 in
theorem c_ref04_Draws_Left {a0 : Option Addr} {K : (Int) → H → Prop} {h : H} (hm : m_ref04_Draws_Left a0 K h) : ACall Try.prog 54 #[(Value.pointer a0)] h (fun v h' => ∃ r, v = e_ref04_Draws_Left r ∧ K r h') noP := by
  unfold m_ref04_Draws_Left at hm
  have nd : (([] : List (Nat × Obj)).map Prod.fst).Nodup := List.nodup_nil
  refine cw_func Try.func54 rfl rfl ?_
  refine cw_seq ?_
  refine cw_reg (l := [0]) rfl rfl ?_
  refine sgy (some 2) (Value.int .i64 0) rfl rfl rfl (y_assign rfl) ?_
  refine drop.of ?_
  refine cw_seq ?_
  refine cw_draw mixed rfl ?_
  refine tyy 0 (some 3) (Value.pointer a0) rfl rfl (by kernel_rfl) (by kernel_rfl) (by kernel_rfl) rfl (y_move rfl) ?_
  obtain ⟨a1, hq2, hm⟩ := hm
  refine tyy 1 (some 4) (Value.pointer (some a1)) rfl rfl (by kernel_rfl) (by kernel_rfl) (by kernel_rfl) rfl (y_nilP rfl hq2) ?_
  refine tyy 2 (some 5) (Value.pointer (some (a1.add 0))) rfl rfl (by kernel_rfl) (by kernel_rfl) (by kernel_rfl) rfl (yv (y_fieldAddr rfl Try.underlying100 rfl i22 rfl) rfl) ?_
  refine tyy 5 (some 8) (Value.pointer a0) rfl rfl (by kernel_rfl) (by kernel_rfl) (by kernel_rfl) rfl (y_move rfl) ?_
  obtain ⟨a3, hq4, hm⟩ := hm
  refine tyy 6 (some 9) (Value.pointer (some a3)) rfl rfl (by kernel_rfl) (by kernel_rfl) (by kernel_rfl) rfl (y_nilP rfl hq4) ?_
  refine tyy 7 (some 10) (Value.pointer (some (a3.add 2))) rfl rfl (by kernel_rfl) (by kernel_rfl) (by kernel_rfl) rfl (yv (y_fieldAddr rfl Try.underlying100 rfl i3 rfl) rfl) ?_
  refine tq 3 rfl (by kernel_rfl) (by kernel_rfl) (by kernel_rfl) rfl (v_load hm rfl Try.underlying22 rfl Sl.val (fun _ => rfl) (fun x5 hm => ?_))
  refine tyy 4 (some 7) (Value.int .i64 (x5.len : Int)) rfl rfl (by kernel_rfl) (by kernel_rfl) (by kernel_rfl) rfl (y_len (s := x5) rfl rfl Try.underlying22) ?_
  refine tq 8 rfl (by kernel_rfl) (by kernel_rfl) (by kernel_rfl) rfl (v_load hm rfl Try.underlying3 rfl (Value.int .i64) (fun _ => rfl) (fun x6 hm => ?_))
  refine tyy 9 (some 12) (Value.int .i64 (iSub .i64 (x5.len : Int) x6)) rfl rfl (by kernel_rfl) (by kernel_rfl) (by kernel_rfl) rfl (y_bin rfl rfl rfl) ?_
  refine tyy 10 (some 2) (Value.int .i64 (iSub .i64 (x5.len : Int) x6)) rfl rfl (by kernel_rfl) (by kernel_rfl) (by kernel_rfl) rfl (y_assign rfl) ?_
  refine td (by kernel_rfl) ?_
  refine drop.of ?_
  refine cw_ret ?_
  refine out_one [(Value.int .i64 (iSub .i64 (x5.len : Int) x6))] (e_ref04_Draws_Left (iSub .i64 (x5.len : Int) x6)) Try.results54 ?_ rfl ?_
  · exact (And.intro (rfl) trivial)
  · exact Exists.intro (iSub .i64 (x5.len : Int) x6) (And.intro rfl hm)
end Go.Proofs.Ytnmaknkbdfpbkaa.K
