/- Functions of the program, printed by a program of mine: issue_draw, issue_Draw_1, issue_Draw -/
import Derived.Test.YtnmaknkbdfpbkaaT
import Derived.Test.YtnmaknkbdfpbkaaFdraws
import Derived.Test.YtnmaknkbdfpbkaaFslices
namespace Go.Proofs.Ytnmaknkbdfpbkaa.K
open Go Go.Proofs
/-! sesame/issue.draw -/
def e_issue_draw : S_api_Word × Int → Value := fun r => Value.tuple #[(S_api_Word.val r.1), (Value.int .i64 r.2)]
def m_issue_draw (a0 : Option Addr) (a1 : Value) (K : (S_api_Word × Int) → H → Prop) : H → Prop :=
  mLoop (fun (rec3 : Int → H → Prop) (s2 : Int) =>
    mIf (decide (s2 < 9)) (
      m_draws_Draws_Draw a0 fun r5 =>
      mIf (!decide (r5.2 = 0)) (
        K ((⟨0, 0⟩ : S_api_Word), r5.2)
        ) (
        mCallV (T := Bool) Try.prog (fun r => (Value.bool r)) a1 [(S_api_Word.val r5.1)] fun r9 =>
        mIf (!r9) (
          K (r5.1, 0)
          ) (
          rec3 (iAdd .i64 s2 1)
          )
        )
      ) (
      K ((⟨0, 0⟩ : S_api_Word), 12)
      )
    ) 0
set_option maxRecDepth 100000 in
set_option maxHeartbeats 8000000 in
theorem c_issue_draw {a0 : Option Addr} {a1 : Value} {K : (S_api_Word × Int) → H → Prop} {h : H} (hm : m_issue_draw a0 a1 K h) : ACall Try.prog 55 #[(Value.pointer a0), a1] h (fun v h' => ∃ r, v = e_issue_draw r ∧ K r h') noP := by
  unfold m_issue_draw at hm
  have nd : (([] : List (Nat × Obj)).map Prod.fst).Nodup := List.nodup_nil
  refine cw_func Try.func55 rfl rfl ?_
  refine cw_seq ?_
  refine cw_reg (l := [0, 1]) rfl rfl ?_
  refine sg rfl rfl (b_alloc nd i25 rfl (c := #[(Value.int .u64 0), (Value.int .u64 0)]) rfl (fun b1 nd => ?_))
  refine sgy (some 5) (Value.int .i64 0) rfl rfl rfl (y_assign rfl) ?_
  refine drop.of ?_
  refine cw_seq ?_
  refine cw_seq ?_
  refine cw_reg (l := [0]) rfl rfl ?_
  refine sgy (some 8) (Value.int .i64 0) rfl rfl rfl (y_move rfl) ?_
  refine drop.of ?_
  refine cw_block ?_
  refine cw_loop [5, 6, 7, 8, 9, 10, 11, 12, 13, 14, 15, 16, 17, 18, 19, 20, 21, 22, 23, 24] (fun s2 => [(8, (Value.int .i64 s2))]) (fun s2 => [(b1, Obj.cells #[(Value.int .u64 0), (Value.int .u64 0)] 25 (0, 0))]) hm rfl (fun _ => rfl) ⟨rfl, trivial⟩ rfl (fun _ => nd) (fun rec3 s2 h junk nd hm => ?_)
  refine cw_seq ?_
  refine cw_reg (l := [0]) rfl rfl ?_
  refine sgy (some 9) (Value.bool (decide (s2 < 9))) rfl rfl rfl (y_bin rfl rfl rfl) ?_
  refine drop.of ?_
  refine cw_seq ?_
  refine cw_ifm hm rfl (fun hc4 hm => ?_) (fun hc4 hm => ?_)
  · refine cw_skip ?_
    refine drop.of ?_
    refine cw_seq ?_
    refine cw_block ?_
    refine cw_seq ?_
    refine cw_reg (l := [0, 1, 2, 3, 4, 5, 6, 7]) rfl rfl ?_
    refine sgy (some 11) (Value.pointer a0) rfl rfl rfl (y_move rfl) ?_
    refine sg rfl rfl (v_call (c_draws_Draws_Draw hm) callee15 rfl (fun v h hm => ?_))
    obtain ⟨r5, rfl, hm⟩ := hm
    refine sgy (some 10) (Value.tuple #[(S_api_Word.val r5.1), (Value.int .i64 r5.2)]) rfl rfl rfl (y_move rfl) ?_
    refine sgy (some 13) (S_api_Word.val r5.1) rfl rfl rfl (y_extract rfl rfl) ?_
    refine sgy (some 14) (Value.int .i64 r5.2) rfl rfl rfl (y_extract rfl rfl) ?_
    refine sg rfl rfl (b_alloc nd i25 rfl (c := #[(Value.int .u64 0), (Value.int .u64 0)]) rfl (fun b7 nd => ?_))
    refine sg rfl rfl (b_store 0 nd rfl rfl rfl i25 rfl rfl rfl (c' := #[(Value.int .u64 r5.1.Hi), (Value.int .u64 r5.1.Lo)]) rfl (fun nd => ?_))
    refine sgy (some 7) (Value.int .i64 r5.2) rfl rfl rfl (y_assign rfl) ?_
    refine drop.of ?_
    refine cw_seq ?_
    refine cw_seq ?_
    refine cw_reg (l := [0, 1]) rfl rfl ?_
    refine sgy (some 15) (Value.int .i64 r5.2) rfl rfl rfl (y_move rfl) ?_
    refine sgy (some 16) (Value.bool (!decide (r5.2 = 0))) rfl rfl rfl (y_bin rfl rfl rfl) ?_
    refine drop.of ?_
    refine cw_ifm hm rfl (fun hc8 hm => ?_) (fun hc8 hm => ?_)
    · refine cw_seq ?_
      refine cw_reg (l := [0, 1, 2, 3]) rfl rfl ?_
      refine sgy (some 17) (S_api_Word.val (⟨0, 0⟩ : S_api_Word)) rfl rfl rfl (y_build Try.underlying25 i25 rfl (sizes_cons i23 (sizes_cons i23 sizes_nil)) rfl (cs := #[(Value.int .u64 0), (Value.int .u64 0)]) rfl) ?_
      refine sgy (some 18) (Value.int .i64 r5.2) rfl rfl rfl (y_move rfl) ?_
      refine sg rfl rfl (b_store 1 nd rfl rfl rfl i25 rfl rfl rfl (c' := #[(Value.int .u64 0), (Value.int .u64 0)]) rfl (fun nd => ?_))
      refine sgy (some 5) (Value.int .i64 r5.2) rfl rfl rfl (y_assign rfl) ?_
      refine drop.of ?_
      refine cw_ret ?_
      refine out_one [(S_api_Word.val (⟨0, 0⟩ : S_api_Word)), (Value.int .i64 r5.2)] (e_issue_draw ((⟨0, 0⟩ : S_api_Word), r5.2)) Try.results55 ?_ rfl ?_
      · exact (And.intro (⟨_, rfl, res_box 1 nd rfl Try.underlying25 rfl i25 rfl⟩) (And.intro (rfl) trivial))
      · exact Exists.intro ((⟨0, 0⟩ : S_api_Word), r5.2) (And.intro rfl hm)
    · refine cw_skip ?_
      refine drop.of ?_
      refine cw_seq ?_
      refine cw_reg (l := [0, 1, 2, 3]) rfl rfl ?_
      refine sgy (some 19) a1 rfl rfl rfl (y_move rfl) ?_
      refine sgr (some 20) (S_api_Word.val r5.1) rfl rfl rfl (r_loadA 0 nd rfl rfl Try.underlying25 rfl i25 rfl) ?_
      refine sg rfl rfl (v_callV rfl rfl hm (fun r9 h hm => ?_))
      refine sgy (some 22) (Value.bool (!r9)) rfl rfl rfl (y_not rfl) ?_
      refine drop.of ?_
      refine cw_ifm hm rfl (fun hc10 hm => ?_) (fun hc10 hm => ?_)
      · refine cw_seq ?_
        refine cw_reg (l := [0, 1, 2]) rfl rfl ?_
        refine sgr (some 23) (S_api_Word.val r5.1) rfl rfl rfl (r_loadA 0 nd rfl rfl Try.underlying25 rfl i25 rfl) ?_
        refine sg rfl rfl (b_store 1 nd rfl rfl rfl i25 rfl rfl rfl (c' := #[(Value.int .u64 r5.1.Hi), (Value.int .u64 r5.1.Lo)]) rfl (fun nd => ?_))
        refine sgy (some 5) (Value.int .i64 0) rfl rfl rfl (y_assign rfl) ?_
        refine drop.of ?_
        refine cw_ret ?_
        refine out_one [(S_api_Word.val r5.1), (Value.int .i64 0)] (e_issue_draw (r5.1, 0)) Try.results55 ?_ rfl ?_
        · exact (And.intro (⟨_, rfl, res_box 1 nd rfl Try.underlying25 rfl i25 rfl⟩) (And.intro (rfl) trivial))
        · exact Exists.intro (r5.1, 0) (And.intro rfl hm)
      · refine cw_skip ?_
        refine drop.of ?_
        refine cw_reg (l := [0, 1]) rfl rfl ?_
        refine sgy (some 24) (Value.int .i64 (iAdd .i64 s2 1)) rfl rfl rfl (y_bin rfl rfl rfl) ?_
        refine sgy (some 8) (Value.int .i64 (iAdd .i64 s2 1)) rfl rfl rfl (y_move rfl) ?_
        exact Exists.intro (iAdd .i64 s2 1) (And.intro (And.intro rfl trivial) (And.intro (bx_drop nd 1) hm))
  · refine cw_exit ?_
    refine drop.of ?_
    refine cw_seq ?_
    refine cw_reg (l := [0, 1, 2]) rfl rfl ?_
    refine sgy (some 25) (S_api_Word.val (⟨0, 0⟩ : S_api_Word)) rfl rfl rfl (y_build Try.underlying25 i25 rfl (sizes_cons i23 (sizes_cons i23 sizes_nil)) rfl (cs := #[(Value.int .u64 0), (Value.int .u64 0)]) rfl) ?_
    refine sg rfl rfl (b_store 0 nd rfl rfl rfl i25 rfl rfl rfl (c' := #[(Value.int .u64 0), (Value.int .u64 0)]) rfl (fun nd => ?_))
    refine sgy (some 5) (Value.int .i64 12) rfl rfl rfl (y_assign rfl) ?_
    refine drop.of ?_
    refine cw_ret ?_
    refine out_one [(S_api_Word.val (⟨0, 0⟩ : S_api_Word)), (Value.int .i64 12)] (e_issue_draw ((⟨0, 0⟩ : S_api_Word), 12)) Try.results55 ?_ rfl ?_
    · exact (And.intro (⟨_, rfl, res_box 0 nd rfl Try.underlying25 rfl i25 rfl⟩) (And.intro (rfl) trivial))
    · exact Exists.intro ((⟨0, 0⟩ : S_api_Word), 12) (And.intro rfl hm)
/-! sesame/issue.Draw$1 -/
def e_issue_Draw_1 : Bool → Value := fun r => (Value.bool r)
def m_issue_Draw_1 (a0 : S_api_Word) (a1 : Addr) (K : (Bool) → H → Prop) : H → Prop :=
  mLoad cSl a1 fun x2 =>
  m_slices_Contains_api_Word_api_Word x2 a0 fun r3 =>
  K r3
set_option maxRecDepth 100000 in
set_option maxHeartbeats 8000000 in
theorem c_issue_Draw_1 {a0 : S_api_Word} {a1 : Addr} {K : (Bool) → H → Prop} {h : H} (hm : m_issue_Draw_1 a0 a1 K h) : ACall Try.prog 56 #[(S_api_Word.val a0), (Value.pointer (some a1))] h (fun v h' => ∃ r, v = e_issue_Draw_1 r ∧ K r h') noP := by
  unfold m_issue_Draw_1 at hm
  have nd : (([] : List (Nat × Obj)).map Prod.fst).Nodup := List.nodup_nil
  refine cw_func Try.func56 rfl rfl ?_
  refine cw_seq ?_
  refine cw_reg (l := [0, 1]) rfl rfl ?_
  refine sg rfl rfl (b_box nd (c := #[(Value.int .u64 a0.Hi), (Value.int .u64 a0.Lo)]) rfl (fun b1 nd => ?_))
  refine sgy (some 3) (Value.bool false) rfl rfl rfl (y_assign rfl) ?_
  refine drop.of ?_
  refine cw_seq ?_
  refine cw_reg (l := [0, 1, 2, 3]) rfl rfl ?_
  refine sg rfl rfl (v_load hm rfl Try.underlying22 rfl Sl.val (fun _ => rfl) (fun x2 hm => ?_))
  refine sgr (some 5) (S_api_Word.val a0) rfl rfl rfl (r_loadA 0 nd rfl rfl Try.underlying25 rfl i25 rfl) ?_
  refine sg rfl rfl (v_call (c_slices_Contains_api_Word_api_Word hm) callee57 rfl (fun v h hm => ?_))
  obtain ⟨r3, rfl, hm⟩ := hm
  refine sgy (some 3) (Value.bool r3) rfl rfl rfl (y_assign rfl) ?_
  refine drop.of ?_
  refine cw_ret ?_
  refine out_one [(Value.bool r3)] (e_issue_Draw_1 r3) Try.results56 ?_ rfl ?_
  · exact (And.intro (rfl) trivial)
  · exact Exists.intro r3 (And.intro rfl hm)
/-! sesame/issue.Draw -/
def e_issue_Draw : S_api_Word × Int → Value := fun r => Value.tuple #[(S_api_Word.val r.1), (Value.int .i64 r.2)]
def m_issue_Draw (a0 : Option Addr) (a1 : Sl) (K : (S_api_Word × Int) → H → Prop) : H → Prop :=
  mNew 22 #[(Sl.val a1)] fun a1 =>
  m_issue_draw a0 (Value.func (.func 56) #[] #[(Value.pointer (some a1))]) fun r3 =>
  K (r3.1, r3.2)
set_option maxRecDepth 100000 in
set_option maxHeartbeats 8000000 in
theorem c_issue_Draw {a0 : Option Addr} {a1 : Sl} {K : (S_api_Word × Int) → H → Prop} {h : H} (hm : m_issue_Draw a0 a1 K h) : ACall Try.prog 25 #[(Value.pointer a0), (Sl.val a1)] h (fun v h' => ∃ r, v = e_issue_Draw r ∧ K r h') noP := by
  unfold m_issue_Draw at hm
  have nd : (([] : List (Nat × Obj)).map Prod.fst).Nodup := List.nodup_nil
  refine cw_func Try.func25 rfl rfl ?_
  refine cw_seq ?_
  refine cw_reg (l := [0, 1, 2]) rfl rfl ?_
  refine sg rfl rfl (v_box hm rfl (fun a1 h hm => ?_))
  refine sg rfl rfl (b_alloc nd i25 rfl (c := #[(Value.int .u64 0), (Value.int .u64 0)]) rfl (fun b2 nd => ?_))
  refine sgy (some 5) (Value.int .i64 0) rfl rfl rfl (y_assign rfl) ?_
  refine drop.of ?_
  refine cw_seq ?_
  refine cw_reg (l := [0, 1, 2, 3, 4, 5, 6]) rfl rfl ?_
  refine sgy (some 6) (Value.pointer a0) rfl rfl rfl (y_move rfl) ?_
  refine sgy (some 7) (Value.func (.func 56) #[] #[(Value.pointer (some a1))]) rfl rfl rfl (y_makeFunc rfl) ?_
  refine sg rfl rfl (v_call (c_issue_draw hm) callee55 rfl (fun v h hm => ?_))
  obtain ⟨r3, rfl, hm⟩ := hm
  refine sgy (some 9) (S_api_Word.val r3.1) rfl rfl rfl (y_extract rfl rfl) ?_
  refine sgy (some 10) (Value.int .i64 r3.2) rfl rfl rfl (y_extract rfl rfl) ?_
  refine sg rfl rfl (b_store 0 nd rfl rfl rfl i25 rfl rfl rfl (c' := #[(Value.int .u64 r3.1.Hi), (Value.int .u64 r3.1.Lo)]) rfl (fun nd => ?_))
  refine sgy (some 5) (Value.int .i64 r3.2) rfl rfl rfl (y_assign rfl) ?_
  refine drop.of ?_
  refine cw_ret ?_
  refine out_one [(S_api_Word.val r3.1), (Value.int .i64 r3.2)] (e_issue_Draw (r3.1, r3.2)) Try.results25 ?_ rfl ?_
  · exact (And.intro (⟨_, rfl, res_box 0 nd rfl Try.underlying25 rfl i25 rfl⟩) (And.intro (rfl) trivial))
  · exact Exists.intro (r3.1, r3.2) (And.intro rfl hm)
end Go.Proofs.Ytnmaknkbdfpbkaa.K
