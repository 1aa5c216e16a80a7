/- Functions of the program, printed by a program of mine: draws_New, draws_words_from, draws_Draws_Draw, draws_Draws_Taken, draws_Draws_Left, draws_Draws_Skip -/
import Derived.Test.YtnmaknkbdfpbkaaT
import Derived.Test.YtnmaknkbdfpbkaaFwide
namespace Go.Proofs.Ytnmaknkbdfpbkaa.K
open Go Go.Proofs
/-! sesame/draws.New -/
def e_draws_New : Option Addr × Int → Value := fun r => Value.tuple #[(Value.pointer r.1), (Value.int .i64 r.2)]
def m_draws_New (a0 : Sl) (a1 : Int) (K : (Option Addr × Int) → H → Prop) : H → Prop :=
  mJoin (fun (s1 : Bool) =>
    mIf s1 (
      K (none, 18)
      ) (
      mIf (decide (4096 < (a0.len : Int))) (
        K (none, 23)
        ) (
        mNew 97 #[(Sl.val Sl.nil), (Value.int .i64 0)] fun a5 =>
        mLoop (fun (rec7 : Int → H → Prop) (s6 : Int) =>
          mIf (decide (s6 < (a0.len : Int))) (
            mIdx a0 s6 2 fun a9 =>
            mLoad S_api_Word.cells a9 fun x11 =>
            mPure (m_wide_Cut x11 a1) fun r13 =>
            mLoad cSl (a5.add 0) fun x15 =>
            mApp 25 2 16 #[(Value.int .u64 0), (Value.int .u64 0)] 1 [(Value.int .u64 r13.Hi), (Value.int .u64 r13.Lo)] x15 fun s17 =>
            mStore (a5.add 0) [(Sl.val s17)] <|
            rec7 (iAdd .i64 s6 1)
            ) (
            K ((some a5), 0)
            )
          ) 0
        )
      )
    ) (fun j2 =>
    mIf (decide (a1 < 1)) (
      j2 true
      ) (
      j2 (decide (128 < a1))
      )
    )
set_option maxRecDepth 100000 in
set_option maxHeartbeats 8000000 in
theorem c_draws_New {a0 : Sl} {a1 : Int} {K : (Option Addr × Int) → H → Prop} {h : H} (hm : m_draws_New a0 a1 K h) : ACall Try.prog 13 #[(Sl.val a0), (Value.int .i64 a1)] h (fun v h' => ∃ r, v = e_draws_New r ∧ K r h') noP := by
  unfold m_draws_New at hm
  have nd : (([] : List (Nat × Obj)).map Prod.fst).Nodup := List.nodup_nil
  refine cw_func Try.func13 rfl rfl ?_
  refine cw_seq ?_
  refine cw_reg (l := [0, 1]) rfl rfl ?_
  refine sgy (some 4) (Value.pointer none) rfl rfl rfl (y_assign rfl) ?_
  refine sgy (some 5) (Value.int .i64 0) rfl rfl rfl (y_assign rfl) ?_
  refine drop.of ?_
  refine cw_seq ?_
  refine cw_joinM hm [9, 10, 11, 12, 13, 14] (fun s1 => [(14, (Value.bool s1))]) (fun s1 => []) rfl (fun _ => nd) (fun hm => ?_) (fun s1 h junk nd hm => ?_)
  · refine cw_reg (l := [0, 1, 2, 3, 4, 5]) rfl rfl ?_
    refine sgy (some 9) (Value.int .i64 a1) rfl rfl rfl (y_move rfl) ?_
    refine sgy (some 10) (Value.bool (decide (a1 < 1))) rfl rfl rfl (y_bin rfl rfl rfl) ?_
    refine sgy (some 11) (Value.bool (decide (a1 < 1))) rfl rfl rfl (y_move rfl) ?_
    refine mIf_elim hm (fun hc18 hm => ?_) (fun hc18 hm => ?_)
    · refine sgn (some 12) rfl rfl (by exact wFT rfl rfl hc18) ?_
      refine sgn (some 13) rfl rfl (by exact wFT rfl rfl hc18) ?_
      refine sgy (some 14) (Value.bool true) rfl rfl rfl (y_pickT rfl hc18 rfl) ?_
      exact Exists.intro true (And.intro (And.intro rfl trivial) (And.intro (bx_drop nd 0) hm))
    · refine sgy (some 12) (Value.int .i64 a1) rfl rfl (by exact wFF rfl rfl hc18) (y_move rfl) ?_
      refine sgy (some 13) (Value.bool (decide (128 < a1))) rfl rfl (by exact wFF rfl rfl hc18) (y_bin rfl rfl rfl) ?_
      refine sgy (some 14) (Value.bool (decide (128 < a1))) rfl rfl rfl (y_pickF rfl hc18 rfl) ?_
      exact Exists.intro (decide (128 < a1)) (And.intro (And.intro rfl trivial) (And.intro (bx_drop nd 0) hm))
  · refine cw_ifm hm rfl (fun hc3 hm => ?_) (fun hc3 hm => ?_)
    · refine cw_seq ?_
      refine cw_reg (l := [0, 1]) rfl rfl ?_
      refine sgy (some 4) (Value.pointer none) rfl rfl rfl (y_assign rfl) ?_
      refine sgy (some 5) (Value.int .i64 18) rfl rfl rfl (y_assign rfl) ?_
      refine drop.of ?_
      refine cw_ret ?_
      refine out_one [(Value.pointer none), (Value.int .i64 18)] (e_draws_New (none, 18)) Try.results13 ?_ rfl ?_
      · exact (And.intro (rfl) (And.intro (rfl) trivial))
      · exact Exists.intro (none, 18) (And.intro rfl hm)
    · refine cw_skip ?_
      refine drop.of ?_
      refine cw_seq ?_
      refine cw_seq ?_
      refine cw_reg (l := [0, 1, 2]) rfl rfl ?_
      refine sgy (some 15) (Sl.val a0) rfl rfl rfl (y_move rfl) ?_
      refine sgy (some 16) (Value.int .i64 (a0.len : Int)) rfl rfl rfl (y_len (s := a0) rfl rfl Try.underlying22) ?_
      refine sgy (some 17) (Value.bool (decide (4096 < (a0.len : Int)))) rfl rfl rfl (y_bin rfl rfl rfl) ?_
      refine drop.of ?_
      refine cw_ifm hm rfl (fun hc4 hm => ?_) (fun hc4 hm => ?_)
      · refine cw_seq ?_
        refine cw_reg (l := [0, 1]) rfl rfl ?_
        refine sgy (some 4) (Value.pointer none) rfl rfl rfl (y_assign rfl) ?_
        refine sgy (some 5) (Value.int .i64 23) rfl rfl rfl (y_assign rfl) ?_
        refine drop.of ?_
        refine cw_ret ?_
        refine out_one [(Value.pointer none), (Value.int .i64 23)] (e_draws_New (none, 23)) Try.results13 ?_ rfl ?_
        · exact (And.intro (rfl) (And.intro (rfl) trivial))
        · exact Exists.intro (none, 23) (And.intro rfl hm)
      · refine cw_skip ?_
        refine drop.of ?_
        refine cw_seq ?_
        refine cw_reg (l := [0, 1, 2]) rfl rfl ?_
        refine sgy (some 18) (S_draws_Draws.val (⟨Sl.nil, 0⟩ : S_draws_Draws)) rfl rfl rfl (y_build Try.underlying97 i97 rfl (sizes_cons i95 (sizes_cons i3 sizes_nil)) rfl (cs := #[(Sl.val Sl.nil), (Value.int .i64 0)]) rfl) ?_
        refine sg rfl rfl (v_box hm rfl (fun a5 h hm => ?_))
        refine sgy (some 6) (Value.pointer (some a5)) rfl rfl rfl (y_assign rfl) ?_
        refine drop.of ?_
        refine cw_seq ?_
        refine cw_seq ?_
        refine cw_reg (l := [0, 1, 2]) rfl rfl ?_
        refine sgy (some 20) (Sl.val a0) rfl rfl rfl (y_move rfl) ?_
        refine sgy (some 21) (Value.int .i64 (a0.len : Int)) rfl rfl rfl (y_len (s := a0) rfl rfl Try.underlying22) ?_
        refine sgy (some 22) (Value.int .i64 0) rfl rfl rfl (y_move rfl) ?_
        refine drop.of ?_
        refine cw_block ?_
        refine cw_loop [8, 22, 23, 24, 25, 26, 27, 28, 29, 30, 31, 32, 33, 34, 35, 36, 37, 38] (fun s6 => [(22, (Value.int .i64 s6))]) (fun s6 => []) hm rfl (fun _ => rfl) ⟨rfl, trivial⟩ rfl (fun _ => nd) (fun rec7 s6 h junk nd hm => ?_)
        refine cw_seq ?_
        refine cw_reg (l := [0]) rfl rfl ?_
        refine sgy (some 23) (Value.bool (decide (s6 < (a0.len : Int)))) rfl rfl rfl (y_bin rfl rfl rfl) ?_
        refine drop.of ?_
        refine cw_seq ?_
        refine cw_ifm hm rfl (fun hc8 hm => ?_) (fun hc8 hm => ?_)
        · refine cw_skip ?_
          refine drop.of ?_
          refine cw_seq ?_
          refine cw_block ?_
          refine cw_seq ?_
          refine cw_reg (l := [0, 1, 2, 3]) rfl rfl ?_
          obtain ⟨a9, hq10, hm⟩ := hm
          refine sgy (some 24) (Value.pointer (some a9)) rfl rfl rfl (y_idx Try.underlying22 i25 rfl rfl hq10) ?_
          refine sg rfl rfl (v_loadA hm rfl Try.underlying25 rfl i25 S_api_Word.val (fun _ => ⟨rfl, rfl⟩) (fun x11 hm => ?_))
          refine sg rfl rfl (b_alloc nd i25 rfl (c := #[(Value.int .u64 0), (Value.int .u64 0)]) rfl (fun b12 nd => ?_))
          refine sg rfl rfl (b_store 0 nd rfl rfl rfl i25 rfl rfl rfl (c' := #[(Value.int .u64 x11.Hi), (Value.int .u64 x11.Lo)]) rfl (fun nd => ?_))
          refine drop.of ?_
          refine cw_draw mixed rfl ?_
          refine tyy 0 (some 26) (Value.pointer (some a5)) rfl rfl (by kernel_rfl) (by kernel_rfl) (by kernel_rfl) rfl (y_move rfl) ?_
          refine tyy 1 (some 27) (Value.pointer (some a5)) rfl rfl (by kernel_rfl) (by kernel_rfl) (by kernel_rfl) rfl (y_move rfl) ?_
          refine tyy 2 (some 28) (Value.pointer (some a5)) rfl rfl (by kernel_rfl) (by kernel_rfl) (by kernel_rfl) rfl (y_nil rfl) ?_
          refine tyy 3 (some 29) (Value.pointer (some (a5.add 0))) rfl rfl (by kernel_rfl) (by kernel_rfl) (by kernel_rfl) rfl (yv (y_fieldAddr rfl Try.underlying97 rfl i95 rfl) rfl) ?_
          refine tyy 6 (some 32) (Value.int .i64 a1) rfl rfl (by kernel_rfl) (by kernel_rfl) (by kernel_rfl) rfl (y_move rfl) ?_
          refine trr 5 (some 31) (S_api_Word.val x11) rfl rfl (by kernel_rfl) (by kernel_rfl) (by kernel_rfl) rfl (r_loadA 0 nd rfl rfl Try.underlying25 rfl i25 rfl) ?_
          obtain ⟨r13, hq14, hm⟩ := hm
          refine tyy 7 (some 33) (e_wide_Cut r13) rfl rfl (by kernel_rfl) (by kernel_rfl) (by kernel_rfl) rfl (y_call (enc := e_wide_Cut) hq14 (fun k h hk => c_wide_Cut hk) callee30 rfl) ?_
          refine tq 4 rfl (by kernel_rfl) (by kernel_rfl) (by kernel_rfl) rfl (v_load hm rfl Try.underlying95 rfl Sl.val (fun _ => rfl) (fun x15 hm => ?_))
          refine tq 8 rfl (by kernel_rfl) (by kernel_rfl) (by kernel_rfl) rfl (b_lit nd Try.underlying95 i25 rfl rfl rfl (cs := #[(Value.int .u64 r13.Hi), (Value.int .u64 r13.Lo)]) rfl (fun b16 nd => ?_))
          refine t1 9 rfl (by kernel_rfl) rfl (v_push 0 Try.underlying95 Try.underlying95 i25 rfl rfl nd (s := x15) rfl rfl rfl rfl rfl hm (fun s17 h hm => ?_))
          refine tyy 10 (some 36) (Value.pointer (some a5)) rfl rfl (by kernel_rfl) (by kernel_rfl) (by kernel_rfl) rfl (y_nil rfl) ?_
          refine tyy 11 (some 37) (Value.pointer (some (a5.add 0))) rfl rfl (by kernel_rfl) (by kernel_rfl) (by kernel_rfl) rfl (yv (y_fieldAddr rfl Try.underlying97 rfl i95 rfl) rfl) ?_
          refine t1 12 rfl (by kernel_rfl) rfl (v_store hm rfl rfl rfl i95 rfl rfl (fun h hm => ?_))
          refine td (by kernel_rfl) ?_
          refine drop.of ?_
          refine cw_reg (l := [0, 1]) rfl rfl ?_
          refine sgy (some 38) (Value.int .i64 (iAdd .i64 s6 1)) rfl rfl rfl (y_bin rfl rfl rfl) ?_
          refine sgy (some 22) (Value.int .i64 (iAdd .i64 s6 1)) rfl rfl rfl (y_move rfl) ?_
          exact Exists.intro (iAdd .i64 s6 1) (And.intro (And.intro rfl trivial) (And.intro (bx_drop nd 2) hm))
        · refine cw_exit ?_
          refine drop.of ?_
          refine cw_seq ?_
          refine cw_reg (l := [0, 1, 2]) rfl rfl ?_
          refine sgy (some 39) (Value.pointer (some a5)) rfl rfl rfl (y_move rfl) ?_
          refine sgy (some 4) (Value.pointer (some a5)) rfl rfl rfl (y_assign rfl) ?_
          refine sgy (some 5) (Value.int .i64 0) rfl rfl rfl (y_assign rfl) ?_
          refine drop.of ?_
          refine cw_ret ?_
          refine out_one [(Value.pointer (some a5)), (Value.int .i64 0)] (e_draws_New ((some a5), 0)) Try.results13 ?_ rfl ?_
          · exact (And.intro (rfl) (And.intro (rfl) trivial))
          · exact Exists.intro ((some a5), 0) (And.intro rfl hm)
/-! (sesame/draws.words).from -/
def e_draws_words_from : Sl → Value := fun r => (Sl.val r)
def m_draws_words_from (a0 : Sl) (a1 : Int) (K : (Sl) → H → Prop) : H → Prop :=
  mCut a0 a1 (a0.len : Int) 2 fun s1 =>
  K s1
set_option maxRecDepth 100000 in
set_option maxHeartbeats 8000000 in
theorem c_draws_words_from {a0 : Sl} {a1 : Int} {K : (Sl) → H → Prop} {h : H} (hm : m_draws_words_from a0 a1 K h) : ACall Try.prog 52 #[(Sl.val a0), (Value.int .i64 a1)] h (fun v h' => ∃ r, v = e_draws_words_from r ∧ K r h') noP := by
  unfold m_draws_words_from at hm
  have nd : (([] : List (Nat × Obj)).map Prod.fst).Nodup := List.nodup_nil
  refine cw_func Try.func52 rfl rfl ?_
  refine cw_seq ?_
  refine cw_reg (l := [0]) rfl rfl ?_
  refine sgy (some 4) (Sl.val Sl.nil) rfl rfl rfl (y_assign rfl) ?_
  refine drop.of ?_
  refine cw_seq ?_
  refine cw_reg (l := [0, 1, 2, 3]) rfl rfl ?_
  refine sgy (some 5) (Sl.val a0) rfl rfl rfl (y_move rfl) ?_
  refine sgy (some 6) (Value.int .i64 a1) rfl rfl rfl (y_move rfl) ?_
  obtain ⟨s1, hq2, hm⟩ := hm
  refine sgy (some 7) (Sl.val s1) rfl rfl rfl (y_cut Try.underlying95 i25 (s := a0) rfl ⟨_, rfl⟩ rfl hq2) ?_
  refine sgy (some 4) (Sl.val s1) rfl rfl rfl (y_assign rfl) ?_
  refine drop.of ?_
  refine cw_ret ?_
  refine out_one [(Sl.val s1)] (e_draws_words_from s1) Try.results52 ?_ rfl ?_
  · exact (And.intro (rfl) trivial)
  · exact Exists.intro s1 (And.intro rfl hm)
/-! (*sesame/draws.Draws).Draw -/
def e_draws_Draws_Draw : S_api_Word × Int → Value := fun r => Value.tuple #[(S_api_Word.val r.1), (Value.int .i64 r.2)]
def m_draws_Draws_Draw (a0 : Option Addr) (K : (S_api_Word × Int) → H → Prop) : H → Prop :=
  mDeref a0 fun a2 =>
  mDeref a0 fun a4 =>
  mLoad cSl (a2.add 0) fun x6 =>
  mLoad (cInt .i64) (a4.add 1) fun x7 =>
  mPure (m_draws_words_from x6 x7) fun r8 =>
  mIf (decide ((r8.len : Int) = 0)) (
    K ((⟨0, 0⟩ : S_api_Word), 11)
    ) (
    mDeref a0 fun a11 =>
    mLoad (cInt .i64) (a11.add 1) fun x13 =>
    mDeref a0 fun a14 =>
    mStore (a14.add 1) [(Value.int .i64 (iAdd .i64 x13 1))] <|
    mIdx r8 0 2 fun a16 =>
    mLoad S_api_Word.cells a16 fun x18 =>
    K (x18, 0)
    )
set_option maxRecDepth 100000 in
set_option maxHeartbeats 8000000 in
theorem c_draws_Draws_Draw {a0 : Option Addr} {K : (S_api_Word × Int) → H → Prop} {h : H} (hm : m_draws_Draws_Draw a0 K h) : ACall Try.prog 15 #[(Value.pointer a0)] h (fun v h' => ∃ r, v = e_draws_Draws_Draw r ∧ K r h') noP := by
  unfold m_draws_Draws_Draw at hm
  have nd : (([] : List (Nat × Obj)).map Prod.fst).Nodup := List.nodup_nil
  refine cw_func Try.func15 rfl rfl ?_
  refine cw_seq ?_
  refine cw_reg (l := [0, 1]) rfl rfl ?_
  refine sg rfl rfl (b_alloc nd i25 rfl (c := #[(Value.int .u64 0), (Value.int .u64 0)]) rfl (fun b1 nd => ?_))
  refine sgy (some 3) (Value.int .i64 0) rfl rfl rfl (y_assign rfl) ?_
  refine drop.of ?_
  refine cw_seq ?_
  refine cw_draw mixed rfl ?_
  refine tyy 0 (some 5) (Value.pointer a0) rfl rfl (by kernel_rfl) (by kernel_rfl) (by kernel_rfl) rfl (y_move rfl) ?_
  obtain ⟨a2, hq3, hm⟩ := hm
  refine tyy 1 (some 6) (Value.pointer (some a2)) rfl rfl (by kernel_rfl) (by kernel_rfl) (by kernel_rfl) rfl (y_nilP rfl hq3) ?_
  refine tyy 2 (some 7) (Value.pointer (some (a2.add 0))) rfl rfl (by kernel_rfl) (by kernel_rfl) (by kernel_rfl) rfl (yv (y_fieldAddr rfl Try.underlying97 rfl i95 rfl) rfl) ?_
  refine tyy 4 (some 9) (Value.pointer a0) rfl rfl (by kernel_rfl) (by kernel_rfl) (by kernel_rfl) rfl (y_move rfl) ?_
  obtain ⟨a4, hq5, hm⟩ := hm
  refine tyy 5 (some 10) (Value.pointer (some a4)) rfl rfl (by kernel_rfl) (by kernel_rfl) (by kernel_rfl) rfl (y_nilP rfl hq5) ?_
  refine tyy 6 (some 11) (Value.pointer (some (a4.add 1))) rfl rfl (by kernel_rfl) (by kernel_rfl) (by kernel_rfl) rfl (yv (y_fieldAddr rfl Try.underlying97 rfl i3 rfl) rfl) ?_
  refine tq 3 rfl (by kernel_rfl) (by kernel_rfl) (by kernel_rfl) rfl (v_load hm rfl Try.underlying95 rfl Sl.val (fun _ => rfl) (fun x6 hm => ?_))
  refine tq 7 rfl (by kernel_rfl) (by kernel_rfl) (by kernel_rfl) rfl (v_load hm rfl Try.underlying3 rfl (Value.int .i64) (fun _ => rfl) (fun x7 hm => ?_))
  obtain ⟨r8, hq9, hm⟩ := hm
  refine tyy 8 (some 13) (e_draws_words_from r8) rfl rfl (by kernel_rfl) (by kernel_rfl) (by kernel_rfl) rfl (y_call (enc := e_draws_words_from) hq9 (fun k h hk => c_draws_words_from hk) callee52 rfl) ?_
  refine tyy 9 (some 4) (Sl.val r8) rfl rfl (by kernel_rfl) (by kernel_rfl) (by kernel_rfl) rfl (y_assign rfl) ?_
  refine td (by kernel_rfl) ?_
  refine drop.of ?_
  refine cw_seq ?_
  refine cw_seq ?_
  refine cw_reg (l := [0, 1, 2]) rfl rfl ?_
  refine sgy (some 14) (Sl.val r8) rfl rfl rfl (y_move rfl) ?_
  refine sgy (some 15) (Value.int .i64 (r8.len : Int)) rfl rfl rfl (y_len (s := r8) rfl rfl Try.underlying95) ?_
  refine sgy (some 16) (Value.bool (decide ((r8.len : Int) = 0))) rfl rfl rfl (y_bin rfl rfl rfl) ?_
  refine drop.of ?_
  refine cw_ifm hm rfl (fun hc10 hm => ?_) (fun hc10 hm => ?_)
  · refine cw_seq ?_
    refine cw_reg (l := [0, 1, 2]) rfl rfl ?_
    refine sgy (some 17) (S_api_Word.val (⟨0, 0⟩ : S_api_Word)) rfl rfl rfl (y_build Try.underlying25 i25 rfl (sizes_cons i23 (sizes_cons i23 sizes_nil)) rfl (cs := #[(Value.int .u64 0), (Value.int .u64 0)]) rfl) ?_
    refine sg rfl rfl (b_store 0 nd rfl rfl rfl i25 rfl rfl rfl (c' := #[(Value.int .u64 0), (Value.int .u64 0)]) rfl (fun nd => ?_))
    refine sgy (some 3) (Value.int .i64 11) rfl rfl rfl (y_assign rfl) ?_
    refine drop.of ?_
    refine cw_ret ?_
    refine out_one [(S_api_Word.val (⟨0, 0⟩ : S_api_Word)), (Value.int .i64 11)] (e_draws_Draws_Draw ((⟨0, 0⟩ : S_api_Word), 11)) Try.results15 ?_ rfl ?_
    · exact (And.intro (⟨_, rfl, res_box 0 nd rfl Try.underlying25 rfl i25 rfl⟩) (And.intro (rfl) trivial))
    · exact Exists.intro ((⟨0, 0⟩ : S_api_Word), 11) (And.intro rfl hm)
  · refine cw_skip ?_
    refine drop.of ?_
    refine cw_seq ?_
    refine cw_reg (l := [0, 1, 2, 3, 4, 5, 6, 7]) rfl rfl ?_
    refine sgy (some 18) (Value.pointer a0) rfl rfl rfl (y_move rfl) ?_
    obtain ⟨a11, hq12, hm⟩ := hm
    refine sgy (some 19) (Value.pointer (some a11)) rfl rfl rfl (y_nilP rfl hq12) ?_
    refine sgy (some 20) (Value.pointer (some (a11.add 1))) rfl rfl rfl (yv (y_fieldAddr rfl Try.underlying97 rfl i3 rfl) rfl) ?_
    refine sg rfl rfl (v_load hm rfl Try.underlying3 rfl (Value.int .i64) (fun _ => rfl) (fun x13 hm => ?_))
    refine sgy (some 22) (Value.int .i64 (iAdd .i64 x13 1)) rfl rfl rfl (y_bin rfl rfl rfl) ?_
    obtain ⟨a14, hq15, hm⟩ := hm
    refine sgy (some 23) (Value.pointer (some a14)) rfl rfl rfl (y_nilP rfl hq15) ?_
    refine sgy (some 24) (Value.pointer (some (a14.add 1))) rfl rfl rfl (yv (y_fieldAddr rfl Try.underlying97 rfl i3 rfl) rfl) ?_
    refine sg rfl rfl (v_store hm rfl rfl rfl i3 rfl rfl (fun h hm => ?_))
    refine drop.of ?_
    refine cw_seq ?_
    refine cw_reg (l := [0, 1, 2, 3, 4]) rfl rfl ?_
    refine sgy (some 25) (Sl.val r8) rfl rfl rfl (y_move rfl) ?_
    obtain ⟨a16, hq17, hm⟩ := hm
    refine sgy (some 26) (Value.pointer (some a16)) rfl rfl rfl (y_idx Try.underlying95 i25 rfl rfl hq17) ?_
    refine sg rfl rfl (v_loadA hm rfl Try.underlying25 rfl i25 S_api_Word.val (fun _ => ⟨rfl, rfl⟩) (fun x18 hm => ?_))
    refine sg rfl rfl (b_store 0 nd rfl rfl rfl i25 rfl rfl rfl (c' := #[(Value.int .u64 x18.Hi), (Value.int .u64 x18.Lo)]) rfl (fun nd => ?_))
    refine sgy (some 3) (Value.int .i64 0) rfl rfl rfl (y_assign rfl) ?_
    refine drop.of ?_
    refine cw_ret ?_
    refine out_one [(S_api_Word.val x18), (Value.int .i64 0)] (e_draws_Draws_Draw (x18, 0)) Try.results15 ?_ rfl ?_
    · exact (And.intro (⟨_, rfl, res_box 0 nd rfl Try.underlying25 rfl i25 rfl⟩) (And.intro (rfl) trivial))
    · exact Exists.intro (x18, 0) (And.intro rfl hm)
/-! (*sesame/draws.Draws).Taken -/
def e_draws_Draws_Taken : Int → Value := fun r => (Value.int .i64 r)
def m_draws_Draws_Taken (a0 : Option Addr) (K : (Int) → H → Prop) : H → Prop :=
  mDeref a0 fun a1 =>
  mLoad (cInt .i64) (a1.add 1) fun x3 =>
  K x3
set_option maxRecDepth 100000 in
set_option maxHeartbeats 8000000 in
theorem c_draws_Draws_Taken {a0 : Option Addr} {K : (Int) → H → Prop} {h : H} (hm : m_draws_Draws_Taken a0 K h) : ACall Try.prog 16 #[(Value.pointer a0)] h (fun v h' => ∃ r, v = e_draws_Draws_Taken r ∧ K r h') noP := by
  unfold m_draws_Draws_Taken at hm
  have nd : (([] : List (Nat × Obj)).map Prod.fst).Nodup := List.nodup_nil
  refine cw_func Try.func16 rfl rfl ?_
  refine cw_seq ?_
  refine cw_reg (l := [0]) rfl rfl ?_
  refine sgy (some 2) (Value.int .i64 0) rfl rfl rfl (y_assign rfl) ?_
  refine drop.of ?_
  refine cw_seq ?_
  refine cw_reg (l := [0, 1, 2, 3, 4]) rfl rfl ?_
  refine sgy (some 3) (Value.pointer a0) rfl rfl rfl (y_move rfl) ?_
  obtain ⟨a1, hq2, hm⟩ := hm
  refine sgy (some 4) (Value.pointer (some a1)) rfl rfl rfl (y_nilP rfl hq2) ?_
  refine sgy (some 5) (Value.pointer (some (a1.add 1))) rfl rfl rfl (yv (y_fieldAddr rfl Try.underlying97 rfl i3 rfl) rfl) ?_
  refine sg rfl rfl (v_load hm rfl Try.underlying3 rfl (Value.int .i64) (fun _ => rfl) (fun x3 hm => ?_))
  refine sgy (some 2) (Value.int .i64 x3) rfl rfl rfl (y_assign rfl) ?_
  refine drop.of ?_
  refine cw_ret ?_
  refine out_one [(Value.int .i64 x3)] (e_draws_Draws_Taken x3) Try.results16 ?_ rfl ?_
  · exact (And.intro (rfl) trivial)
  · exact Exists.intro x3 (And.intro rfl hm)
/-! (*sesame/draws.Draws).Left -/
def e_draws_Draws_Left : Int → Value := fun r => (Value.int .i64 r)
def m_draws_Draws_Left (a0 : Option Addr) (K : (Int) → H → Prop) : H → Prop :=
  mDeref a0 fun a1 =>
  mDeref a0 fun a3 =>
  mLoad cSl (a1.add 0) fun x5 =>
  mLoad (cInt .i64) (a3.add 1) fun x6 =>
  mPure (m_draws_words_from x5 x6) fun r7 =>
  K (r7.len : Int)
set_option maxRecDepth 100000 in
set_option maxHeartbeats 8000000 in
theorem c_draws_Draws_Left {a0 : Option Addr} {K : (Int) → H → Prop} {h : H} (hm : m_draws_Draws_Left a0 K h) : ACall Try.prog 17 #[(Value.pointer a0)] h (fun v h' => ∃ r, v = e_draws_Draws_Left r ∧ K r h') noP := by
  unfold m_draws_Draws_Left at hm
  have nd : (([] : List (Nat × Obj)).map Prod.fst).Nodup := List.nodup_nil
  refine cw_func Try.func17 rfl rfl ?_
  refine cw_seq ?_
  refine cw_reg (l := [0]) rfl rfl ?_
  refine sgy (some 2) (Value.int .i64 0) rfl rfl rfl (y_assign rfl) ?_
  refine drop.of ?_
  refine cw_seq ?_
  refine cw_draw mixed rfl ?_
  refine tyy 0 (some 3) (Value.pointer a0) rfl rfl (by kernel_rfl) (by kernel_rfl) (by kernel_rfl) rfl (y_move rfl) ?_
  obtain ⟨a1, hq2, hm⟩ := hm
  refine tyy 1 (some 4) (Value.pointer (some a1)) rfl rfl (by kernel_rfl) (by kernel_rfl) (by kernel_rfl) rfl (y_nilP rfl hq2) ?_
  refine tyy 2 (some 5) (Value.pointer (some (a1.add 0))) rfl rfl (by kernel_rfl) (by kernel_rfl) (by kernel_rfl) rfl (yv (y_fieldAddr rfl Try.underlying97 rfl i95 rfl) rfl) ?_
  refine tyy 4 (some 7) (Value.pointer a0) rfl rfl (by kernel_rfl) (by kernel_rfl) (by kernel_rfl) rfl (y_move rfl) ?_
  obtain ⟨a3, hq4, hm⟩ := hm
  refine tyy 5 (some 8) (Value.pointer (some a3)) rfl rfl (by kernel_rfl) (by kernel_rfl) (by kernel_rfl) rfl (y_nilP rfl hq4) ?_
  refine tyy 6 (some 9) (Value.pointer (some (a3.add 1))) rfl rfl (by kernel_rfl) (by kernel_rfl) (by kernel_rfl) rfl (yv (y_fieldAddr rfl Try.underlying97 rfl i3 rfl) rfl) ?_
  refine tq 3 rfl (by kernel_rfl) (by kernel_rfl) (by kernel_rfl) rfl (v_load hm rfl Try.underlying95 rfl Sl.val (fun _ => rfl) (fun x5 hm => ?_))
  refine tq 7 rfl (by kernel_rfl) (by kernel_rfl) (by kernel_rfl) rfl (v_load hm rfl Try.underlying3 rfl (Value.int .i64) (fun _ => rfl) (fun x6 hm => ?_))
  obtain ⟨r7, hq8, hm⟩ := hm
  refine tyy 8 (some 11) (e_draws_words_from r7) rfl rfl (by kernel_rfl) (by kernel_rfl) (by kernel_rfl) rfl (y_call (enc := e_draws_words_from) hq8 (fun k h hk => c_draws_words_from hk) callee52 rfl) ?_
  refine tyy 9 (some 12) (Value.int .i64 (r7.len : Int)) rfl rfl (by kernel_rfl) (by kernel_rfl) (by kernel_rfl) rfl (y_len (s := r7) rfl rfl Try.underlying95) ?_
  refine tyy 10 (some 2) (Value.int .i64 (r7.len : Int)) rfl rfl (by kernel_rfl) (by kernel_rfl) (by kernel_rfl) rfl (y_assign rfl) ?_
  refine td (by kernel_rfl) ?_
  refine drop.of ?_
  refine cw_ret ?_
  refine out_one [(Value.int .i64 (r7.len : Int))] (e_draws_Draws_Left (r7.len : Int)) Try.results17 ?_ rfl ?_
  · exact (And.intro (rfl) trivial)
  · exact Exists.intro (r7.len : Int) (And.intro rfl hm)
/-! (*sesame/draws.Draws).Skip -/
def e_draws_Draws_Skip : Int → Value := fun r => (Value.int .i64 r)
def m_draws_Draws_Skip (a0 : Option Addr) (a1 : Int) (K : (Int) → H → Prop) : H → Prop :=
  mJoin (fun (s1 : Bool) =>
    mIf s1 (
      K 5
      ) (
      mDeref a0 fun a4 =>
      mStore (a4.add 1) [(Value.int .i64 a1)] <|
      K 0
      )
    ) (fun j2 =>
    mIf (decide (a1 < 0)) (
      j2 true
      ) (
      mDeref a0 fun a7 =>
      mLoad cSl (a7.add 0) fun x9 =>
      j2 (decide ((x9.len : Int) < a1))
      )
    )
set_option maxRecDepth 100000 in
set_option maxHeartbeats 8000000 in
theorem c_draws_Draws_Skip {a0 : Option Addr} {a1 : Int} {K : (Int) → H → Prop} {h : H} (hm : m_draws_Draws_Skip a0 a1 K h) : ACall Try.prog 21 #[(Value.pointer a0), (Value.int .i64 a1)] h (fun v h' => ∃ r, v = e_draws_Draws_Skip r ∧ K r h') noP := by
  unfold m_draws_Draws_Skip at hm
  have nd : (([] : List (Nat × Obj)).map Prod.fst).Nodup := List.nodup_nil
  refine cw_func Try.func21 rfl rfl ?_
  refine cw_seq ?_
  refine cw_reg (l := [0]) rfl rfl ?_
  refine sgy (some 4) (Value.int .i64 0) rfl rfl rfl (y_assign rfl) ?_
  refine drop.of ?_
  refine cw_seq ?_
  refine cw_joinM hm [5, 6, 7, 8, 9, 10, 11, 12, 13, 14, 15] (fun s1 => [(15, (Value.bool s1))]) (fun s1 => []) rfl (fun _ => nd) (fun hm => ?_) (fun s1 h junk nd hm => ?_)
  · refine cw_reg (l := [0, 1, 2, 3, 4, 5, 6, 7, 8, 9, 10]) rfl rfl ?_
    refine sgy (some 5) (Value.int .i64 a1) rfl rfl rfl (y_move rfl) ?_
    refine sgy (some 6) (Value.bool (decide (a1 < 0))) rfl rfl rfl (y_bin rfl rfl rfl) ?_
    refine sgy (some 7) (Value.bool (decide (a1 < 0))) rfl rfl rfl (y_move rfl) ?_
    refine mIf_elim hm (fun hc6 hm => ?_) (fun hc6 hm => ?_)
    · refine sgn (some 8) rfl rfl (by exact wFT rfl rfl hc6) ?_
      refine sgn (some 9) rfl rfl (by exact wFT rfl rfl hc6) ?_
      refine sgn (some 10) rfl rfl (by exact wFT rfl rfl hc6) ?_
      refine sgn (some 11) rfl rfl (by exact wFT rfl rfl hc6) ?_
      refine sgn (some 12) rfl rfl (by exact wFT rfl rfl hc6) ?_
      refine sgn (some 13) rfl rfl (by exact wFT rfl rfl hc6) ?_
      refine sgn (some 14) rfl rfl (by exact wFT rfl rfl hc6) ?_
      refine sgy (some 15) (Value.bool true) rfl rfl rfl (y_pickT rfl hc6 rfl) ?_
      exact Exists.intro true (And.intro (And.intro rfl trivial) (And.intro (bx_drop nd 0) hm))
    · refine sgy (some 8) (Value.int .i64 a1) rfl rfl (by exact wFF rfl rfl hc6) (y_move rfl) ?_
      refine sgy (some 9) (Value.pointer a0) rfl rfl (by exact wFF rfl rfl hc6) (y_move rfl) ?_
      obtain ⟨a7, hq8, hm⟩ := hm
      refine sgy (some 10) (Value.pointer (some a7)) rfl rfl (by exact wFF rfl rfl hc6) (y_nilP rfl hq8) ?_
      refine sgy (some 11) (Value.pointer (some (a7.add 0))) rfl rfl (by exact wFF rfl rfl hc6) (yv (y_fieldAddr rfl Try.underlying97 rfl i95 rfl) rfl) ?_
      refine sg rfl (by exact wFF rfl rfl hc6) (v_load hm rfl Try.underlying95 rfl Sl.val (fun _ => rfl) (fun x9 hm => ?_))
      refine sgy (some 13) (Value.int .i64 (x9.len : Int)) rfl rfl (by exact wFF rfl rfl hc6) (y_len (s := x9) rfl rfl Try.underlying95) ?_
      refine sgy (some 14) (Value.bool (decide ((x9.len : Int) < a1))) rfl rfl (by exact wFF rfl rfl hc6) (y_bin rfl rfl rfl) ?_
      refine sgy (some 15) (Value.bool (decide ((x9.len : Int) < a1))) rfl rfl rfl (y_pickF rfl hc6 rfl) ?_
      exact Exists.intro (decide ((x9.len : Int) < a1)) (And.intro (And.intro rfl trivial) (And.intro (bx_drop nd 0) hm))
  · refine cw_ifm hm rfl (fun hc3 hm => ?_) (fun hc3 hm => ?_)
    · refine cw_seq ?_
      refine cw_reg (l := [0]) rfl rfl ?_
      refine sgy (some 4) (Value.int .i64 5) rfl rfl rfl (y_assign rfl) ?_
      refine drop.of ?_
      refine cw_ret ?_
      refine out_one [(Value.int .i64 5)] (e_draws_Draws_Skip 5) Try.results21 ?_ rfl ?_
      · exact (And.intro (rfl) trivial)
      · exact Exists.intro 5 (And.intro rfl hm)
    · refine cw_skip ?_
      refine drop.of ?_
      refine cw_seq ?_
      refine cw_reg (l := [0, 1, 2, 3, 4]) rfl rfl ?_
      refine sgy (some 16) (Value.pointer a0) rfl rfl rfl (y_move rfl) ?_
      refine sgy (some 17) (Value.int .i64 a1) rfl rfl rfl (y_move rfl) ?_
      obtain ⟨a4, hq5, hm⟩ := hm
      refine sgy (some 18) (Value.pointer (some a4)) rfl rfl rfl (y_nilP rfl hq5) ?_
      refine sgy (some 19) (Value.pointer (some (a4.add 1))) rfl rfl rfl (yv (y_fieldAddr rfl Try.underlying97 rfl i3 rfl) rfl) ?_
      refine sg rfl rfl (v_store hm rfl rfl rfl i3 rfl rfl (fun h hm => ?_))
      refine drop.of ?_
      refine cw_seq ?_
      refine cw_reg (l := [0]) rfl rfl ?_
      refine sgy (some 4) (Value.int .i64 0) rfl rfl rfl (y_assign rfl) ?_
      refine drop.of ?_
      refine cw_ret ?_
      refine out_one [(Value.int .i64 0)] (e_draws_Draws_Skip 0) Try.results21 ?_ rfl ?_
      · exact (And.intro (rfl) trivial)
      · exact Exists.intro 0 (And.intro rfl hm)
end Go.Proofs.Ytnmaknkbdfpbkaa.K
