/- Functions of the program, printed by a program of mine: law13_known -/
import Derived.Test.YtnmaknkbdfpbkaaT
import Derived.Test.YtnmaknkbdfpbkaaFdraws
import Derived.Test.YtnmaknkbdfpbkaaFissue
namespace Go.Proofs.Ytnmaknkbdfpbkaa.K
open Go Go.Proofs
/-! sesame/sesamelaw13.known -/
def e_law13_known : Bool → Value := fun r => (Value.bool r)
def m_law13_known (K : (Bool) → H → Prop) : H → Prop :=
  mNew 25 #[(Value.int .u64 0), (Value.int .u64 1), (Value.int .u64 0), (Value.int .u64 1), (Value.int .u64 0), (Value.int .u64 2)] fun a1 =>
  m_draws_New (⟨some a1, 3, 3⟩ : Sl) 8 fun r2 =>
  mJoin (fun (s4 : Bool) =>
    mIf s4 (
      K false
      ) (
      m_issue_Draw r2.1 Sl.nil fun r7 =>
      mNew 25 #[(Value.int .u64 0), (Value.int .u64 1)] fun a10 =>
      m_issue_Draw r2.1 (⟨some a10, 1, 1⟩ : Sl) fun r11 =>
      m_issue_Draw r2.1 Sl.nil fun r14 =>
      mIf (decide (r7.2 = 0)) (
        mIf ((decide (r7.1.Hi = 0)) && ((decide (r7.1.Lo = 1)) && true)) (
          mIf (decide (r11.2 = 0)) (
            mIf ((decide (r11.1.Hi = 0)) && ((decide (r11.1.Lo = 2)) && true)) (
              mIf (decide (r14.2 = 11)) (
                m_draws_Draws_Taken r2.1 fun r22 =>
                K (decide (r22 = 3))
                ) (
                K false
                )
              ) (
              K false
              )
            ) (
            K false
            )
          ) (
          K false
          )
        ) (
        K false
        )
      )
    ) (fun j5 =>
    mIf (!decide (r2.2 = 0)) (
      j5 true
      ) (
      j5 (r2.1.isNone)
      )
    )
set_option maxRecDepth 100000 in
set_option maxHeartbeats 8000000 in
theorem c_law13_known {K : (Bool) → H → Prop} {h : H} (hm : m_law13_known  K h) : ACall Try.prog 22 #[] h (fun v h' => ∃ r, v = e_law13_known r ∧ K r h') noP := by
  unfold m_law13_known at hm
  have nd : (([] : List (Nat × Obj)).map Prod.fst).Nodup := List.nodup_nil
  refine cw_func Try.func22 rfl rfl ?_
  refine cw_seq ?_
  refine cw_reg (l := [0]) rfl rfl ?_
  refine sgy (some 0) (Value.bool false) rfl rfl rfl (y_assign rfl) ?_
  refine drop.of ?_
  refine cw_seq ?_
  refine cw_reg (l := [0, 1, 2, 3, 4, 5, 6, 7, 8, 9]) rfl rfl ?_
  refine sgy (some 10) (S_api_Word.val (⟨0, 1⟩ : S_api_Word)) rfl rfl rfl (y_build Try.underlying25 i25 rfl (sizes_cons i23 (sizes_cons i23 sizes_nil)) rfl (cs := #[(Value.int .u64 0), (Value.int .u64 1)]) rfl) ?_
  refine sgy (some 11) (S_api_Word.val (⟨0, 1⟩ : S_api_Word)) rfl rfl rfl (y_build Try.underlying25 i25 rfl (sizes_cons i23 (sizes_cons i23 sizes_nil)) rfl (cs := #[(Value.int .u64 0), (Value.int .u64 1)]) rfl) ?_
  refine sgy (some 12) (S_api_Word.val (⟨0, 2⟩ : S_api_Word)) rfl rfl rfl (y_build Try.underlying25 i25 rfl (sizes_cons i23 (sizes_cons i23 sizes_nil)) rfl (cs := #[(Value.int .u64 0), (Value.int .u64 2)]) rfl) ?_
  refine sg rfl rfl (v_lit hm Try.underlying22 i25 rfl rfl rfl rfl (fun a1 h hm => ?_))
  refine sg rfl rfl (v_call (c_draws_New hm) callee13 rfl (fun v h hm => ?_))
  obtain ⟨r2, rfl, hm⟩ := hm
  refine sgy (some 9) (Value.tuple #[(Value.pointer r2.1), (Value.int .i64 r2.2)]) rfl rfl rfl (y_move rfl) ?_
  refine sgy (some 15) (Value.pointer r2.1) rfl rfl rfl (y_extract rfl rfl) ?_
  refine sgy (some 16) (Value.int .i64 r2.2) rfl rfl rfl (y_extract rfl rfl) ?_
  refine sgy (some 1) (Value.pointer r2.1) rfl rfl rfl (y_assign rfl) ?_
  refine sgy (some 2) (Value.int .i64 r2.2) rfl rfl rfl (y_assign rfl) ?_
  refine drop.of ?_
  refine cw_seq ?_
  refine cw_joinM hm [17, 18, 19, 20, 21, 22] (fun s4 => [(22, (Value.bool s4))]) (fun s4 => []) rfl (fun _ => nd) (fun hm => ?_) (fun s4 h junk nd hm => ?_)
  · refine cw_reg (l := [0, 1, 2, 3, 4, 5]) rfl rfl ?_
    refine sgy (some 17) (Value.int .i64 r2.2) rfl rfl rfl (y_move rfl) ?_
    refine sgy (some 18) (Value.bool (!decide (r2.2 = 0))) rfl rfl rfl (y_bin rfl rfl rfl) ?_
    refine sgy (some 19) (Value.bool (!decide (r2.2 = 0))) rfl rfl rfl (y_move rfl) ?_
    refine mIf_elim hm (fun hc24 hm => ?_) (fun hc24 hm => ?_)
    · refine sgn (some 20) rfl rfl (by exact wFT rfl rfl hc24) ?_
      refine sgn (some 21) rfl rfl (by exact wFT rfl rfl hc24) ?_
      refine sgy (some 22) (Value.bool true) rfl rfl rfl (y_pickT rfl hc24 rfl) ?_
      exact Exists.intro true (And.intro (And.intro rfl trivial) (And.intro (bx_drop nd 0) hm))
    · refine sgy (some 20) (Value.pointer r2.1) rfl rfl (by exact wFF rfl rfl hc24) (y_move rfl) ?_
      refine sgy (some 21) (Value.bool (r2.1.isNone)) rfl rfl (by exact wFF rfl rfl hc24) (y_eqP Try.underlying26 rfl rfl) ?_
      refine sgy (some 22) (Value.bool (r2.1.isNone)) rfl rfl rfl (y_pickF rfl hc24 rfl) ?_
      exact Exists.intro (r2.1.isNone) (And.intro (And.intro rfl trivial) (And.intro (bx_drop nd 0) hm))
  · refine cw_ifm hm rfl (fun hc6 hm => ?_) (fun hc6 hm => ?_)
    · refine cw_seq ?_
      refine cw_reg (l := [0]) rfl rfl ?_
      refine sgy (some 0) (Value.bool false) rfl rfl rfl (y_assign rfl) ?_
      refine drop.of ?_
      refine cw_ret ?_
      refine out_one [(Value.bool false)] (e_law13_known false) Try.results22 ?_ rfl ?_
      · exact (And.intro (rfl) trivial)
      · exact Exists.intro false (And.intro rfl hm)
    · refine cw_skip ?_
      refine drop.of ?_
      refine cw_seq ?_
      refine cw_reg (l := [0, 1, 2, 3, 4, 5, 6, 7]) rfl rfl ?_
      refine sgy (some 24) (Value.pointer r2.1) rfl rfl rfl (y_move rfl) ?_
      refine sg rfl rfl (v_call (c_issue_Draw hm) callee25 rfl (fun v h hm => ?_))
      obtain ⟨r7, rfl, hm⟩ := hm
      refine sgy (some 23) (Value.tuple #[(S_api_Word.val r7.1), (Value.int .i64 r7.2)]) rfl rfl rfl (y_move rfl) ?_
      refine sgy (some 26) (S_api_Word.val r7.1) rfl rfl rfl (y_extract rfl rfl) ?_
      refine sgy (some 27) (Value.int .i64 r7.2) rfl rfl rfl (y_extract rfl rfl) ?_
      refine sg rfl rfl (b_alloc nd i25 rfl (c := #[(Value.int .u64 0), (Value.int .u64 0)]) rfl (fun b9 nd => ?_))
      refine sg rfl rfl (b_store 0 nd rfl rfl rfl i25 rfl rfl rfl (c' := #[(Value.int .u64 r7.1.Hi), (Value.int .u64 r7.1.Lo)]) rfl (fun nd => ?_))
      refine sgy (some 4) (Value.int .i64 r7.2) rfl rfl rfl (y_assign rfl) ?_
      refine drop.of ?_
      refine cw_seq ?_
      refine cw_reg (l := [0, 1, 2, 3, 4, 5, 6, 7, 8, 9]) rfl rfl ?_
      refine sgy (some 29) (Value.pointer r2.1) rfl rfl rfl (y_move rfl) ?_
      refine sgy (some 30) (S_api_Word.val (⟨0, 1⟩ : S_api_Word)) rfl rfl rfl (y_build Try.underlying25 i25 rfl (sizes_cons i23 (sizes_cons i23 sizes_nil)) rfl (cs := #[(Value.int .u64 0), (Value.int .u64 1)]) rfl) ?_
      refine sg rfl rfl (v_lit hm Try.underlying22 i25 rfl rfl rfl rfl (fun a10 h hm => ?_))
      refine sg rfl rfl (v_call (c_issue_Draw hm) callee25 rfl (fun v h hm => ?_))
      obtain ⟨r11, rfl, hm⟩ := hm
      refine sgy (some 28) (Value.tuple #[(S_api_Word.val r11.1), (Value.int .i64 r11.2)]) rfl rfl rfl (y_move rfl) ?_
      refine sgy (some 33) (S_api_Word.val r11.1) rfl rfl rfl (y_extract rfl rfl) ?_
      refine sgy (some 34) (Value.int .i64 r11.2) rfl rfl rfl (y_extract rfl rfl) ?_
      refine sg rfl rfl (b_alloc nd i25 rfl (c := #[(Value.int .u64 0), (Value.int .u64 0)]) rfl (fun b13 nd => ?_))
      refine sg rfl rfl (b_store 0 nd rfl rfl rfl i25 rfl rfl rfl (c' := #[(Value.int .u64 r11.1.Hi), (Value.int .u64 r11.1.Lo)]) rfl (fun nd => ?_))
      refine sgy (some 6) (Value.int .i64 r11.2) rfl rfl rfl (y_assign rfl) ?_
      refine drop.of ?_
      refine cw_seq ?_
      refine cw_reg (l := [0, 1, 2, 3, 4, 5, 6, 7]) rfl rfl ?_
      refine sgy (some 36) (Value.pointer r2.1) rfl rfl rfl (y_move rfl) ?_
      refine sg rfl rfl (v_call (c_issue_Draw hm) callee25 rfl (fun v h hm => ?_))
      obtain ⟨r14, rfl, hm⟩ := hm
      refine sgy (some 35) (Value.tuple #[(S_api_Word.val r14.1), (Value.int .i64 r14.2)]) rfl rfl rfl (y_move rfl) ?_
      refine sgy (some 38) (S_api_Word.val r14.1) rfl rfl rfl (y_extract rfl rfl) ?_
      refine sgy (some 39) (Value.int .i64 r14.2) rfl rfl rfl (y_extract rfl rfl) ?_
      refine sg rfl rfl (b_alloc nd i25 rfl (c := #[(Value.int .u64 0), (Value.int .u64 0)]) rfl (fun b16 nd => ?_))
      refine sg rfl rfl (b_store 0 nd rfl rfl rfl i25 rfl rfl rfl (c' := #[(Value.int .u64 r14.1.Hi), (Value.int .u64 r14.1.Lo)]) rfl (fun nd => ?_))
      refine sgy (some 8) (Value.int .i64 r14.2) rfl rfl rfl (y_assign rfl) ?_
      refine drop.of ?_
      refine cw_seq ?_
      refine cw_reg (l := [0, 1, 2, 3, 4, 5, 6, 7, 8, 9, 10, 11, 12, 13, 14, 15, 16, 17, 18, 19, 20, 21, 22, 23, 24, 25]) rfl rfl ?_
      refine sgy (some 40) (Value.int .i64 r7.2) rfl rfl rfl (y_move rfl) ?_
      refine sgy (some 41) (Value.bool (decide (r7.2 = 0))) rfl rfl rfl (y_bin rfl rfl rfl) ?_
      refine sgy (some 42) (Value.bool (decide (r7.2 = 0))) rfl rfl rfl (y_move rfl) ?_
      refine mIf_elim hm (fun hc17 hm => ?_) (fun hc17 hm => ?_)
      · refine sgr (some 43) (S_api_Word.val r7.1) rfl rfl (by exact wTT rfl rfl hc17) (r_loadA 2 nd rfl rfl Try.underlying25 rfl i25 rfl) ?_
        refine sgy (some 44) (S_api_Word.val (⟨0, 1⟩ : S_api_Word)) rfl rfl (by exact wTT rfl rfl hc17) (y_build Try.underlying25 i25 rfl (sizes_cons i23 (sizes_cons i23 sizes_nil)) rfl (cs := #[(Value.int .u64 0), (Value.int .u64 1)]) rfl) ?_
        refine sgy (some 45) (Value.bool ((decide (r7.1.Hi = 0)) && ((decide (r7.1.Lo = 1)) && true))) rfl rfl (by exact wTT rfl rfl hc17) (y_eqA (n := 2) Try.eqGuardType25 rfl rfl (eq_struct (n := 1) Try.underlying25 Try.stoodInHeld25 (efs_cons rfl (part_one Try.underlying23 rfl rfl) (part_one Try.underlying23 rfl rfl) (eq_int Try.underlying23) rfl (efs_cons rfl (part_one Try.underlying23 rfl rfl) (part_one Try.underlying23 rfl rfl) (eq_int Try.underlying23) rfl efs_nil))) rfl) ?_
        refine sgy (some 46) (Value.bool ((decide (r7.1.Hi = 0)) && ((decide (r7.1.Lo = 1)) && true))) rfl rfl rfl (y_pickT rfl hc17 rfl) ?_
        refine sgy (some 47) (Value.bool ((decide (r7.1.Hi = 0)) && ((decide (r7.1.Lo = 1)) && true))) rfl rfl rfl (y_move rfl) ?_
        refine mIf_elim hm (fun hc18 hm => ?_) (fun hc18 hm => ?_)
        · refine sgy (some 48) (Value.int .i64 r11.2) rfl rfl (by exact wTT rfl rfl hc18) (y_move rfl) ?_
          refine sgy (some 49) (Value.bool (decide (r11.2 = 0))) rfl rfl (by exact wTT rfl rfl hc18) (y_bin rfl rfl rfl) ?_
          refine sgy (some 50) (Value.bool (decide (r11.2 = 0))) rfl rfl rfl (y_pickT rfl hc18 rfl) ?_
          refine sgy (some 51) (Value.bool (decide (r11.2 = 0))) rfl rfl rfl (y_move rfl) ?_
          refine mIf_elim hm (fun hc19 hm => ?_) (fun hc19 hm => ?_)
          · refine sgr (some 52) (S_api_Word.val r11.1) rfl rfl (by exact wTT rfl rfl hc19) (r_loadA 1 nd rfl rfl Try.underlying25 rfl i25 rfl) ?_
            refine sgy (some 53) (S_api_Word.val (⟨0, 2⟩ : S_api_Word)) rfl rfl (by exact wTT rfl rfl hc19) (y_build Try.underlying25 i25 rfl (sizes_cons i23 (sizes_cons i23 sizes_nil)) rfl (cs := #[(Value.int .u64 0), (Value.int .u64 2)]) rfl) ?_
            refine sgy (some 54) (Value.bool ((decide (r11.1.Hi = 0)) && ((decide (r11.1.Lo = 2)) && true))) rfl rfl (by exact wTT rfl rfl hc19) (y_eqA (n := 2) Try.eqGuardType25 rfl rfl (eq_struct (n := 1) Try.underlying25 Try.stoodInHeld25 (efs_cons rfl (part_one Try.underlying23 rfl rfl) (part_one Try.underlying23 rfl rfl) (eq_int Try.underlying23) rfl (efs_cons rfl (part_one Try.underlying23 rfl rfl) (part_one Try.underlying23 rfl rfl) (eq_int Try.underlying23) rfl efs_nil))) rfl) ?_
            refine sgy (some 55) (Value.bool ((decide (r11.1.Hi = 0)) && ((decide (r11.1.Lo = 2)) && true))) rfl rfl rfl (y_pickT rfl hc19 rfl) ?_
            refine sgy (some 56) (Value.bool ((decide (r11.1.Hi = 0)) && ((decide (r11.1.Lo = 2)) && true))) rfl rfl rfl (y_move rfl) ?_
            refine mIf_elim hm (fun hc20 hm => ?_) (fun hc20 hm => ?_)
            · refine sgy (some 57) (Value.int .i64 r14.2) rfl rfl (by exact wTT rfl rfl hc20) (y_move rfl) ?_
              refine sgy (some 58) (Value.bool (decide (r14.2 = 11))) rfl rfl (by exact wTT rfl rfl hc20) (y_bin rfl rfl rfl) ?_
              refine sgy (some 59) (Value.bool (decide (r14.2 = 11))) rfl rfl rfl (y_pickT rfl hc20 rfl) ?_
              refine sgy (some 60) (Value.bool (decide (r14.2 = 11))) rfl rfl rfl (y_move rfl) ?_
              refine mIf_elim hm (fun hc21 hm => ?_) (fun hc21 hm => ?_)
              · refine sgy (some 61) (Value.pointer r2.1) rfl rfl (by exact wTT rfl rfl hc21) (y_move rfl) ?_
                refine sg rfl (by exact wTT rfl rfl hc21) (v_call (c_draws_Draws_Taken hm) callee16 rfl (fun v h hm => ?_))
                obtain ⟨r22, rfl, hm⟩ := hm
                refine sgy (some 63) (Value.bool (decide (r22 = 3))) rfl rfl (by exact wTT rfl rfl hc21) (y_bin rfl rfl rfl) ?_
                refine sgy (some 64) (Value.bool (decide (r22 = 3))) rfl rfl rfl (y_pickT rfl hc21 rfl) ?_
                refine sgy (some 0) (Value.bool (decide (r22 = 3))) rfl rfl rfl (y_assign rfl) ?_
                refine drop.of ?_
                refine cw_ret ?_
                refine out_one [(Value.bool (decide (r22 = 3)))] (e_law13_known (decide (r22 = 3))) Try.results22 ?_ rfl ?_
                · exact (And.intro (rfl) trivial)
                · exact Exists.intro (decide (r22 = 3)) (And.intro rfl hm)
              · refine sgn (some 61) rfl rfl (by exact wTF rfl rfl hc21) ?_
                refine sgn (some 62) rfl rfl (by exact wTF rfl rfl hc21) ?_
                refine sgn (some 63) rfl rfl (by exact wTF rfl rfl hc21) ?_
                refine sgy (some 64) (Value.bool false) rfl rfl rfl (y_pickF rfl hc21 rfl) ?_
                refine sgy (some 0) (Value.bool false) rfl rfl rfl (y_assign rfl) ?_
                refine drop.of ?_
                refine cw_ret ?_
                refine out_one [(Value.bool false)] (e_law13_known false) Try.results22 ?_ rfl ?_
                · exact (And.intro (rfl) trivial)
                · exact Exists.intro false (And.intro rfl hm)
            · refine sgn (some 57) rfl rfl (by exact wTF rfl rfl hc20) ?_
              refine sgn (some 58) rfl rfl (by exact wTF rfl rfl hc20) ?_
              refine sgy (some 59) (Value.bool false) rfl rfl rfl (y_pickF rfl hc20 rfl) ?_
              refine sgy (some 60) (Value.bool false) rfl rfl rfl (y_move rfl) ?_
              refine sgn (some 61) rfl rfl rfl ?_
              refine sgn (some 62) rfl rfl rfl ?_
              refine sgn (some 63) rfl rfl rfl ?_
              refine sgy (some 64) (Value.bool false) rfl rfl rfl (y_pickF rfl rfl rfl) ?_
              refine sgy (some 0) (Value.bool false) rfl rfl rfl (y_assign rfl) ?_
              refine drop.of ?_
              refine cw_ret ?_
              refine out_one [(Value.bool false)] (e_law13_known false) Try.results22 ?_ rfl ?_
              · exact (And.intro (rfl) trivial)
              · exact Exists.intro false (And.intro rfl hm)
          · refine sgn (some 52) rfl rfl (by exact wTF rfl rfl hc19) ?_
            refine sgn (some 53) rfl rfl (by exact wTF rfl rfl hc19) ?_
            refine sgn (some 54) rfl rfl (by exact wTF rfl rfl hc19) ?_
            refine sgy (some 55) (Value.bool false) rfl rfl rfl (y_pickF rfl hc19 rfl) ?_
            refine sgy (some 56) (Value.bool false) rfl rfl rfl (y_move rfl) ?_
            refine sgn (some 57) rfl rfl rfl ?_
            refine sgn (some 58) rfl rfl rfl ?_
            refine sgy (some 59) (Value.bool false) rfl rfl rfl (y_pickF rfl rfl rfl) ?_
            refine sgy (some 60) (Value.bool false) rfl rfl rfl (y_move rfl) ?_
            refine sgn (some 61) rfl rfl rfl ?_
            refine sgn (some 62) rfl rfl rfl ?_
            refine sgn (some 63) rfl rfl rfl ?_
            refine sgy (some 64) (Value.bool false) rfl rfl rfl (y_pickF rfl rfl rfl) ?_
            refine sgy (some 0) (Value.bool false) rfl rfl rfl (y_assign rfl) ?_
            refine drop.of ?_
            refine cw_ret ?_
            refine out_one [(Value.bool false)] (e_law13_known false) Try.results22 ?_ rfl ?_
            · exact (And.intro (rfl) trivial)
            · exact Exists.intro false (And.intro rfl hm)
        · refine sgn (some 48) rfl rfl (by exact wTF rfl rfl hc18) ?_
          refine sgn (some 49) rfl rfl (by exact wTF rfl rfl hc18) ?_
          refine sgy (some 50) (Value.bool false) rfl rfl rfl (y_pickF rfl hc18 rfl) ?_
          refine sgy (some 51) (Value.bool false) rfl rfl rfl (y_move rfl) ?_
          refine sgn (some 52) rfl rfl rfl ?_
          refine sgn (some 53) rfl rfl rfl ?_
          refine sgn (some 54) rfl rfl rfl ?_
          refine sgy (some 55) (Value.bool false) rfl rfl rfl (y_pickF rfl rfl rfl) ?_
          refine sgy (some 56) (Value.bool false) rfl rfl rfl (y_move rfl) ?_
          refine sgn (some 57) rfl rfl rfl ?_
          refine sgn (some 58) rfl rfl rfl ?_
          refine sgy (some 59) (Value.bool false) rfl rfl rfl (y_pickF rfl rfl rfl) ?_
          refine sgy (some 60) (Value.bool false) rfl rfl rfl (y_move rfl) ?_
          refine sgn (some 61) rfl rfl rfl ?_
          refine sgn (some 62) rfl rfl rfl ?_
          refine sgn (some 63) rfl rfl rfl ?_
          refine sgy (some 64) (Value.bool false) rfl rfl rfl (y_pickF rfl rfl rfl) ?_
          refine sgy (some 0) (Value.bool false) rfl rfl rfl (y_assign rfl) ?_
          refine drop.of ?_
          refine cw_ret ?_
          refine out_one [(Value.bool false)] (e_law13_known false) Try.results22 ?_ rfl ?_
          · exact (And.intro (rfl) trivial)
          · exact Exists.intro false (And.intro rfl hm)
      · refine sgn (some 43) rfl rfl (by exact wTF rfl rfl hc17) ?_
        refine sgn (some 44) rfl rfl (by exact wTF rfl rfl hc17) ?_
        refine sgn (some 45) rfl rfl (by exact wTF rfl rfl hc17) ?_
        refine sgy (some 46) (Value.bool false) rfl rfl rfl (y_pickF rfl hc17 rfl) ?_
        refine sgy (some 47) (Value.bool false) rfl rfl rfl (y_move rfl) ?_
        refine sgn (some 48) rfl rfl rfl ?_
        refine sgn (some 49) rfl rfl rfl ?_
        refine sgy (some 50) (Value.bool false) rfl rfl rfl (y_pickF rfl rfl rfl) ?_
        refine sgy (some 51) (Value.bool false) rfl rfl rfl (y_move rfl) ?_
        refine sgn (some 52) rfl rfl rfl ?_
        refine sgn (some 53) rfl rfl rfl ?_
        refine sgn (some 54) rfl rfl rfl ?_
        refine sgy (some 55) (Value.bool false) rfl rfl rfl (y_pickF rfl rfl rfl) ?_
        refine sgy (some 56) (Value.bool false) rfl rfl rfl (y_move rfl) ?_
        refine sgn (some 57) rfl rfl rfl ?_
        refine sgn (some 58) rfl rfl rfl ?_
        refine sgy (some 59) (Value.bool false) rfl rfl rfl (y_pickF rfl rfl rfl) ?_
        refine sgy (some 60) (Value.bool false) rfl rfl rfl (y_move rfl) ?_
        refine sgn (some 61) rfl rfl rfl ?_
        refine sgn (some 62) rfl rfl rfl ?_
        refine sgn (some 63) rfl rfl rfl ?_
        refine sgy (some 64) (Value.bool false) rfl rfl rfl (y_pickF rfl rfl rfl) ?_
        refine sgy (some 0) (Value.bool false) rfl rfl rfl (y_assign rfl) ?_
        refine drop.of ?_
        refine cw_ret ?_
        refine out_one [(Value.bool false)] (e_law13_known false) Try.results22 ?_ rfl ?_
        · exact (And.intro (rfl) trivial)
        · exact Exists.intro false (And.intro rfl hm)
end Go.Proofs.Ytnmaknkbdfpbkaa.K
