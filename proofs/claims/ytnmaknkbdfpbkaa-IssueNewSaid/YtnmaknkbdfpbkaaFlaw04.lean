/- Functions of the program, printed by a program of mine: law04_known, law04_cut -/
import Derived.Test.YtnmaknkbdfpbkaaT
import Derived.Test.YtnmaknkbdfpbkaaFdraws
namespace Go.Proofs.Ytnmaknkbdfpbkaa.K
open Go Go.Proofs
/-! sesame/sesamelaw04.known -/
def e_law04_known : Bool → Value := fun r => (Value.bool r)
def m_law04_known (K : (Bool) → H → Prop) : H → Prop :=
  mNew 25 #[(Value.int .u64 0), (Value.int .u64 300), (Value.int .u64 5), (Value.int .u64 1)] fun a1 =>
  m_draws_New (⟨some a1, 2, 2⟩ : Sl) 8 fun r2 =>
  mJoin (fun (s4 : Bool) =>
    mIf s4 (
      K false
      ) (
      m_draws_Draws_Draw r2.1 fun r7 =>
      m_draws_Draws_Draw r2.1 fun r10 =>
      m_draws_Draws_Draw r2.1 fun r13 =>
      mIf (decide (r7.2 = 0)) (
        mIf ((decide (r7.1.Hi = 0)) && ((decide (r7.1.Lo = 44)) && true)) (
          mIf (decide (r10.2 = 0)) (
            mIf ((decide (r10.1.Hi = 0)) && ((decide (r10.1.Lo = 1)) && true)) (
              mIf (decide (r13.2 = 11)) (
                m_draws_Draws_Taken r2.1 fun r21 =>
                mIf (decide (r21 = 2)) (
                  m_draws_Draws_Left r2.1 fun r24 =>
                  K (decide (r24 = 0))
                  ) (
                  K false
                  )
                ) (
                K false
                )
              ) (
              K false
              )
            ) (
            K false
            )
          ) (
          K false
          )
        ) (
        K false
        )
      )
    ) (fun j5 =>
    mIf (!decide (r2.2 = 0)) (
      j5 true
      ) (
      j5 (r2.1.isNone)
      )
    )
set_option maxRecDepth 100000 in
set_option maxHeartbeats 8000000 in
theorem c_law04_known {K : (Bool) → H → Prop} {h : H} (hm : m_law04_known  K h) : ACall Try.prog 14 #[] h (fun v h' => ∃ r, v = e_law04_known r ∧ K r h') noP := by
  unfold m_law04_known at hm
  have nd : (([] : List (Nat × Obj)).map Prod.fst).Nodup := List.nodup_nil
  refine cw_func Try.func14 rfl rfl ?_
  refine cw_seq ?_
  refine cw_reg (l := [0]) rfl rfl ?_
  refine sgy (some 0) (Value.bool false) rfl rfl rfl (y_assign rfl) ?_
  refine drop.of ?_
  refine cw_seq ?_
  refine cw_reg (l := [0, 1, 2, 3, 4, 5, 6, 7, 8]) rfl rfl ?_
  refine sgy (some 10) (S_api_Word.val (⟨0, 300⟩ : S_api_Word)) rfl rfl rfl (y_build Try.underlying25 i25 rfl (sizes_cons i23 (sizes_cons i23 sizes_nil)) rfl (cs := #[(Value.int .u64 0), (Value.int .u64 300)]) rfl) ?_
  refine sgy (some 11) (S_api_Word.val (⟨5, 1⟩ : S_api_Word)) rfl rfl rfl (y_build Try.underlying25 i25 rfl (sizes_cons i23 (sizes_cons i23 sizes_nil)) rfl (cs := #[(Value.int .u64 5), (Value.int .u64 1)]) rfl) ?_
  refine sg rfl rfl (v_lit hm Try.underlying22 i25 rfl rfl rfl rfl (fun a1 h hm => ?_))
  refine sg rfl rfl (v_call (c_draws_New hm) callee13 rfl (fun v h hm => ?_))
  obtain ⟨r2, rfl, hm⟩ := hm
  refine sgy (some 9) (Value.tuple #[(Value.pointer r2.1), (Value.int .i64 r2.2)]) rfl rfl rfl (y_move rfl) ?_
  refine sgy (some 14) (Value.pointer r2.1) rfl rfl rfl (y_extract rfl rfl) ?_
  refine sgy (some 15) (Value.int .i64 r2.2) rfl rfl rfl (y_extract rfl rfl) ?_
  refine sgy (some 1) (Value.pointer r2.1) rfl rfl rfl (y_assign rfl) ?_
  refine sgy (some 2) (Value.int .i64 r2.2) rfl rfl rfl (y_assign rfl) ?_
  refine drop.of ?_
  refine cw_seq ?_
  refine cw_joinM hm [16, 17, 18, 19, 20, 21] (fun s4 => [(21, (Value.bool s4))]) (fun s4 => []) rfl (fun _ => nd) (fun hm => ?_) (fun s4 h junk nd hm => ?_)
  · refine cw_reg (l := [0, 1, 2, 3, 4, 5]) rfl rfl ?_
    refine sgy (some 16) (Value.int .i64 r2.2) rfl rfl rfl (y_move rfl) ?_
    refine sgy (some 17) (Value.bool (!decide (r2.2 = 0))) rfl rfl rfl (y_bin rfl rfl rfl) ?_
    refine sgy (some 18) (Value.bool (!decide (r2.2 = 0))) rfl rfl rfl (y_move rfl) ?_
    refine mIf_elim hm (fun hc26 hm => ?_) (fun hc26 hm => ?_)
    · refine sgn (some 19) rfl rfl (by exact wFT rfl rfl hc26) ?_
      refine sgn (some 20) rfl rfl (by exact wFT rfl rfl hc26) ?_
      refine sgy (some 21) (Value.bool true) rfl rfl rfl (y_pickT rfl hc26 rfl) ?_
      exact Exists.intro true (And.intro (And.intro rfl trivial) (And.intro (bx_drop nd 0) hm))
    · refine sgy (some 19) (Value.pointer r2.1) rfl rfl (by exact wFF rfl rfl hc26) (y_move rfl) ?_
      refine sgy (some 20) (Value.bool (r2.1.isNone)) rfl rfl (by exact wFF rfl rfl hc26) (y_eqP Try.underlying26 rfl rfl) ?_
      refine sgy (some 21) (Value.bool (r2.1.isNone)) rfl rfl rfl (y_pickF rfl hc26 rfl) ?_
      exact Exists.intro (r2.1.isNone) (And.intro (And.intro rfl trivial) (And.intro (bx_drop nd 0) hm))
  · refine cw_ifm hm rfl (fun hc6 hm => ?_) (fun hc6 hm => ?_)
    · refine cw_seq ?_
      refine cw_reg (l := [0]) rfl rfl ?_
      refine sgy (some 0) (Value.bool false) rfl rfl rfl (y_assign rfl) ?_
      refine drop.of ?_
      refine cw_ret ?_
      refine out_one [(Value.bool false)] (e_law04_known false) Try.results14 ?_ rfl ?_
      · exact (And.intro (rfl) trivial)
      · exact Exists.intro false (And.intro rfl hm)
    · refine cw_skip ?_
      refine drop.of ?_
      refine cw_seq ?_
      refine cw_reg (l := [0, 1, 2, 3, 4, 5, 6, 7]) rfl rfl ?_
      refine sgy (some 23) (Value.pointer r2.1) rfl rfl rfl (y_move rfl) ?_
      refine sg rfl rfl (v_call (c_draws_Draws_Draw hm) callee15 rfl (fun v h hm => ?_))
      obtain ⟨r7, rfl, hm⟩ := hm
      refine sgy (some 22) (Value.tuple #[(S_api_Word.val r7.1), (Value.int .i64 r7.2)]) rfl rfl rfl (y_move rfl) ?_
      refine sgy (some 25) (S_api_Word.val r7.1) rfl rfl rfl (y_extract rfl rfl) ?_
      refine sgy (some 26) (Value.int .i64 r7.2) rfl rfl rfl (y_extract rfl rfl) ?_
      refine sg rfl rfl (b_alloc nd i25 rfl (c := #[(Value.int .u64 0), (Value.int .u64 0)]) rfl (fun b9 nd => ?_))
      refine sg rfl rfl (b_store 0 nd rfl rfl rfl i25 rfl rfl rfl (c' := #[(Value.int .u64 r7.1.Hi), (Value.int .u64 r7.1.Lo)]) rfl (fun nd => ?_))
      refine sgy (some 4) (Value.int .i64 r7.2) rfl rfl rfl (y_assign rfl) ?_
      refine drop.of ?_
      refine cw_seq ?_
      refine cw_reg (l := [0, 1, 2, 3, 4, 5, 6, 7]) rfl rfl ?_
      refine sgy (some 28) (Value.pointer r2.1) rfl rfl rfl (y_move rfl) ?_
      refine sg rfl rfl (v_call (c_draws_Draws_Draw hm) callee15 rfl (fun v h hm => ?_))
      obtain ⟨r10, rfl, hm⟩ := hm
      refine sgy (some 27) (Value.tuple #[(S_api_Word.val r10.1), (Value.int .i64 r10.2)]) rfl rfl rfl (y_move rfl) ?_
      refine sgy (some 30) (S_api_Word.val r10.1) rfl rfl rfl (y_extract rfl rfl) ?_
      refine sgy (some 31) (Value.int .i64 r10.2) rfl rfl rfl (y_extract rfl rfl) ?_
      refine sg rfl rfl (b_alloc nd i25 rfl (c := #[(Value.int .u64 0), (Value.int .u64 0)]) rfl (fun b12 nd => ?_))
      refine sg rfl rfl (b_store 0 nd rfl rfl rfl i25 rfl rfl rfl (c' := #[(Value.int .u64 r10.1.Hi), (Value.int .u64 r10.1.Lo)]) rfl (fun nd => ?_))
      refine sgy (some 6) (Value.int .i64 r10.2) rfl rfl rfl (y_assign rfl) ?_
      refine drop.of ?_
      refine cw_seq ?_
      refine cw_reg (l := [0, 1, 2, 3, 4, 5, 6, 7]) rfl rfl ?_
      refine sgy (some 33) (Value.pointer r2.1) rfl rfl rfl (y_move rfl) ?_
      refine sg rfl rfl (v_call (c_draws_Draws_Draw hm) callee15 rfl (fun v h hm => ?_))
      obtain ⟨r13, rfl, hm⟩ := hm
      refine sgy (some 32) (Value.tuple #[(S_api_Word.val r13.1), (Value.int .i64 r13.2)]) rfl rfl rfl (y_move rfl) ?_
      refine sgy (some 35) (S_api_Word.val r13.1) rfl rfl rfl (y_extract rfl rfl) ?_
      refine sgy (some 36) (Value.int .i64 r13.2) rfl rfl rfl (y_extract rfl rfl) ?_
      refine sg rfl rfl (b_alloc nd i25 rfl (c := #[(Value.int .u64 0), (Value.int .u64 0)]) rfl (fun b15 nd => ?_))
      refine sg rfl rfl (b_store 0 nd rfl rfl rfl i25 rfl rfl rfl (c' := #[(Value.int .u64 r13.1.Hi), (Value.int .u64 r13.1.Lo)]) rfl (fun nd => ?_))
      refine sgy (some 8) (Value.int .i64 r13.2) rfl rfl rfl (y_assign rfl) ?_
      refine drop.of ?_
      refine cw_seq ?_
      refine cw_reg (l := [0, 1, 2, 3, 4, 5, 6, 7, 8, 9, 10, 11, 12, 13, 14, 15, 16, 17, 18, 19, 20, 21, 22, 23, 24, 25, 26, 27, 28, 29, 30]) rfl rfl ?_
      refine sgy (some 37) (Value.int .i64 r7.2) rfl rfl rfl (y_move rfl) ?_
      refine sgy (some 38) (Value.bool (decide (r7.2 = 0))) rfl rfl rfl (y_bin rfl rfl rfl) ?_
      refine sgy (some 39) (Value.bool (decide (r7.2 = 0))) rfl rfl rfl (y_move rfl) ?_
      refine mIf_elim hm (fun hc16 hm => ?_) (fun hc16 hm => ?_)
      · refine sgr (some 40) (S_api_Word.val r7.1) rfl rfl (by exact wTT rfl rfl hc16) (r_loadA 2 nd rfl rfl Try.underlying25 rfl i25 rfl) ?_
        refine sgy (some 41) (S_api_Word.val (⟨0, 44⟩ : S_api_Word)) rfl rfl (by exact wTT rfl rfl hc16) (y_build Try.underlying25 i25 rfl (sizes_cons i23 (sizes_cons i23 sizes_nil)) rfl (cs := #[(Value.int .u64 0), (Value.int .u64 44)]) rfl) ?_
        refine sgy (some 42) (Value.bool ((decide (r7.1.Hi = 0)) && ((decide (r7.1.Lo = 44)) && true))) rfl rfl (by exact wTT rfl rfl hc16) (y_eqA (n := 2) Try.eqGuardType25 rfl rfl (eq_struct (n := 1) Try.underlying25 Try.stoodInHeld25 (efs_cons rfl (part_one Try.underlying23 rfl rfl) (part_one Try.underlying23 rfl rfl) (eq_int Try.underlying23) rfl (efs_cons rfl (part_one Try.underlying23 rfl rfl) (part_one Try.underlying23 rfl rfl) (eq_int Try.underlying23) rfl efs_nil))) rfl) ?_
        refine sgy (some 43) (Value.bool ((decide (r7.1.Hi = 0)) && ((decide (r7.1.Lo = 44)) && true))) rfl rfl rfl (y_pickT rfl hc16 rfl) ?_
        refine sgy (some 44) (Value.bool ((decide (r7.1.Hi = 0)) && ((decide (r7.1.Lo = 44)) && true))) rfl rfl rfl (y_move rfl) ?_
        refine mIf_elim hm (fun hc17 hm => ?_) (fun hc17 hm => ?_)
        · refine sgy (some 45) (Value.int .i64 r10.2) rfl rfl (by exact wTT rfl rfl hc17) (y_move rfl) ?_
          refine sgy (some 46) (Value.bool (decide (r10.2 = 0))) rfl rfl (by exact wTT rfl rfl hc17) (y_bin rfl rfl rfl) ?_
          refine sgy (some 47) (Value.bool (decide (r10.2 = 0))) rfl rfl rfl (y_pickT rfl hc17 rfl) ?_
          refine sgy (some 48) (Value.bool (decide (r10.2 = 0))) rfl rfl rfl (y_move rfl) ?_
          refine mIf_elim hm (fun hc18 hm => ?_) (fun hc18 hm => ?_)
          · refine sgr (some 49) (S_api_Word.val r10.1) rfl rfl (by exact wTT rfl rfl hc18) (r_loadA 1 nd rfl rfl Try.underlying25 rfl i25 rfl) ?_
            refine sgy (some 50) (S_api_Word.val (⟨0, 1⟩ : S_api_Word)) rfl rfl (by exact wTT rfl rfl hc18) (y_build Try.underlying25 i25 rfl (sizes_cons i23 (sizes_cons i23 sizes_nil)) rfl (cs := #[(Value.int .u64 0), (Value.int .u64 1)]) rfl) ?_
            refine sgy (some 51) (Value.bool ((decide (r10.1.Hi = 0)) && ((decide (r10.1.Lo = 1)) && true))) rfl rfl (by exact wTT rfl rfl hc18) (y_eqA (n := 2) Try.eqGuardType25 rfl rfl (eq_struct (n := 1) Try.underlying25 Try.stoodInHeld25 (efs_cons rfl (part_one Try.underlying23 rfl rfl) (part_one Try.underlying23 rfl rfl) (eq_int Try.underlying23) rfl (efs_cons rfl (part_one Try.underlying23 rfl rfl) (part_one Try.underlying23 rfl rfl) (eq_int Try.underlying23) rfl efs_nil))) rfl) ?_
            refine sgy (some 52) (Value.bool ((decide (r10.1.Hi = 0)) && ((decide (r10.1.Lo = 1)) && true))) rfl rfl rfl (y_pickT rfl hc18 rfl) ?_
            refine sgy (some 53) (Value.bool ((decide (r10.1.Hi = 0)) && ((decide (r10.1.Lo = 1)) && true))) rfl rfl rfl (y_move rfl) ?_
            refine mIf_elim hm (fun hc19 hm => ?_) (fun hc19 hm => ?_)
            · refine sgy (some 54) (Value.int .i64 r13.2) rfl rfl (by exact wTT rfl rfl hc19) (y_move rfl) ?_
              refine sgy (some 55) (Value.bool (decide (r13.2 = 11))) rfl rfl (by exact wTT rfl rfl hc19) (y_bin rfl rfl rfl) ?_
              refine sgy (some 56) (Value.bool (decide (r13.2 = 11))) rfl rfl rfl (y_pickT rfl hc19 rfl) ?_
              refine sgy (some 57) (Value.bool (decide (r13.2 = 11))) rfl rfl rfl (y_move rfl) ?_
              refine mIf_elim hm (fun hc20 hm => ?_) (fun hc20 hm => ?_)
              · refine sgy (some 58) (Value.pointer r2.1) rfl rfl (by exact wTT rfl rfl hc20) (y_move rfl) ?_
                refine sg rfl (by exact wTT rfl rfl hc20) (v_call (c_draws_Draws_Taken hm) callee16 rfl (fun v h hm => ?_))
                obtain ⟨r21, rfl, hm⟩ := hm
                refine sgy (some 60) (Value.bool (decide (r21 = 2))) rfl rfl (by exact wTT rfl rfl hc20) (y_bin rfl rfl rfl) ?_
                refine sgy (some 61) (Value.bool (decide (r21 = 2))) rfl rfl rfl (y_pickT rfl hc20 rfl) ?_
                refine sgy (some 62) (Value.bool (decide (r21 = 2))) rfl rfl rfl (y_move rfl) ?_
                refine mIf_elim hm (fun hc23 hm => ?_) (fun hc23 hm => ?_)
                · refine sgy (some 63) (Value.pointer r2.1) rfl rfl (by exact wTT rfl rfl hc23) (y_move rfl) ?_
                  refine sg rfl (by exact wTT rfl rfl hc23) (v_call (c_draws_Draws_Left hm) callee17 rfl (fun v h hm => ?_))
                  obtain ⟨r24, rfl, hm⟩ := hm
                  refine sgy (some 65) (Value.bool (decide (r24 = 0))) rfl rfl (by exact wTT rfl rfl hc23) (y_bin rfl rfl rfl) ?_
                  refine sgy (some 66) (Value.bool (decide (r24 = 0))) rfl rfl rfl (y_pickT rfl hc23 rfl) ?_
                  refine sgy (some 0) (Value.bool (decide (r24 = 0))) rfl rfl rfl (y_assign rfl) ?_
                  refine drop.of ?_
                  refine cw_ret ?_
                  refine out_one [(Value.bool (decide (r24 = 0)))] (e_law04_known (decide (r24 = 0))) Try.results14 ?_ rfl ?_
                  · exact (And.intro (rfl) trivial)
                  · exact Exists.intro (decide (r24 = 0)) (And.intro rfl hm)
                · refine sgn (some 63) rfl rfl (by exact wTF rfl rfl hc23) ?_
                  refine sgn (some 64) rfl rfl (by exact wTF rfl rfl hc23) ?_
                  refine sgn (some 65) rfl rfl (by exact wTF rfl rfl hc23) ?_
                  refine sgy (some 66) (Value.bool false) rfl rfl rfl (y_pickF rfl hc23 rfl) ?_
                  refine sgy (some 0) (Value.bool false) rfl rfl rfl (y_assign rfl) ?_
                  refine drop.of ?_
                  refine cw_ret ?_
                  refine out_one [(Value.bool false)] (e_law04_known false) Try.results14 ?_ rfl ?_
                  · exact (And.intro (rfl) trivial)
                  · exact Exists.intro false (And.intro rfl hm)
              · refine sgn (some 58) rfl rfl (by exact wTF rfl rfl hc20) ?_
                refine sgn (some 59) rfl rfl (by exact wTF rfl rfl hc20) ?_
                refine sgn (some 60) rfl rfl (by exact wTF rfl rfl hc20) ?_
                refine sgy (some 61) (Value.bool false) rfl rfl rfl (y_pickF rfl hc20 rfl) ?_
                refine sgy (some 62) (Value.bool false) rfl rfl rfl (y_move rfl) ?_
                refine sgn (some 63) rfl rfl rfl ?_
                refine sgn (some 64) rfl rfl rfl ?_
                refine sgn (some 65) rfl rfl rfl ?_
                refine sgy (some 66) (Value.bool false) rfl rfl rfl (y_pickF rfl rfl rfl) ?_
                refine sgy (some 0) (Value.bool false) rfl rfl rfl (y_assign rfl) ?_
                refine drop.of ?_
                refine cw_ret ?_
                refine out_one [(Value.bool false)] (e_law04_known false) Try.results14 ?_ rfl ?_
                · exact (And.intro (rfl) trivial)
                · exact Exists.intro false (And.intro rfl hm)
            · refine sgn (some 54) rfl rfl (by exact wTF rfl rfl hc19) ?_
              refine sgn (some 55) rfl rfl (by exact wTF rfl rfl hc19) ?_
              refine sgy (some 56) (Value.bool false) rfl rfl rfl (y_pickF rfl hc19 rfl) ?_
              refine sgy (some 57) (Value.bool false) rfl rfl rfl (y_move rfl) ?_
              refine sgn (some 58) rfl rfl rfl ?_
              refine sgn (some 59) rfl rfl rfl ?_
              refine sgn (some 60) rfl rfl rfl ?_
              refine sgy (some 61) (Value.bool false) rfl rfl rfl (y_pickF rfl rfl rfl) ?_
              refine sgy (some 62) (Value.bool false) rfl rfl rfl (y_move rfl) ?_
              refine sgn (some 63) rfl rfl rfl ?_
              refine sgn (some 64) rfl rfl rfl ?_
              refine sgn (some 65) rfl rfl rfl ?_
              refine sgy (some 66) (Value.bool false) rfl rfl rfl (y_pickF rfl rfl rfl) ?_
              refine sgy (some 0) (Value.bool false) rfl rfl rfl (y_assign rfl) ?_
              refine drop.of ?_
              refine cw_ret ?_
              refine out_one [(Value.bool false)] (e_law04_known false) Try.results14 ?_ rfl ?_
              · exact (And.intro (rfl) trivial)
              · exact Exists.intro false (And.intro rfl hm)
          · refine sgn (some 49) rfl rfl (by exact wTF rfl rfl hc18) ?_
            refine sgn (some 50) rfl rfl (by exact wTF rfl rfl hc18) ?_
            refine sgn (some 51) rfl rfl (by exact wTF rfl rfl hc18) ?_
            refine sgy (some 52) (Value.bool false) rfl rfl rfl (y_pickF rfl hc18 rfl) ?_
            refine sgy (some 53) (Value.bool false) rfl rfl rfl (y_move rfl) ?_
            refine sgn (some 54) rfl rfl rfl ?_
            refine sgn (some 55) rfl rfl rfl ?_
            refine sgy (some 56) (Value.bool false) rfl rfl rfl (y_pickF rfl rfl rfl) ?_
            refine sgy (some 57) (Value.bool false) rfl rfl rfl (y_move rfl) ?_
            refine sgn (some 58) rfl rfl rfl ?_
            refine sgn (some 59) rfl rfl rfl ?_
            refine sgn (some 60) rfl rfl rfl ?_
            refine sgy (some 61) (Value.bool false) rfl rfl rfl (y_pickF rfl rfl rfl) ?_
            refine sgy (some 62) (Value.bool false) rfl rfl rfl (y_move rfl) ?_
            refine sgn (some 63) rfl rfl rfl ?_
            refine sgn (some 64) rfl rfl rfl ?_
            refine sgn (some 65) rfl rfl rfl ?_
            refine sgy (some 66) (Value.bool false) rfl rfl rfl (y_pickF rfl rfl rfl) ?_
            refine sgy (some 0) (Value.bool false) rfl rfl rfl (y_assign rfl) ?_
            refine drop.of ?_
            refine cw_ret ?_
            refine out_one [(Value.bool false)] (e_law04_known false) Try.results14 ?_ rfl ?_
            · exact (And.intro (rfl) trivial)
            · exact Exists.intro false (And.intro rfl hm)
        · refine sgn (some 45) rfl rfl (by exact wTF rfl rfl hc17) ?_
          refine sgn (some 46) rfl rfl (by exact wTF rfl rfl hc17) ?_
          refine sgy (some 47) (Value.bool false) rfl rfl rfl (y_pickF rfl hc17 rfl) ?_
          refine sgy (some 48) (Value.bool false) rfl rfl rfl (y_move rfl) ?_
          refine sgn (some 49) rfl rfl rfl ?_
          refine sgn (some 50) rfl rfl rfl ?_
          refine sgn (some 51) rfl rfl rfl ?_
          refine sgy (some 52) (Value.bool false) rfl rfl rfl (y_pickF rfl rfl rfl) ?_
          refine sgy (some 53) (Value.bool false) rfl rfl rfl (y_move rfl) ?_
          refine sgn (some 54) rfl rfl rfl ?_
          refine sgn (some 55) rfl rfl rfl ?_
          refine sgy (some 56) (Value.bool false) rfl rfl rfl (y_pickF rfl rfl rfl) ?_
          refine sgy (some 57) (Value.bool false) rfl rfl rfl (y_move rfl) ?_
          refine sgn (some 58) rfl rfl rfl ?_
          refine sgn (some 59) rfl rfl rfl ?_
          refine sgn (some 60) rfl rfl rfl ?_
          refine sgy (some 61) (Value.bool false) rfl rfl rfl (y_pickF rfl rfl rfl) ?_
          refine sgy (some 62) (Value.bool false) rfl rfl rfl (y_move rfl) ?_
          refine sgn (some 63) rfl rfl rfl ?_
          refine sgn (some 64) rfl rfl rfl ?_
          refine sgn (some 65) rfl rfl rfl ?_
          refine sgy (some 66) (Value.bool false) rfl rfl rfl (y_pickF rfl rfl rfl) ?_
          refine sgy (some 0) (Value.bool false) rfl rfl rfl (y_assign rfl) ?_
          refine drop.of ?_
          refine cw_ret ?_
          refine out_one [(Value.bool false)] (e_law04_known false) Try.results14 ?_ rfl ?_
          · exact (And.intro (rfl) trivial)
          · exact Exists.intro false (And.intro rfl hm)
      · refine sgn (some 40) rfl rfl (by exact wTF rfl rfl hc16) ?_
        refine sgn (some 41) rfl rfl (by exact wTF rfl rfl hc16) ?_
        refine sgn (some 42) rfl rfl (by exact wTF rfl rfl hc16) ?_
        refine sgy (some 43) (Value.bool false) rfl rfl rfl (y_pickF rfl hc16 rfl) ?_
        refine sgy (some 44) (Value.bool false) rfl rfl rfl (y_move rfl) ?_
        refine sgn (some 45) rfl rfl rfl ?_
        refine sgn (some 46) rfl rfl rfl ?_
        refine sgy (some 47) (Value.bool false) rfl rfl rfl (y_pickF rfl rfl rfl) ?_
        refine sgy (some 48) (Value.bool false) rfl rfl rfl (y_move rfl) ?_
        refine sgn (some 49) rfl rfl rfl ?_
        refine sgn (some 50) rfl rfl rfl ?_
        refine sgn (some 51) rfl rfl rfl ?_
        refine sgy (some 52) (Value.bool false) rfl rfl rfl (y_pickF rfl rfl rfl) ?_
        refine sgy (some 53) (Value.bool false) rfl rfl rfl (y_move rfl) ?_
        refine sgn (some 54) rfl rfl rfl ?_
        refine sgn (some 55) rfl rfl rfl ?_
        refine sgy (some 56) (Value.bool false) rfl rfl rfl (y_pickF rfl rfl rfl) ?_
        refine sgy (some 57) (Value.bool false) rfl rfl rfl (y_move rfl) ?_
        refine sgn (some 58) rfl rfl rfl ?_
        refine sgn (some 59) rfl rfl rfl ?_
        refine sgn (some 60) rfl rfl rfl ?_
        refine sgy (some 61) (Value.bool false) rfl rfl rfl (y_pickF rfl rfl rfl) ?_
        refine sgy (some 62) (Value.bool false) rfl rfl rfl (y_move rfl) ?_
        refine sgn (some 63) rfl rfl rfl ?_
        refine sgn (some 64) rfl rfl rfl ?_
        refine sgn (some 65) rfl rfl rfl ?_
        refine sgy (some 66) (Value.bool false) rfl rfl rfl (y_pickF rfl rfl rfl) ?_
        refine sgy (some 0) (Value.bool false) rfl rfl rfl (y_assign rfl) ?_
        refine drop.of ?_
        refine cw_ret ?_
        refine out_one [(Value.bool false)] (e_law04_known false) Try.results14 ?_ rfl ?_
        · exact (And.intro (rfl) trivial)
        · exact Exists.intro false (And.intro rfl hm)
/-! sesame/sesamelaw04.cut -/
def e_law04_cut : S_api_Word → Value := fun r => (S_api_Word.val r)
def m_law04_cut (a0 : S_api_Word) (a1 : Int) (K : (S_api_Word) → H → Prop) : H → Prop :=
  mIf (decide (a1 < 64)) (
    mNN a1 <|
    K (⟨0, (iAnd .u64 a0.Lo (iSub .u64 (iShl .u64 1 a1) 1))⟩ : S_api_Word)
    ) (
    mIf (decide (a1 < 128)) (
      mNN (iSub .i64 a1 64) <|
      K (⟨(iAnd .u64 a0.Hi (iSub .u64 (iShl .u64 1 (iSub .i64 a1 64)) 1)), a0.Lo⟩ : S_api_Word)
      ) (
      K a0
      )
    )
set_option maxRecDepth 100000 in
set_option maxHeartbeats 8000000 in
theorem c_law04_cut {a0 : S_api_Word} {a1 : Int} {K : (S_api_Word) → H → Prop} {h : H} (hm : m_law04_cut a0 a1 K h) : ACall Try.prog 18 #[(S_api_Word.val a0), (Value.int .i64 a1)] h (fun v h' => ∃ r, v = e_law04_cut r ∧ K r h') noP := by
  unfold m_law04_cut at hm
  have nd : (([] : List (Nat × Obj)).map Prod.fst).Nodup := List.nodup_nil
  refine cw_func Try.func18 rfl rfl ?_
  refine cw_seq ?_
  refine cw_reg (l := [0, 1]) rfl rfl ?_
  refine sg rfl rfl (b_box nd (c := #[(Value.int .u64 a0.Hi), (Value.int .u64 a0.Lo)]) rfl (fun b1 nd => ?_))
  refine sg rfl rfl (b_alloc nd i25 rfl (c := #[(Value.int .u64 0), (Value.int .u64 0)]) rfl (fun b2 nd => ?_))
  refine drop.of ?_
  refine cw_seq ?_
  refine cw_seq ?_
  refine cw_reg (l := [0, 1]) rfl rfl ?_
  refine sgy (some 5) (Value.int .i64 a1) rfl rfl rfl (y_move rfl) ?_
  refine sgy (some 6) (Value.bool (decide (a1 < 64))) rfl rfl rfl (y_bin rfl rfl rfl) ?_
  refine drop.of ?_
  refine cw_ifm hm rfl (fun hc3 hm => ?_) (fun hc3 hm => ?_)
  · refine cw_seq ?_
    refine cw_draw mixed rfl ?_
    refine tyy 0 (some 7) (Value.pointer (some ⟨b1, 1, none⟩)) rfl rfl (by kernel_rfl) (by kernel_rfl) (by kernel_rfl) rfl (yv (y_fieldAddr rfl Try.underlying25 rfl i23 rfl) rfl) ?_
    refine tyy 2 (some 9) (Value.int .i64 a1) rfl rfl (by kernel_rfl) (by kernel_rfl) (by kernel_rfl) rfl (y_move rfl) ?_
    obtain ⟨hq4, hm⟩ := hm
    refine tyy 3 (some 10) (Value.int .u64 (iShl .u64 1 a1)) rfl rfl (by kernel_rfl) (by kernel_rfl) (by kernel_rfl) rfl (y_shl rfl rfl hq4) ?_
    refine tyy 4 (some 11) (Value.int .u64 (iSub .u64 (iShl .u64 1 a1) 1)) rfl rfl (by kernel_rfl) (by kernel_rfl) (by kernel_rfl) rfl (y_bin rfl rfl rfl) ?_
    refine trr 1 (some 8) (Value.int .u64 a0.Lo) rfl rfl (by kernel_rfl) (by kernel_rfl) (by kernel_rfl) rfl (r_load 1 nd rfl rfl Try.underlying23 rfl rfl) ?_
    refine tyy 5 (some 12) (Value.int .u64 (iAnd .u64 a0.Lo (iSub .u64 (iShl .u64 1 a1) 1))) rfl rfl (by kernel_rfl) (by kernel_rfl) (by kernel_rfl) rfl (y_bin rfl rfl rfl) ?_
    refine tyy 6 (some 13) (S_api_Word.val (⟨0, (iAnd .u64 a0.Lo (iSub .u64 (iShl .u64 1 a1) 1))⟩ : S_api_Word)) rfl rfl (by kernel_rfl) (by kernel_rfl) (by kernel_rfl) rfl (y_build Try.underlying25 i25 rfl (sizes_cons i23 (sizes_cons i23 sizes_nil)) rfl (cs := #[(Value.int .u64 0), (Value.int .u64 (iAnd .u64 a0.Lo (iSub .u64 (iShl .u64 1 a1) 1)))]) rfl) ?_
    refine t1 7 rfl (by kernel_rfl) rfl (b_store 0 nd rfl rfl rfl i25 rfl rfl rfl (c' := #[(Value.int .u64 0), (Value.int .u64 (iAnd .u64 a0.Lo (iSub .u64 (iShl .u64 1 a1) 1)))]) rfl (fun nd => ?_))
    refine td (by kernel_rfl) ?_
    refine drop.of ?_
    refine cw_ret ?_
    refine out_one [(S_api_Word.val (⟨0, (iAnd .u64 a0.Lo (iSub .u64 (iShl .u64 1 a1) 1))⟩ : S_api_Word))] (e_law04_cut (⟨0, (iAnd .u64 a0.Lo (iSub .u64 (iShl .u64 1 a1) 1))⟩ : S_api_Word)) Try.results18 ?_ rfl ?_
    · exact (And.intro (⟨_, rfl, res_box 0 nd rfl Try.underlying25 rfl i25 rfl⟩) trivial)
    · exact Exists.intro (⟨0, (iAnd .u64 a0.Lo (iSub .u64 (iShl .u64 1 a1) 1))⟩ : S_api_Word) (And.intro rfl hm)
  · refine cw_skip ?_
    refine drop.of ?_
    refine cw_seq ?_
    refine cw_seq ?_
    refine cw_reg (l := [0, 1]) rfl rfl ?_
    refine sgy (some 14) (Value.int .i64 a1) rfl rfl rfl (y_move rfl) ?_
    refine sgy (some 15) (Value.bool (decide (a1 < 128))) rfl rfl rfl (y_bin rfl rfl rfl) ?_
    refine drop.of ?_
    refine cw_ifm hm rfl (fun hc5 hm => ?_) (fun hc5 hm => ?_)
    · refine cw_seq ?_
      refine cw_draw mixed rfl ?_
      refine tyy 0 (some 16) (Value.pointer (some ⟨b1, 0, none⟩)) rfl rfl (by kernel_rfl) (by kernel_rfl) (by kernel_rfl) rfl (yv (y_fieldAddr rfl Try.underlying25 rfl i23 rfl) rfl) ?_
      refine tyy 2 (some 18) (Value.int .i64 a1) rfl rfl (by kernel_rfl) (by kernel_rfl) (by kernel_rfl) rfl (y_move rfl) ?_
      refine tyy 3 (some 19) (Value.int .i64 (iSub .i64 a1 64)) rfl rfl (by kernel_rfl) (by kernel_rfl) (by kernel_rfl) rfl (y_bin rfl rfl rfl) ?_
      obtain ⟨hq6, hm⟩ := hm
      refine tyy 4 (some 20) (Value.int .u64 (iShl .u64 1 (iSub .i64 a1 64))) rfl rfl (by kernel_rfl) (by kernel_rfl) (by kernel_rfl) rfl (y_shl rfl rfl hq6) ?_
      refine tyy 5 (some 21) (Value.int .u64 (iSub .u64 (iShl .u64 1 (iSub .i64 a1 64)) 1)) rfl rfl (by kernel_rfl) (by kernel_rfl) (by kernel_rfl) rfl (y_bin rfl rfl rfl) ?_
      refine tyy 7 (some 23) (Value.pointer (some ⟨b1, 1, none⟩)) rfl rfl (by kernel_rfl) (by kernel_rfl) (by kernel_rfl) rfl (yv (y_fieldAddr rfl Try.underlying25 rfl i23 rfl) rfl) ?_
      refine trr 1 (some 17) (Value.int .u64 a0.Hi) rfl rfl (by kernel_rfl) (by kernel_rfl) (by kernel_rfl) rfl (r_load 1 nd rfl rfl Try.underlying23 rfl rfl) ?_
      refine tyy 6 (some 22) (Value.int .u64 (iAnd .u64 a0.Hi (iSub .u64 (iShl .u64 1 (iSub .i64 a1 64)) 1))) rfl rfl (by kernel_rfl) (by kernel_rfl) (by kernel_rfl) rfl (y_bin rfl rfl rfl) ?_
      refine trr 8 (some 24) (Value.int .u64 a0.Lo) rfl rfl (by kernel_rfl) (by kernel_rfl) (by kernel_rfl) rfl (r_load 1 nd rfl rfl Try.underlying23 rfl rfl) ?_
      refine tyy 9 (some 25) (S_api_Word.val (⟨(iAnd .u64 a0.Hi (iSub .u64 (iShl .u64 1 (iSub .i64 a1 64)) 1)), a0.Lo⟩ : S_api_Word)) rfl rfl (by kernel_rfl) (by kernel_rfl) (by kernel_rfl) rfl (y_build Try.underlying25 i25 rfl (sizes_cons i23 (sizes_cons i23 sizes_nil)) rfl (cs := #[(Value.int .u64 (iAnd .u64 a0.Hi (iSub .u64 (iShl .u64 1 (iSub .i64 a1 64)) 1))), (Value.int .u64 a0.Lo)]) rfl) ?_
      refine t1 10 rfl (by kernel_rfl) rfl (b_store 0 nd rfl rfl rfl i25 rfl rfl rfl (c' := #[(Value.int .u64 (iAnd .u64 a0.Hi (iSub .u64 (iShl .u64 1 (iSub .i64 a1 64)) 1))), (Value.int .u64 a0.Lo)]) rfl (fun nd => ?_))
      refine td (by kernel_rfl) ?_
      refine drop.of ?_
      refine cw_ret ?_
      refine out_one [(S_api_Word.val (⟨(iAnd .u64 a0.Hi (iSub .u64 (iShl .u64 1 (iSub .i64 a1 64)) 1)), a0.Lo⟩ : S_api_Word))] (e_law04_cut (⟨(iAnd .u64 a0.Hi (iSub .u64 (iShl .u64 1 (iSub .i64 a1 64)) 1)), a0.Lo⟩ : S_api_Word)) Try.results18 ?_ rfl ?_
      · exact (And.intro (⟨_, rfl, res_box 0 nd rfl Try.underlying25 rfl i25 rfl⟩) trivial)
      · exact Exists.intro (⟨(iAnd .u64 a0.Hi (iSub .u64 (iShl .u64 1 (iSub .i64 a1 64)) 1)), a0.Lo⟩ : S_api_Word) (And.intro rfl hm)
    · refine cw_skip ?_
      refine drop.of ?_
      refine cw_seq ?_
      refine cw_reg (l := [0, 1]) rfl rfl ?_
      refine sgr (some 26) (S_api_Word.val a0) rfl rfl rfl (r_loadA 1 nd rfl rfl Try.underlying25 rfl i25 rfl) ?_
      refine sg rfl rfl (b_store 0 nd rfl rfl rfl i25 rfl rfl rfl (c' := #[(Value.int .u64 a0.Hi), (Value.int .u64 a0.Lo)]) rfl (fun nd => ?_))
      refine drop.of ?_
      refine cw_ret ?_
      refine out_one [(S_api_Word.val a0)] (e_law04_cut a0) Try.results18 ?_ rfl ?_
      · exact (And.intro (⟨_, rfl, res_box 0 nd rfl Try.underlying25 rfl i25 rfl⟩) trivial)
      · exact Exists.intro a0 (And.intro rfl hm)
end Go.Proofs.Ytnmaknkbdfpbkaa.K
