/- Functions of the program, printed by a program of mine: law13_IssueDraws, law13_among -/
import Derived.Test.YtnmaknkbdfpbkaaT
import Derived.Test.YtnmaknkbdfpbkaaFdraws
import Derived.Test.YtnmaknkbdfpbkaaFissue
import Derived.Test.YtnmaknkbdfpbkaaFlaw13
import Derived.Test.YtnmaknkbdfpbkaaFref04
import Derived.Test.YtnmaknkbdfpbkaaFref13
namespace Go.Proofs.Ytnmaknkbdfpbkaa.K
open Go Go.Proofs
/-! sesame/sesamelaw13.IssueDraws -/
def e_law13_IssueDraws : Bool → Value := fun r => (Value.bool r)
def m_law13_IssueDraws (a0 : Sl) (a1 : Int) (a2 : Sl) (K : (Bool) → H → Prop) : H → Prop :=
  m_ref04_New a0 a1 fun r1 =>
  m_draws_New a0 a1 fun r3 =>
  mJoin (fun (s5 : Bool) =>
    mIf s5 (
      K false
      ) (
      mLoop (fun (rec9 : Int → H → Prop) (s8 : Int) =>
        mJoin (fun (s10 : Bool) =>
          mIf s10 (
            mIdx a2 s8 2 fun a13 =>
            mLoad (cInt .i64) (a13.add 1) fun x15 =>
            m_draws_Draws_Skip r3.1 x15 fun r16 =>
            mIdx a2 s8 2 fun a18 =>
            mLoad (cInt .i64) (a18.add 1) fun x20 =>
            m_ref04_Draws_Skip r1.1 x20 fun r21 =>
            mIdx a2 s8 2 fun a23 =>
            mLoad cSl (a23.add 0) fun x25 =>
            m_ref13_Draw r1.1 x25 fun r26 =>
            mIdx a2 s8 2 fun a29 =>
            mLoad cSl (a29.add 0) fun x31 =>
            m_issue_Draw r3.1 x31 fun r32 =>
            mJoin (fun (s35 : Bool) =>
              mIf s35 (
                K false
                ) (
                rec9 (iAdd .i64 s8 1)
                )
              ) (fun j36 =>
              mIf (!((decide (r32.1.Hi = r26.1.Hi)) && ((decide (r32.1.Lo = r26.1.Lo)) && true))) (
                j36 true
                ) (
                mIf (!decide (r32.2 = r26.2)) (
                  j36 true
                  ) (
                  m_draws_Draws_Taken r3.1 fun r40 =>
                  m_ref04_Draws_Taken r1.1 fun r42 =>
                  j36 (!decide (r40 = r42))
                  )
                )
              )
            ) (
            K true
            )
          ) (fun j11 =>
          mIf (decide (s8 < (a2.len : Int))) (
            j11 (decide (r1.2 = 0))
            ) (
            j11 false
            )
          )
        ) 0
      )
    ) (fun j6 =>
    m_law13_known fun r45 =>
    mIf (!r45) (
      j6 true
      ) (
      mIf (!decide (r3.2 = r1.2)) (
        j6 true
        ) (
        j6 (!((r3.1.isNone) == (!decide (r1.2 = 0))))
        )
      )
    )
set_option maxRecDepth 100000 in
set_option maxHeartbeats 8000000 in
theorem c_law13_IssueDraws {a0 : Sl} {a1 : Int} {a2 : Sl} {K : (Bool) → H → Prop} {h : H} (hm : m_law13_IssueDraws a0 a1 a2 K h) : ACall Try.prog 6 #[(Sl.val a0), (Value.int .i64 a1), (Sl.val a2)] h (fun v h' => ∃ r, v = e_law13_IssueDraws r ∧ K r h') noP := by
  unfold m_law13_IssueDraws at hm
  have nd : (([] : List (Nat × Obj)).map Prod.fst).Nodup := List.nodup_nil
  refine cw_func Try.func6 rfl rfl ?_
  refine cw_seq ?_
  refine cw_reg (l := [0]) rfl rfl ?_
  refine sgy (some 6) (Value.bool false) rfl rfl rfl (y_assign rfl) ?_
  refine drop.of ?_
  refine cw_seq ?_
  refine cw_reg (l := [0, 1, 2, 3, 4, 5, 6, 7]) rfl rfl ?_
  refine sgy (some 17) (Sl.val a0) rfl rfl rfl (y_move rfl) ?_
  refine sgy (some 18) (Value.int .i64 a1) rfl rfl rfl (y_move rfl) ?_
  refine sg rfl rfl (v_call (c_ref04_New hm) callee19 rfl (fun v h hm => ?_))
  obtain ⟨r1, rfl, hm⟩ := hm
  refine sgy (some 16) (Value.tuple #[(Value.pointer r1.1), (Value.int .i64 r1.2)]) rfl rfl rfl (y_move rfl) ?_
  refine sgy (some 20) (Value.pointer r1.1) rfl rfl rfl (y_extract rfl rfl) ?_
  refine sgy (some 21) (Value.int .i64 r1.2) rfl rfl rfl (y_extract rfl rfl) ?_
  refine sgy (some 7) (Value.pointer r1.1) rfl rfl rfl (y_assign rfl) ?_
  refine sgy (some 8) (Value.int .i64 r1.2) rfl rfl rfl (y_assign rfl) ?_
  refine drop.of ?_
  refine cw_seq ?_
  refine cw_reg (l := [0, 1, 2, 3, 4, 5, 6, 7]) rfl rfl ?_
  refine sgy (some 23) (Sl.val a0) rfl rfl rfl (y_move rfl) ?_
  refine sgy (some 24) (Value.int .i64 a1) rfl rfl rfl (y_move rfl) ?_
  refine sg rfl rfl (v_call (c_draws_New hm) callee13 rfl (fun v h hm => ?_))
  obtain ⟨r3, rfl, hm⟩ := hm
  refine sgy (some 22) (Value.tuple #[(Value.pointer r3.1), (Value.int .i64 r3.2)]) rfl rfl rfl (y_move rfl) ?_
  refine sgy (some 26) (Value.pointer r3.1) rfl rfl rfl (y_extract rfl rfl) ?_
  refine sgy (some 27) (Value.int .i64 r3.2) rfl rfl rfl (y_extract rfl rfl) ?_
  refine sgy (some 9) (Value.pointer r3.1) rfl rfl rfl (y_assign rfl) ?_
  refine sgy (some 10) (Value.int .i64 r3.2) rfl rfl rfl (y_assign rfl) ?_
  refine drop.of ?_
  refine cw_seq ?_
  refine cw_joinM hm [28, 29, 30, 31, 32, 33, 34, 35, 36, 37, 38, 39, 40, 41] (fun s5 => [(41, (Value.bool s5))]) (fun s5 => []) rfl (fun _ => nd) (fun hm => ?_) (fun s5 h junk nd hm => ?_)
  · refine cw_reg (l := [0, 1, 2, 3, 4, 5, 6, 7, 8, 9, 10, 11, 12, 13]) rfl rfl ?_
    refine sg rfl rfl (v_call (c_law13_known hm) callee22 rfl (fun v h hm => ?_))
    obtain ⟨r45, rfl, hm⟩ := hm
    refine sgy (some 29) (Value.bool (!r45)) rfl rfl rfl (y_not rfl) ?_
    refine sgy (some 30) (Value.bool (!r45)) rfl rfl rfl (y_move rfl) ?_
    refine mIf_elim hm (fun hc47 hm => ?_) (fun hc47 hm => ?_)
    · refine sgn (some 31) rfl rfl (by exact wFT rfl rfl hc47) ?_
      refine sgn (some 32) rfl rfl (by exact wFT rfl rfl hc47) ?_
      refine sgn (some 33) rfl rfl (by exact wFT rfl rfl hc47) ?_
      refine sgy (some 34) (Value.bool true) rfl rfl rfl (y_pickT rfl hc47 rfl) ?_
      refine sgy (some 35) (Value.bool true) rfl rfl rfl (y_move rfl) ?_
      refine sgn (some 36) rfl rfl rfl ?_
      refine sgn (some 37) rfl rfl rfl ?_
      refine sgn (some 38) rfl rfl rfl ?_
      refine sgn (some 39) rfl rfl rfl ?_
      refine sgn (some 40) rfl rfl rfl ?_
      refine sgy (some 41) (Value.bool true) rfl rfl rfl (y_pickT rfl rfl rfl) ?_
      exact Exists.intro true (And.intro (And.intro rfl trivial) (And.intro (bx_drop nd 0) hm))
    · refine sgy (some 31) (Value.int .i64 r3.2) rfl rfl (by exact wFF rfl rfl hc47) (y_move rfl) ?_
      refine sgy (some 32) (Value.int .i64 r1.2) rfl rfl (by exact wFF rfl rfl hc47) (y_move rfl) ?_
      refine sgy (some 33) (Value.bool (!decide (r3.2 = r1.2))) rfl rfl (by exact wFF rfl rfl hc47) (y_bin rfl rfl rfl) ?_
      refine sgy (some 34) (Value.bool (!decide (r3.2 = r1.2))) rfl rfl rfl (y_pickF rfl hc47 rfl) ?_
      refine sgy (some 35) (Value.bool (!decide (r3.2 = r1.2))) rfl rfl rfl (y_move rfl) ?_
      refine mIf_elim hm (fun hc48 hm => ?_) (fun hc48 hm => ?_)
      · refine sgn (some 36) rfl rfl (by exact wFT rfl rfl hc48) ?_
        refine sgn (some 37) rfl rfl (by exact wFT rfl rfl hc48) ?_
        refine sgn (some 38) rfl rfl (by exact wFT rfl rfl hc48) ?_
        refine sgn (some 39) rfl rfl (by exact wFT rfl rfl hc48) ?_
        refine sgn (some 40) rfl rfl (by exact wFT rfl rfl hc48) ?_
        refine sgy (some 41) (Value.bool true) rfl rfl rfl (y_pickT rfl hc48 rfl) ?_
        exact Exists.intro true (And.intro (And.intro rfl trivial) (And.intro (bx_drop nd 0) hm))
      · refine sgy (some 36) (Value.pointer r3.1) rfl rfl (by exact wFF rfl rfl hc48) (y_move rfl) ?_
        refine sgy (some 37) (Value.bool (r3.1.isNone)) rfl rfl (by exact wFF rfl rfl hc48) (y_eqP Try.underlying26 rfl rfl) ?_
        refine sgy (some 38) (Value.int .i64 r1.2) rfl rfl (by exact wFF rfl rfl hc48) (y_move rfl) ?_
        refine sgy (some 39) (Value.bool (!decide (r1.2 = 0))) rfl rfl (by exact wFF rfl rfl hc48) (y_bin rfl rfl rfl) ?_
        refine sgy (some 40) (Value.bool (!((r3.1.isNone) == (!decide (r1.2 = 0))))) rfl rfl (by exact wFF rfl rfl hc48) (y_neB Try.underlying4 rfl rfl) ?_
        refine sgy (some 41) (Value.bool (!((r3.1.isNone) == (!decide (r1.2 = 0))))) rfl rfl rfl (y_pickF rfl hc48 rfl) ?_
        exact Exists.intro (!((r3.1.isNone) == (!decide (r1.2 = 0)))) (And.intro (And.intro rfl trivial) (And.intro (bx_drop nd 0) hm))
  · refine cw_ifm hm rfl (fun hc7 hm => ?_) (fun hc7 hm => ?_)
    · refine cw_seq ?_
      refine cw_reg (l := [0]) rfl rfl ?_
      refine sgy (some 6) (Value.bool false) rfl rfl rfl (y_assign rfl) ?_
      refine drop.of ?_
      refine cw_ret ?_
      refine out_one [(Value.bool false)] (e_law13_IssueDraws false) Try.results6 ?_ rfl ?_
      · exact (And.intro (rfl) trivial)
      · exact Exists.intro false (And.intro rfl hm)
    · refine cw_skip ?_
      refine drop.of ?_
      refine cw_seq ?_
      refine cw_seq ?_
      refine cw_reg (l := [0]) rfl rfl ?_
      refine sgy (some 11) (Value.int .i64 0) rfl rfl rfl (y_assign rfl) ?_
      refine drop.of ?_
      refine cw_block ?_
      refine cw_loop [6, 11, 12, 13, 14, 15, 42, 43, 44, 45, 46, 47, 48, 49, 50, 51, 52, 53, 54, 55, 56, 57, 58, 59, 60, 61, 62, 63, 64, 65, 66, 67, 68, 69, 70, 71, 72, 73, 74, 75, 76, 77, 78, 79, 80, 81, 82, 83, 84, 85, 86, 87, 88, 89, 90, 91, 92, 93, 94, 95, 96, 97, 98, 99, 100] (fun s8 => [(11, (Value.int .i64 s8))]) (fun s8 => []) hm rfl (fun _ => rfl) ⟨rfl, trivial⟩ rfl (fun _ => nd) (fun rec9 s8 h junk nd hm => ?_)
      refine cw_seq ?_
      refine cw_joinM hm [42, 43, 44, 45, 46, 47, 48, 49] (fun s10 => [(49, (Value.bool s10))]) (fun s10 => []) rfl (fun _ => nd) (fun hm => ?_) (fun s10 h junk nd hm => ?_)
      · refine cw_reg (l := [0, 1, 2, 3, 4, 5, 6, 7]) rfl rfl ?_
        refine sgy (some 42) (Value.int .i64 s8) rfl rfl rfl (y_move rfl) ?_
        refine sgy (some 43) (Sl.val a2) rfl rfl rfl (y_move rfl) ?_
        refine sgy (some 44) (Value.int .i64 (a2.len : Int)) rfl rfl rfl (y_len (s := a2) rfl rfl Try.underlying49) ?_
        refine sgy (some 45) (Value.bool (decide (s8 < (a2.len : Int)))) rfl rfl rfl (y_bin rfl rfl rfl) ?_
        refine sgy (some 46) (Value.bool (decide (s8 < (a2.len : Int)))) rfl rfl rfl (y_move rfl) ?_
        refine mIf_elim hm (fun hc44 hm => ?_) (fun hc44 hm => ?_)
        · refine sgy (some 47) (Value.int .i64 r1.2) rfl rfl (by exact wTT rfl rfl hc44) (y_move rfl) ?_
          refine sgy (some 48) (Value.bool (decide (r1.2 = 0))) rfl rfl (by exact wTT rfl rfl hc44) (y_bin rfl rfl rfl) ?_
          refine sgy (some 49) (Value.bool (decide (r1.2 = 0))) rfl rfl rfl (y_pickT rfl hc44 rfl) ?_
          exact Exists.intro (decide (r1.2 = 0)) (And.intro (And.intro rfl trivial) (And.intro (bx_drop nd 0) hm))
        · refine sgn (some 47) rfl rfl (by exact wTF rfl rfl hc44) ?_
          refine sgn (some 48) rfl rfl (by exact wTF rfl rfl hc44) ?_
          refine sgy (some 49) (Value.bool false) rfl rfl rfl (y_pickF rfl hc44 rfl) ?_
          exact Exists.intro false (And.intro (And.intro rfl trivial) (And.intro (bx_drop nd 0) hm))
      · refine cw_ifm hm rfl (fun hc12 hm => ?_) (fun hc12 hm => ?_)
        · refine cw_skip ?_
          refine drop.of ?_
          refine cw_seq ?_
          refine cw_block ?_
          refine cw_seq ?_
          refine cw_reg (l := [0, 1, 2, 3, 4, 5, 6]) rfl rfl ?_
          refine sgy (some 52) (Value.pointer r3.1) rfl rfl rfl (y_move rfl) ?_
          refine sgy (some 53) (Sl.val a2) rfl rfl rfl (y_move rfl) ?_
          refine sgy (some 54) (Value.int .i64 s8) rfl rfl rfl (y_move rfl) ?_
          obtain ⟨a13, hq14, hm⟩ := hm
          refine sgy (some 55) (Value.pointer (some a13)) rfl rfl rfl (y_idx Try.underlying49 i51 rfl rfl hq14) ?_
          refine sgy (some 56) (Value.pointer (some (a13.add 1))) rfl rfl rfl (yv (y_fieldAddr rfl Try.underlying51 rfl i3 rfl) rfl) ?_
          refine sg rfl rfl (v_load hm rfl Try.underlying3 rfl (Value.int .i64) (fun _ => rfl) (fun x15 hm => ?_))
          refine sg rfl rfl (v_call (c_draws_Draws_Skip hm) callee21 rfl (fun v h hm => ?_))
          obtain ⟨r16, rfl, hm⟩ := hm
          refine drop.of ?_
          refine cw_seq ?_
          refine cw_reg (l := [0, 1, 2, 3, 4, 5, 6]) rfl rfl ?_
          refine sgy (some 59) (Value.pointer r1.1) rfl rfl rfl (y_move rfl) ?_
          refine sgy (some 60) (Sl.val a2) rfl rfl rfl (y_move rfl) ?_
          refine sgy (some 61) (Value.int .i64 s8) rfl rfl rfl (y_move rfl) ?_
          obtain ⟨a18, hq19, hm⟩ := hm
          refine sgy (some 62) (Value.pointer (some a18)) rfl rfl rfl (y_idx Try.underlying49 i51 rfl rfl hq19) ?_
          refine sgy (some 63) (Value.pointer (some (a18.add 1))) rfl rfl rfl (yv (y_fieldAddr rfl Try.underlying51 rfl i3 rfl) rfl) ?_
          refine sg rfl rfl (v_load hm rfl Try.underlying3 rfl (Value.int .i64) (fun _ => rfl) (fun x20 hm => ?_))
          refine sg rfl rfl (v_call (c_ref04_Draws_Skip hm) callee23 rfl (fun v h hm => ?_))
          obtain ⟨r21, rfl, hm⟩ := hm
          refine drop.of ?_
          refine cw_seq ?_
          refine cw_reg (l := [0, 1, 2, 3, 4, 5, 6, 7, 8, 9, 10, 11, 12]) rfl rfl ?_
          refine sgy (some 67) (Value.pointer r1.1) rfl rfl rfl (y_move rfl) ?_
          refine sgy (some 68) (Sl.val a2) rfl rfl rfl (y_move rfl) ?_
          refine sgy (some 69) (Value.int .i64 s8) rfl rfl rfl (y_move rfl) ?_
          obtain ⟨a23, hq24, hm⟩ := hm
          refine sgy (some 70) (Value.pointer (some a23)) rfl rfl rfl (y_idx Try.underlying49 i51 rfl rfl hq24) ?_
          refine sgy (some 71) (Value.pointer (some (a23.add 0))) rfl rfl rfl (yv (y_fieldAddr rfl Try.underlying51 rfl i22 rfl) rfl) ?_
          refine sg rfl rfl (v_load hm rfl Try.underlying22 rfl Sl.val (fun _ => rfl) (fun x25 hm => ?_))
          refine sg rfl rfl (v_call (c_ref13_Draw hm) callee24 rfl (fun v h hm => ?_))
          obtain ⟨r26, rfl, hm⟩ := hm
          refine sgy (some 66) (Value.tuple #[(S_api_Word.val r26.1), (Value.int .i64 r26.2)]) rfl rfl rfl (y_move rfl) ?_
          refine sgy (some 74) (S_api_Word.val r26.1) rfl rfl rfl (y_extract rfl rfl) ?_
          refine sgy (some 75) (Value.int .i64 r26.2) rfl rfl rfl (y_extract rfl rfl) ?_
          refine sg rfl rfl (b_alloc nd i25 rfl (c := #[(Value.int .u64 0), (Value.int .u64 0)]) rfl (fun b28 nd => ?_))
          refine sg rfl rfl (b_store 0 nd rfl rfl rfl i25 rfl rfl rfl (c' := #[(Value.int .u64 r26.1.Hi), (Value.int .u64 r26.1.Lo)]) rfl (fun nd => ?_))
          refine sgy (some 13) (Value.int .i64 r26.2) rfl rfl rfl (y_assign rfl) ?_
          refine drop.of ?_
          refine cw_seq ?_
          refine cw_reg (l := [0, 1, 2, 3, 4, 5, 6, 7, 8, 9, 10, 11, 12]) rfl rfl ?_
          refine sgy (some 77) (Value.pointer r3.1) rfl rfl rfl (y_move rfl) ?_
          refine sgy (some 78) (Sl.val a2) rfl rfl rfl (y_move rfl) ?_
          refine sgy (some 79) (Value.int .i64 s8) rfl rfl rfl (y_move rfl) ?_
          obtain ⟨a29, hq30, hm⟩ := hm
          refine sgy (some 80) (Value.pointer (some a29)) rfl rfl rfl (y_idx Try.underlying49 i51 rfl rfl hq30) ?_
          refine sgy (some 81) (Value.pointer (some (a29.add 0))) rfl rfl rfl (yv (y_fieldAddr rfl Try.underlying51 rfl i22 rfl) rfl) ?_
          refine sg rfl rfl (v_load hm rfl Try.underlying22 rfl Sl.val (fun _ => rfl) (fun x31 hm => ?_))
          refine sg rfl rfl (v_call (c_issue_Draw hm) callee25 rfl (fun v h hm => ?_))
          obtain ⟨r32, rfl, hm⟩ := hm
          refine sgy (some 76) (Value.tuple #[(S_api_Word.val r32.1), (Value.int .i64 r32.2)]) rfl rfl rfl (y_move rfl) ?_
          refine sgy (some 84) (S_api_Word.val r32.1) rfl rfl rfl (y_extract rfl rfl) ?_
          refine sgy (some 85) (Value.int .i64 r32.2) rfl rfl rfl (y_extract rfl rfl) ?_
          refine sg rfl rfl (b_alloc nd i25 rfl (c := #[(Value.int .u64 0), (Value.int .u64 0)]) rfl (fun b34 nd => ?_))
          refine sg rfl rfl (b_store 0 nd rfl rfl rfl i25 rfl rfl rfl (c' := #[(Value.int .u64 r32.1.Hi), (Value.int .u64 r32.1.Lo)]) rfl (fun nd => ?_))
          refine sgy (some 15) (Value.int .i64 r32.2) rfl rfl rfl (y_assign rfl) ?_
          refine drop.of ?_
          refine cw_joinM hm [86, 87, 88, 89, 90, 91, 92, 93, 94, 95, 96, 97, 98, 99, 100] (fun s35 => [(100, (Value.bool s35))]) (fun s35 => [(b34, Obj.cells #[(Value.int .u64 r32.1.Hi), (Value.int .u64 r32.1.Lo)] 25 (0, 0)), (b28, Obj.cells #[(Value.int .u64 r26.1.Hi), (Value.int .u64 r26.1.Lo)] 25 (0, 0))]) rfl (fun _ => nd) (fun hm => ?_) (fun s35 h junk nd hm => ?_)
          · refine cw_reg (l := [0, 1, 2, 3, 4, 5, 6, 7, 8, 9, 10, 11, 12, 13, 14]) rfl rfl ?_
            refine sgr (some 86) (S_api_Word.val r32.1) rfl rfl rfl (r_loadA 0 nd rfl rfl Try.underlying25 rfl i25 rfl) ?_
            refine sgr (some 87) (S_api_Word.val r26.1) rfl rfl rfl (r_loadA 1 nd rfl rfl Try.underlying25 rfl i25 rfl) ?_
            refine sgy (some 88) (Value.bool (!((decide (r32.1.Hi = r26.1.Hi)) && ((decide (r32.1.Lo = r26.1.Lo)) && true)))) rfl rfl rfl (y_neA (n := 2) Try.eqGuardType25 rfl rfl (eq_struct (n := 1) Try.underlying25 Try.stoodInHeld25 (efs_cons rfl (part_one Try.underlying23 rfl rfl) (part_one Try.underlying23 rfl rfl) (eq_int Try.underlying23) rfl (efs_cons rfl (part_one Try.underlying23 rfl rfl) (part_one Try.underlying23 rfl rfl) (eq_int Try.underlying23) rfl efs_nil))) rfl) ?_
            refine sgy (some 89) (Value.bool (!((decide (r32.1.Hi = r26.1.Hi)) && ((decide (r32.1.Lo = r26.1.Lo)) && true)))) rfl rfl rfl (y_move rfl) ?_
            refine mIf_elim hm (fun hc38 hm => ?_) (fun hc38 hm => ?_)
            · refine sgn (some 90) rfl rfl (by exact wFT rfl rfl hc38) ?_
              refine sgn (some 91) rfl rfl (by exact wFT rfl rfl hc38) ?_
              refine sgn (some 92) rfl rfl (by exact wFT rfl rfl hc38) ?_
              refine sgy (some 93) (Value.bool true) rfl rfl rfl (y_pickT rfl hc38 rfl) ?_
              refine sgy (some 94) (Value.bool true) rfl rfl rfl (y_move rfl) ?_
              refine sgn (some 95) rfl rfl rfl ?_
              refine sgn (some 96) rfl rfl rfl ?_
              refine sgn (some 97) rfl rfl rfl ?_
              refine sgn (some 98) rfl rfl rfl ?_
              refine sgn (some 99) rfl rfl rfl ?_
              refine sgy (some 100) (Value.bool true) rfl rfl rfl (y_pickT rfl rfl rfl) ?_
              exact Exists.intro true (And.intro (And.intro rfl trivial) (And.intro (bx_drop nd 0) hm))
            · refine sgy (some 90) (Value.int .i64 r32.2) rfl rfl (by exact wFF rfl rfl hc38) (y_move rfl) ?_
              refine sgy (some 91) (Value.int .i64 r26.2) rfl rfl (by exact wFF rfl rfl hc38) (y_move rfl) ?_
              refine sgy (some 92) (Value.bool (!decide (r32.2 = r26.2))) rfl rfl (by exact wFF rfl rfl hc38) (y_bin rfl rfl rfl) ?_
              refine sgy (some 93) (Value.bool (!decide (r32.2 = r26.2))) rfl rfl rfl (y_pickF rfl hc38 rfl) ?_
              refine sgy (some 94) (Value.bool (!decide (r32.2 = r26.2))) rfl rfl rfl (y_move rfl) ?_
              refine mIf_elim hm (fun hc39 hm => ?_) (fun hc39 hm => ?_)
              · refine sgn (some 95) rfl rfl (by exact wFT rfl rfl hc39) ?_
                refine sgn (some 96) rfl rfl (by exact wFT rfl rfl hc39) ?_
                refine sgn (some 97) rfl rfl (by exact wFT rfl rfl hc39) ?_
                refine sgn (some 98) rfl rfl (by exact wFT rfl rfl hc39) ?_
                refine sgn (some 99) rfl rfl (by exact wFT rfl rfl hc39) ?_
                refine sgy (some 100) (Value.bool true) rfl rfl rfl (y_pickT rfl hc39 rfl) ?_
                exact Exists.intro true (And.intro (And.intro rfl trivial) (And.intro (bx_drop nd 0) hm))
              · refine sgy (some 95) (Value.pointer r3.1) rfl rfl (by exact wFF rfl rfl hc39) (y_move rfl) ?_
                refine sg rfl (by exact wFF rfl rfl hc39) (v_call (c_draws_Draws_Taken hm) callee16 rfl (fun v h hm => ?_))
                obtain ⟨r40, rfl, hm⟩ := hm
                refine sgy (some 97) (Value.pointer r1.1) rfl rfl (by exact wFF rfl rfl hc39) (y_move rfl) ?_
                refine sg rfl (by exact wFF rfl rfl hc39) (v_call (c_ref04_Draws_Taken hm) callee26 rfl (fun v h hm => ?_))
                obtain ⟨r42, rfl, hm⟩ := hm
                refine sgy (some 99) (Value.bool (!decide (r40 = r42))) rfl rfl (by exact wFF rfl rfl hc39) (y_bin rfl rfl rfl) ?_
                refine sgy (some 100) (Value.bool (!decide (r40 = r42))) rfl rfl rfl (y_pickF rfl hc39 rfl) ?_
                exact Exists.intro (!decide (r40 = r42)) (And.intro (And.intro rfl trivial) (And.intro (bx_drop nd 0) hm))
          · refine cw_ifm hm rfl (fun hc37 hm => ?_) (fun hc37 hm => ?_)
            · refine cw_seq ?_
              refine cw_reg (l := [0]) rfl rfl ?_
              refine sgy (some 6) (Value.bool false) rfl rfl rfl (y_assign rfl) ?_
              refine drop.of ?_
              refine cw_ret ?_
              refine out_one [(Value.bool false)] (e_law13_IssueDraws false) Try.results6 ?_ rfl ?_
              · exact (And.intro (rfl) trivial)
              · exact Exists.intro false (And.intro rfl hm)
            · refine cw_skip ?_
              refine drop.of ?_
              refine cw_reg (l := [0, 1, 2]) rfl rfl ?_
              refine sgy (some 50) (Value.int .i64 s8) rfl rfl rfl (y_move rfl) ?_
              refine sgy (some 51) (Value.int .i64 (iAdd .i64 s8 1)) rfl rfl rfl (y_bin rfl rfl rfl) ?_
              refine sgy (some 11) (Value.int .i64 (iAdd .i64 s8 1)) rfl rfl rfl (y_assign rfl) ?_
              exact Exists.intro (iAdd .i64 s8 1) (And.intro (And.intro rfl trivial) (And.intro (bx_drop nd 2) hm))
        · refine cw_exit ?_
          refine drop.of ?_
          refine cw_seq ?_
          refine cw_reg (l := [0]) rfl rfl ?_
          refine sgy (some 6) (Value.bool true) rfl rfl rfl (y_assign rfl) ?_
          refine drop.of ?_
          refine cw_ret ?_
          refine out_one [(Value.bool true)] (e_law13_IssueDraws true) Try.results6 ?_ rfl ?_
          · exact (And.intro (rfl) trivial)
          · exact Exists.intro true (And.intro rfl hm)
/-! sesame/sesamelaw13.among -/
def e_law13_among : Bool → Value := fun r => (Value.bool r)
def m_law13_among (a0 : S_api_Word) (a1 : Sl) (K : (Bool) → H → Prop) : H → Prop :=
  mLoop (fun (rec3 : Int → H → Prop) (s2 : Int) =>
    mIf (decide (s2 < (a1.len : Int))) (
      mIdx a1 s2 2 fun a5 =>
      mLoad S_api_Word.cells a5 fun x7 =>
      mIf ((decide (x7.Hi = a0.Hi)) && ((decide (x7.Lo = a0.Lo)) && true)) (
        K true
        ) (
        rec3 (iAdd .i64 s2 1)
        )
      ) (
      K false
      )
    ) 0
set_option maxRecDepth 100000 in
set_option maxHeartbeats 8000000 in
theorem c_law13_among {a0 : S_api_Word} {a1 : Sl} {K : (Bool) → H → Prop} {h : H} (hm : m_law13_among a0 a1 K h) : ACall Try.prog 27 #[(S_api_Word.val a0), (Sl.val a1)] h (fun v h' => ∃ r, v = e_law13_among r ∧ K r h') noP := by
  unfold m_law13_among at hm
  have nd : (([] : List (Nat × Obj)).map Prod.fst).Nodup := List.nodup_nil
  refine cw_func Try.func27 rfl rfl ?_
  refine cw_seq ?_
  refine cw_reg (l := [0, 1]) rfl rfl ?_
  refine sg rfl rfl (b_box nd (c := #[(Value.int .u64 a0.Hi), (Value.int .u64 a0.Lo)]) rfl (fun b1 nd => ?_))
  refine sgy (some 4) (Value.bool false) rfl rfl rfl (y_assign rfl) ?_
  refine drop.of ?_
  refine cw_seq ?_
  refine cw_seq ?_
  refine cw_reg (l := [0]) rfl rfl ?_
  refine sgy (some 5) (Value.int .i64 0) rfl rfl rfl (y_assign rfl) ?_
  refine drop.of ?_
  refine cw_block ?_
  refine cw_loop [4, 5, 6, 7, 8, 9, 10, 11, 12, 13, 14, 15, 16, 17] (fun s2 => [(5, (Value.int .i64 s2))]) (fun s2 => [(b1, Obj.cells #[(Value.int .u64 a0.Hi), (Value.int .u64 a0.Lo)] 25 (0, 0))]) hm rfl (fun _ => rfl) ⟨rfl, trivial⟩ rfl (fun _ => nd) (fun rec3 s2 h junk nd hm => ?_)
  refine cw_seq ?_
  refine cw_seq ?_
  refine cw_reg (l := [0, 1, 2, 3]) rfl rfl ?_
  refine sgy (some 6) (Value.int .i64 s2) rfl rfl rfl (y_move rfl) ?_
  refine sgy (some 7) (Sl.val a1) rfl rfl rfl (y_move rfl) ?_
  refine sgy (some 8) (Value.int .i64 (a1.len : Int)) rfl rfl rfl (y_len (s := a1) rfl rfl Try.underlying22) ?_
  refine sgy (some 9) (Value.bool (decide (s2 < (a1.len : Int)))) rfl rfl rfl (y_bin rfl rfl rfl) ?_
  refine drop.of ?_
  refine cw_ifm hm rfl (fun hc4 hm => ?_) (fun hc4 hm => ?_)
  · refine cw_skip ?_
    refine drop.of ?_
    refine cw_seq ?_
    refine cw_block ?_
    refine cw_seq ?_
    refine cw_draw mixed rfl ?_
    refine tyy 0 (some 12) (Sl.val a1) rfl rfl (by kernel_rfl) (by kernel_rfl) (by kernel_rfl) rfl (y_move rfl) ?_
    refine tyy 1 (some 13) (Value.int .i64 s2) rfl rfl (by kernel_rfl) (by kernel_rfl) (by kernel_rfl) rfl (y_move rfl) ?_
    obtain ⟨a5, hq6, hm⟩ := hm
    refine tyy 2 (some 14) (Value.pointer (some a5)) rfl rfl (by kernel_rfl) (by kernel_rfl) (by kernel_rfl) rfl (y_idx Try.underlying22 i25 rfl rfl hq6) ?_
    refine trr 4 (some 16) (S_api_Word.val a0) rfl rfl (by kernel_rfl) (by kernel_rfl) (by kernel_rfl) rfl (r_loadA 0 nd rfl rfl Try.underlying25 rfl i25 rfl) ?_
    refine tq 3 rfl (by kernel_rfl) (by kernel_rfl) (by kernel_rfl) rfl (v_loadA hm rfl Try.underlying25 rfl i25 S_api_Word.val (fun _ => ⟨rfl, rfl⟩) (fun x7 hm => ?_))
    refine tyy 5 (some 17) (Value.bool ((decide (x7.Hi = a0.Hi)) && ((decide (x7.Lo = a0.Lo)) && true))) rfl rfl (by kernel_rfl) (by kernel_rfl) (by kernel_rfl) rfl (y_eqA (n := 2) Try.eqGuardType25 rfl rfl (eq_struct (n := 1) Try.underlying25 Try.stoodInHeld25 (efs_cons rfl (part_one Try.underlying23 rfl rfl) (part_one Try.underlying23 rfl rfl) (eq_int Try.underlying23) rfl (efs_cons rfl (part_one Try.underlying23 rfl rfl) (part_one Try.underlying23 rfl rfl) (eq_int Try.underlying23) rfl efs_nil))) rfl) ?_
    refine td (by kernel_rfl) ?_
    refine drop.of ?_
    refine cw_ifm hm rfl (fun hc8 hm => ?_) (fun hc8 hm => ?_)
    · refine cw_seq ?_
      refine cw_reg (l := [0]) rfl rfl ?_
      refine sgy (some 4) (Value.bool true) rfl rfl rfl (y_assign rfl) ?_
      refine drop.of ?_
      refine cw_ret ?_
      refine out_one [(Value.bool true)] (e_law13_among true) Try.results27 ?_ rfl ?_
      · exact (And.intro (rfl) trivial)
      · exact Exists.intro true (And.intro rfl hm)
    · refine cw_skip ?_
      refine drop.of ?_
      refine cw_reg (l := [0, 1, 2]) rfl rfl ?_
      refine sgy (some 10) (Value.int .i64 s2) rfl rfl rfl (y_move rfl) ?_
      refine sgy (some 11) (Value.int .i64 (iAdd .i64 s2 1)) rfl rfl rfl (y_bin rfl rfl rfl) ?_
      refine sgy (some 5) (Value.int .i64 (iAdd .i64 s2 1)) rfl rfl rfl (y_assign rfl) ?_
      exact Exists.intro (iAdd .i64 s2 1) (And.intro (And.intro rfl trivial) (And.intro (bx_drop nd 0) hm))
  · refine cw_exit ?_
    refine drop.of ?_
    refine cw_seq ?_
    refine cw_reg (l := [0]) rfl rfl ?_
    refine sgy (some 4) (Value.bool false) rfl rfl rfl (y_assign rfl) ?_
    refine drop.of ?_
    refine cw_ret ?_
    refine out_one [(Value.bool false)] (e_law13_among false) Try.results27 ?_ rfl ?_
    · exact (And.intro (rfl) trivial)
    · exact Exists.intro false (And.intro rfl hm)
end Go.Proofs.Ytnmaknkbdfpbkaa.K
