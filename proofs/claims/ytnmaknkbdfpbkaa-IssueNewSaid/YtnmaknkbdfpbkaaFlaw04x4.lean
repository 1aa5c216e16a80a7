/- Functions of the program, printed by a program of mine: law04_DrawsAll -/
import Derived.Test.YtnmaknkbdfpbkaaT
import Derived.Test.YtnmaknkbdfpbkaaFdraws
import Derived.Test.YtnmaknkbdfpbkaaFlaw04
import Derived.Test.YtnmaknkbdfpbkaaFlaw04x3
import Derived.Test.YtnmaknkbdfpbkaaFref04
namespace Go.Proofs.Ytnmaknkbdfpbkaa.K
open Go Go.Proofs
/-! sesame/sesamelaw04.DrawsAll -/
def e_law04_DrawsAll : Bool → Value := fun r => (Value.bool r)
def m_law04_DrawsAll (a0 : Sl) (a1 : Int) (a2 : Int) (a3 : Sl) (K : (Bool) → H → Prop) : H → Prop :=
  m_ref04_New a0 a1 fun r1 =>
  m_ref04_New a0 a2 fun r3 =>
  mNew 25 #[] fun a5 =>
  mAppend 25 2 16 #[(Value.int .u64 0), (Value.int .u64 0)] (⟨some a5, 0, 0⟩ : Sl) a0 fun s6 =>
  m_draws_New s6 a1 fun r7 =>
  m_draws_New s6 a2 fun r9 =>
  mJoin (fun (s11 : Bool) =>
    mIf s11 (
      K false
      ) (
      mLoop (fun (rec15 : Int → H → Prop) (s14 : Int) =>
        mIf (decide (s14 < (s6.len : Int))) (
          mIdx s6 s14 2 fun a17 =>
          mIdx a0 s14 2 fun a19 =>
          mLoad S_api_Word.cells a17 fun x21 =>
          mLoad S_api_Word.cells a19 fun x22 =>
          mIf (!((decide (x21.Hi = x22.Hi)) && ((decide (x21.Lo = x22.Lo)) && true))) (
            K false
            ) (
            mIdx s6 s14 2 fun a24 =>
            mLoad (cInt .u64) (a24.add 1) fun x26 =>
            mIdx s6 s14 2 fun a27 =>
            mStore (a27.add 1) [(Value.int .u64 (iAdd .u64 x26 1))] <|
            rec15 (iAdd .i64 s14 1)
            )
          ) (
          mLoop (fun (rec32 : Int → H → Prop) (s31 : Int) =>
            mIf (decide (s31 < (a3.len : Int))) (
              mJoin (fun (s34 : Bool) =>
                mIf (!s34) (
                  K false
                  ) (
                  rec32 (iAdd .i64 s31 1)
                  )
                ) (fun j35 =>
                mJoin (fun (s37 : Bool) =>
                  mIf s37 (
                    mIdx a3 s31 3 fun a40 =>
                    mLoad S_law04_Step.cells a40 fun x42 =>
                    m_law04_Pair_step (⟨r9.1, r3.1⟩ : S_law04_Pair) x42 fun r43 =>
                    j35 r43
                    ) (
                    mJoin (fun (s45 : Bool) =>
                      mIf s45 (
                        mIdx a3 s31 3 fun a48 =>
                        mLoad S_law04_Step.cells a48 fun x50 =>
                        m_law04_Pair_step (⟨r7.1, r1.1⟩ : S_law04_Pair) x50 fun r51 =>
                        j35 r51
                        ) (
                        j35 true
                        )
                      ) (fun j46 =>
                      mIdx a3 s31 3 fun a53 =>
                      mLoad cBool (a53.add 0) fun x55 =>
                      mIf (!x55) (
                        j46 (!r7.1.isNone)
                        ) (
                        j46 false
                        )
                      )
                    )
                  ) (fun j38 =>
                  mIdx a3 s31 3 fun a57 =>
                  mLoad cBool (a57.add 0) fun x59 =>
                  mIf x59 (
                    j38 (!r9.1.isNone)
                    ) (
                    j38 false
                    )
                  )
                )
              ) (
              mIf (r7.1.isNone) (
                mIf (r9.1.isNone) (
                  K true
                  ) (
                  m_law04_Pair_step (⟨r9.1, r3.1⟩ : S_law04_Pair) (⟨false, 1, 0⟩ : S_law04_Step) fun r64 =>
                  K r64
                  )
                ) (
                m_law04_Pair_step (⟨r7.1, r1.1⟩ : S_law04_Pair) (⟨false, 1, 0⟩ : S_law04_Step) fun r66 =>
                mIf r66 (
                  mIf (r9.1.isNone) (
                    K true
                    ) (
                    m_law04_Pair_step (⟨r9.1, r3.1⟩ : S_law04_Pair) (⟨false, 1, 0⟩ : S_law04_Step) fun r70 =>
                    K r70
                    )
                  ) (
                  K false
                  )
                )
              )
            ) 0
          )
        ) 0
      )
    ) (fun j12 =>
    m_law04_known fun r72 =>
    mIf (!r72) (
      j12 true
      ) (
      mIf (!decide (r7.2 = r1.2)) (
        j12 true
        ) (
        mIf (!decide (r9.2 = r3.2)) (
          j12 true
          ) (
          mIf (!((r7.1.isNone) == (!decide (r1.2 = 0)))) (
            j12 true
            ) (
            j12 (!((r9.1.isNone) == (!decide (r3.2 = 0))))
            )
          )
        )
      )
    )
set_option maxRecDepth 100000 in
set_option maxHeartbeats 8000000 in
theorem c_law04_DrawsAll {a0 : Sl} {a1 : Int} {a2 : Int} {a3 : Sl} {K : (Bool) → H → Prop} {h : H} (hm : m_law04_DrawsAll a0 a1 a2 a3 K h) : ACall Try.prog 4 #[(Sl.val a0), (Value.int .i64 a1), (Value.int .i64 a2), (Sl.val a3)] h (fun v h' => ∃ r, v = e_law04_DrawsAll r ∧ K r h') noP := by
  unfold m_law04_DrawsAll at hm
  have nd : (([] : List (Nat × Obj)).map Prod.fst).Nodup := List.nodup_nil
  refine cw_func Try.func4 rfl rfl ?_
  refine cw_seq ?_
  refine cw_reg (l := [0]) rfl rfl ?_
  refine sgy (some 8) (Value.bool false) rfl rfl rfl (y_assign rfl) ?_
  refine drop.of ?_
  refine cw_seq ?_
  refine cw_reg (l := [0, 1, 2, 3, 4, 5, 6, 7]) rfl rfl ?_
  refine sgy (some 25) (Sl.val a0) rfl rfl rfl (y_move rfl) ?_
  refine sgy (some 26) (Value.int .i64 a1) rfl rfl rfl (y_move rfl) ?_
  refine sg rfl rfl (v_call (c_ref04_New hm) callee19 rfl (fun v h hm => ?_))
  obtain ⟨r1, rfl, hm⟩ := hm
  refine sgy (some 24) (Value.tuple #[(Value.pointer r1.1), (Value.int .i64 r1.2)]) rfl rfl rfl (y_move rfl) ?_
  refine sgy (some 28) (Value.pointer r1.1) rfl rfl rfl (y_extract rfl rfl) ?_
  refine sgy (some 29) (Value.int .i64 r1.2) rfl rfl rfl (y_extract rfl rfl) ?_
  refine sgy (some 9) (Value.pointer r1.1) rfl rfl rfl (y_assign rfl) ?_
  refine sgy (some 10) (Value.int .i64 r1.2) rfl rfl rfl (y_assign rfl) ?_
  refine drop.of ?_
  refine cw_seq ?_
  refine cw_reg (l := [0, 1, 2, 3, 4, 5, 6, 7]) rfl rfl ?_
  refine sgy (some 31) (Sl.val a0) rfl rfl rfl (y_move rfl) ?_
  refine sgy (some 32) (Value.int .i64 a2) rfl rfl rfl (y_move rfl) ?_
  refine sg rfl rfl (v_call (c_ref04_New hm) callee19 rfl (fun v h hm => ?_))
  obtain ⟨r3, rfl, hm⟩ := hm
  refine sgy (some 30) (Value.tuple #[(Value.pointer r3.1), (Value.int .i64 r3.2)]) rfl rfl rfl (y_move rfl) ?_
  refine sgy (some 34) (Value.pointer r3.1) rfl rfl rfl (y_extract rfl rfl) ?_
  refine sgy (some 35) (Value.int .i64 r3.2) rfl rfl rfl (y_extract rfl rfl) ?_
  refine sgy (some 11) (Value.pointer r3.1) rfl rfl rfl (y_assign rfl) ?_
  refine sgy (some 12) (Value.int .i64 r3.2) rfl rfl rfl (y_assign rfl) ?_
  refine drop.of ?_
  refine cw_seq ?_
  refine cw_reg (l := [0, 1, 2, 3]) rfl rfl ?_
  refine sg rfl rfl (v_lit hm Try.underlying22 i25 rfl rfl rfl rfl (fun a5 h hm => ?_))
  refine sgy (some 37) (Sl.val a0) rfl rfl rfl (y_move rfl) ?_
  refine sg rfl rfl (v_append Try.underlying22 Try.underlying22 i25 rfl rfl (s := (⟨some a5, 0, 0⟩ : Sl)) (x' := a0) rfl rfl hm (fun s6 h hm => ?_))
  refine sgy (some 13) (Sl.val s6) rfl rfl rfl (y_assign rfl) ?_
  refine drop.of ?_
  refine cw_seq ?_
  refine cw_reg (l := [0, 1, 2, 3, 4, 5, 6, 7]) rfl rfl ?_
  refine sgy (some 40) (Sl.val s6) rfl rfl rfl (y_move rfl) ?_
  refine sgy (some 41) (Value.int .i64 a1) rfl rfl rfl (y_move rfl) ?_
  refine sg rfl rfl (v_call (c_draws_New hm) callee13 rfl (fun v h hm => ?_))
  obtain ⟨r7, rfl, hm⟩ := hm
  refine sgy (some 39) (Value.tuple #[(Value.pointer r7.1), (Value.int .i64 r7.2)]) rfl rfl rfl (y_move rfl) ?_
  refine sgy (some 43) (Value.pointer r7.1) rfl rfl rfl (y_extract rfl rfl) ?_
  refine sgy (some 44) (Value.int .i64 r7.2) rfl rfl rfl (y_extract rfl rfl) ?_
  refine sgy (some 14) (Value.pointer r7.1) rfl rfl rfl (y_assign rfl) ?_
  refine sgy (some 15) (Value.int .i64 r7.2) rfl rfl rfl (y_assign rfl) ?_
  refine drop.of ?_
  refine cw_seq ?_
  refine cw_reg (l := [0, 1, 2, 3, 4, 5, 6, 7]) rfl rfl ?_
  refine sgy (some 46) (Sl.val s6) rfl rfl rfl (y_move rfl) ?_
  refine sgy (some 47) (Value.int .i64 a2) rfl rfl rfl (y_move rfl) ?_
  refine sg rfl rfl (v_call (c_draws_New hm) callee13 rfl (fun v h hm => ?_))
  obtain ⟨r9, rfl, hm⟩ := hm
  refine sgy (some 45) (Value.tuple #[(Value.pointer r9.1), (Value.int .i64 r9.2)]) rfl rfl rfl (y_move rfl) ?_
  refine sgy (some 49) (Value.pointer r9.1) rfl rfl rfl (y_extract rfl rfl) ?_
  refine sgy (some 50) (Value.int .i64 r9.2) rfl rfl rfl (y_extract rfl rfl) ?_
  refine sgy (some 16) (Value.pointer r9.1) rfl rfl rfl (y_assign rfl) ?_
  refine sgy (some 17) (Value.int .i64 r9.2) rfl rfl rfl (y_assign rfl) ?_
  refine drop.of ?_
  refine cw_seq ?_
  refine cw_joinM hm [51, 52, 53, 54, 55, 56, 57, 58, 59, 60, 61, 62, 63, 64, 65, 66, 67, 68, 69, 70, 71, 72, 73, 74, 75, 76] (fun s11 => [(76, (Value.bool s11))]) (fun s11 => []) rfl (fun _ => nd) (fun hm => ?_) (fun s11 h junk nd hm => ?_)
  · refine cw_reg (l := [0, 1, 2, 3, 4, 5, 6, 7, 8, 9, 10, 11, 12, 13, 14, 15, 16, 17, 18, 19, 20, 21, 22, 23, 24, 25]) rfl rfl ?_
    refine sg rfl rfl (v_call (c_law04_known hm) callee14 rfl (fun v h hm => ?_))
    obtain ⟨r72, rfl, hm⟩ := hm
    refine sgy (some 52) (Value.bool (!r72)) rfl rfl rfl (y_not rfl) ?_
    refine sgy (some 53) (Value.bool (!r72)) rfl rfl rfl (y_move rfl) ?_
    refine mIf_elim hm (fun hc74 hm => ?_) (fun hc74 hm => ?_)
    · refine sgn (some 54) rfl rfl (by exact wFT rfl rfl hc74) ?_
      refine sgn (some 55) rfl rfl (by exact wFT rfl rfl hc74) ?_
      refine sgn (some 56) rfl rfl (by exact wFT rfl rfl hc74) ?_
      refine sgy (some 57) (Value.bool true) rfl rfl rfl (y_pickT rfl hc74 rfl) ?_
      refine sgy (some 58) (Value.bool true) rfl rfl rfl (y_move rfl) ?_
      refine sgn (some 59) rfl rfl rfl ?_
      refine sgn (some 60) rfl rfl rfl ?_
      refine sgn (some 61) rfl rfl rfl ?_
      refine sgy (some 62) (Value.bool true) rfl rfl rfl (y_pickT rfl rfl rfl) ?_
      refine sgy (some 63) (Value.bool true) rfl rfl rfl (y_move rfl) ?_
      refine sgn (some 64) rfl rfl rfl ?_
      refine sgn (some 65) rfl rfl rfl ?_
      refine sgn (some 66) rfl rfl rfl ?_
      refine sgn (some 67) rfl rfl rfl ?_
      refine sgn (some 68) rfl rfl rfl ?_
      refine sgy (some 69) (Value.bool true) rfl rfl rfl (y_pickT rfl rfl rfl) ?_
      refine sgy (some 70) (Value.bool true) rfl rfl rfl (y_move rfl) ?_
      refine sgn (some 71) rfl rfl rfl ?_
      refine sgn (some 72) rfl rfl rfl ?_
      refine sgn (some 73) rfl rfl rfl ?_
      refine sgn (some 74) rfl rfl rfl ?_
      refine sgn (some 75) rfl rfl rfl ?_
      refine sgy (some 76) (Value.bool true) rfl rfl rfl (y_pickT rfl rfl rfl) ?_
      exact Exists.intro true (And.intro (And.intro rfl trivial) (And.intro (bx_drop nd 0) hm))
    · refine sgy (some 54) (Value.int .i64 r7.2) rfl rfl (by exact wFF rfl rfl hc74) (y_move rfl) ?_
      refine sgy (some 55) (Value.int .i64 r1.2) rfl rfl (by exact wFF rfl rfl hc74) (y_move rfl) ?_
      refine sgy (some 56) (Value.bool (!decide (r7.2 = r1.2))) rfl rfl (by exact wFF rfl rfl hc74) (y_bin rfl rfl rfl) ?_
      refine sgy (some 57) (Value.bool (!decide (r7.2 = r1.2))) rfl rfl rfl (y_pickF rfl hc74 rfl) ?_
      refine sgy (some 58) (Value.bool (!decide (r7.2 = r1.2))) rfl rfl rfl (y_move rfl) ?_
      refine mIf_elim hm (fun hc75 hm => ?_) (fun hc75 hm => ?_)
      · refine sgn (some 59) rfl rfl (by exact wFT rfl rfl hc75) ?_
        refine sgn (some 60) rfl rfl (by exact wFT rfl rfl hc75) ?_
        refine sgn (some 61) rfl rfl (by exact wFT rfl rfl hc75) ?_
        refine sgy (some 62) (Value.bool true) rfl rfl rfl (y_pickT rfl hc75 rfl) ?_
        refine sgy (some 63) (Value.bool true) rfl rfl rfl (y_move rfl) ?_
        refine sgn (some 64) rfl rfl rfl ?_
        refine sgn (some 65) rfl rfl rfl ?_
        refine sgn (some 66) rfl rfl rfl ?_
        refine sgn (some 67) rfl rfl rfl ?_
        refine sgn (some 68) rfl rfl rfl ?_
        refine sgy (some 69) (Value.bool true) rfl rfl rfl (y_pickT rfl rfl rfl) ?_
        refine sgy (some 70) (Value.bool true) rfl rfl rfl (y_move rfl) ?_
        refine sgn (some 71) rfl rfl rfl ?_
        refine sgn (some 72) rfl rfl rfl ?_
        refine sgn (some 73) rfl rfl rfl ?_
        refine sgn (some 74) rfl rfl rfl ?_
        refine sgn (some 75) rfl rfl rfl ?_
        refine sgy (some 76) (Value.bool true) rfl rfl rfl (y_pickT rfl rfl rfl) ?_
        exact Exists.intro true (And.intro (And.intro rfl trivial) (And.intro (bx_drop nd 0) hm))
      · refine sgy (some 59) (Value.int .i64 r9.2) rfl rfl (by exact wFF rfl rfl hc75) (y_move rfl) ?_
        refine sgy (some 60) (Value.int .i64 r3.2) rfl rfl (by exact wFF rfl rfl hc75) (y_move rfl) ?_
        refine sgy (some 61) (Value.bool (!decide (r9.2 = r3.2))) rfl rfl (by exact wFF rfl rfl hc75) (y_bin rfl rfl rfl) ?_
        refine sgy (some 62) (Value.bool (!decide (r9.2 = r3.2))) rfl rfl rfl (y_pickF rfl hc75 rfl) ?_
        refine sgy (some 63) (Value.bool (!decide (r9.2 = r3.2))) rfl rfl rfl (y_move rfl) ?_
        refine mIf_elim hm (fun hc76 hm => ?_) (fun hc76 hm => ?_)
        · refine sgn (some 64) rfl rfl (by exact wFT rfl rfl hc76) ?_
          refine sgn (some 65) rfl rfl (by exact wFT rfl rfl hc76) ?_
          refine sgn (some 66) rfl rfl (by exact wFT rfl rfl hc76) ?_
          refine sgn (some 67) rfl rfl (by exact wFT rfl rfl hc76) ?_
          refine sgn (some 68) rfl rfl (by exact wFT rfl rfl hc76) ?_
          refine sgy (some 69) (Value.bool true) rfl rfl rfl (y_pickT rfl hc76 rfl) ?_
          refine sgy (some 70) (Value.bool true) rfl rfl rfl (y_move rfl) ?_
          refine sgn (some 71) rfl rfl rfl ?_
          refine sgn (some 72) rfl rfl rfl ?_
          refine sgn (some 73) rfl rfl rfl ?_
          refine sgn (some 74) rfl rfl rfl ?_
          refine sgn (some 75) rfl rfl rfl ?_
          refine sgy (some 76) (Value.bool true) rfl rfl rfl (y_pickT rfl rfl rfl) ?_
          exact Exists.intro true (And.intro (And.intro rfl trivial) (And.intro (bx_drop nd 0) hm))
        · refine sgy (some 64) (Value.pointer r7.1) rfl rfl (by exact wFF rfl rfl hc76) (y_move rfl) ?_
          refine sgy (some 65) (Value.bool (r7.1.isNone)) rfl rfl (by exact wFF rfl rfl hc76) (y_eqP Try.underlying26 rfl rfl) ?_
          refine sgy (some 66) (Value.int .i64 r1.2) rfl rfl (by exact wFF rfl rfl hc76) (y_move rfl) ?_
          refine sgy (some 67) (Value.bool (!decide (r1.2 = 0))) rfl rfl (by exact wFF rfl rfl hc76) (y_bin rfl rfl rfl) ?_
          refine sgy (some 68) (Value.bool (!((r7.1.isNone) == (!decide (r1.2 = 0))))) rfl rfl (by exact wFF rfl rfl hc76) (y_neB Try.underlying4 rfl rfl) ?_
          refine sgy (some 69) (Value.bool (!((r7.1.isNone) == (!decide (r1.2 = 0))))) rfl rfl rfl (y_pickF rfl hc76 rfl) ?_
          refine sgy (some 70) (Value.bool (!((r7.1.isNone) == (!decide (r1.2 = 0))))) rfl rfl rfl (y_move rfl) ?_
          refine mIf_elim hm (fun hc77 hm => ?_) (fun hc77 hm => ?_)
          · refine sgn (some 71) rfl rfl (by exact wFT rfl rfl hc77) ?_
            refine sgn (some 72) rfl rfl (by exact wFT rfl rfl hc77) ?_
            refine sgn (some 73) rfl rfl (by exact wFT rfl rfl hc77) ?_
            refine sgn (some 74) rfl rfl (by exact wFT rfl rfl hc77) ?_
            refine sgn (some 75) rfl rfl (by exact wFT rfl rfl hc77) ?_
            refine sgy (some 76) (Value.bool true) rfl rfl rfl (y_pickT rfl hc77 rfl) ?_
            exact Exists.intro true (And.intro (And.intro rfl trivial) (And.intro (bx_drop nd 0) hm))
          · refine sgy (some 71) (Value.pointer r9.1) rfl rfl (by exact wFF rfl rfl hc77) (y_move rfl) ?_
            refine sgy (some 72) (Value.bool (r9.1.isNone)) rfl rfl (by exact wFF rfl rfl hc77) (y_eqP Try.underlying26 rfl rfl) ?_
            refine sgy (some 73) (Value.int .i64 r3.2) rfl rfl (by exact wFF rfl rfl hc77) (y_move rfl) ?_
            refine sgy (some 74) (Value.bool (!decide (r3.2 = 0))) rfl rfl (by exact wFF rfl rfl hc77) (y_bin rfl rfl rfl) ?_
            refine sgy (some 75) (Value.bool (!((r9.1.isNone) == (!decide (r3.2 = 0))))) rfl rfl (by exact wFF rfl rfl hc77) (y_neB Try.underlying4 rfl rfl) ?_
            refine sgy (some 76) (Value.bool (!((r9.1.isNone) == (!decide (r3.2 = 0))))) rfl rfl rfl (y_pickF rfl hc77 rfl) ?_
            exact Exists.intro (!((r9.1.isNone) == (!decide (r3.2 = 0)))) (And.intro (And.intro rfl trivial) (And.intro (bx_drop nd 0) hm))
  · refine cw_ifm hm rfl (fun hc13 hm => ?_) (fun hc13 hm => ?_)
    · refine cw_seq ?_
      refine cw_reg (l := [0]) rfl rfl ?_
      refine sgy (some 8) (Value.bool false) rfl rfl rfl (y_assign rfl) ?_
      refine drop.of ?_
      refine cw_ret ?_
      refine out_one [(Value.bool false)] (e_law04_DrawsAll false) Try.results4 ?_ rfl ?_
      · exact (And.intro (rfl) trivial)
      · exact Exists.intro false (And.intro rfl hm)
    · refine cw_skip ?_
      refine drop.of ?_
      refine cw_seq ?_
      refine cw_seq ?_
      refine cw_reg (l := [0]) rfl rfl ?_
      refine sgy (some 18) (Value.int .i64 0) rfl rfl rfl (y_assign rfl) ?_
      refine drop.of ?_
      refine cw_block ?_
      refine cw_loop [8, 18, 77, 78, 79, 80, 81, 82, 83, 84, 85, 86, 87, 88, 89, 90, 91, 92, 93, 94, 95, 96, 97, 98, 99, 100, 101] (fun s14 => [(18, (Value.int .i64 s14))]) (fun s14 => []) hm rfl (fun _ => rfl) ⟨rfl, trivial⟩ rfl (fun _ => nd) (fun rec15 s14 h junk nd hm => ?_)
      refine cw_seq ?_
      refine cw_seq ?_
      refine cw_reg (l := [0, 1, 2, 3]) rfl rfl ?_
      refine sgy (some 77) (Value.int .i64 s14) rfl rfl rfl (y_move rfl) ?_
      refine sgy (some 78) (Sl.val s6) rfl rfl rfl (y_move rfl) ?_
      refine sgy (some 79) (Value.int .i64 (s6.len : Int)) rfl rfl rfl (y_len (s := s6) rfl rfl Try.underlying22) ?_
      refine sgy (some 80) (Value.bool (decide (s14 < (s6.len : Int)))) rfl rfl rfl (y_bin rfl rfl rfl) ?_
      refine drop.of ?_
      refine cw_ifm hm rfl (fun hc16 hm => ?_) (fun hc16 hm => ?_)
      · refine cw_skip ?_
        refine drop.of ?_
        refine cw_seq ?_
        refine cw_block ?_
        refine cw_seq ?_
        refine cw_seq ?_
        refine cw_draw mixed rfl ?_
        refine tyy 0 (some 83) (Sl.val s6) rfl rfl (by kernel_rfl) (by kernel_rfl) (by kernel_rfl) rfl (y_move rfl) ?_
        refine tyy 1 (some 84) (Value.int .i64 s14) rfl rfl (by kernel_rfl) (by kernel_rfl) (by kernel_rfl) rfl (y_move rfl) ?_
        obtain ⟨a17, hq18, hm⟩ := hm
        refine tyy 2 (some 85) (Value.pointer (some a17)) rfl rfl (by kernel_rfl) (by kernel_rfl) (by kernel_rfl) rfl (y_idx Try.underlying22 i25 rfl rfl hq18) ?_
        refine tyy 4 (some 87) (Sl.val a0) rfl rfl (by kernel_rfl) (by kernel_rfl) (by kernel_rfl) rfl (y_move rfl) ?_
        refine tyy 5 (some 88) (Value.int .i64 s14) rfl rfl (by kernel_rfl) (by kernel_rfl) (by kernel_rfl) rfl (y_move rfl) ?_
        obtain ⟨a19, hq20, hm⟩ := hm
        refine tyy 6 (some 89) (Value.pointer (some a19)) rfl rfl (by kernel_rfl) (by kernel_rfl) (by kernel_rfl) rfl (y_idx Try.underlying22 i25 rfl rfl hq20) ?_
        refine tq 3 rfl (by kernel_rfl) (by kernel_rfl) (by kernel_rfl) rfl (v_loadA hm rfl Try.underlying25 rfl i25 S_api_Word.val (fun _ => ⟨rfl, rfl⟩) (fun x21 hm => ?_))
        refine tq 7 rfl (by kernel_rfl) (by kernel_rfl) (by kernel_rfl) rfl (v_loadA hm rfl Try.underlying25 rfl i25 S_api_Word.val (fun _ => ⟨rfl, rfl⟩) (fun x22 hm => ?_))
        refine tyy 8 (some 91) (Value.bool (!((decide (x21.Hi = x22.Hi)) && ((decide (x21.Lo = x22.Lo)) && true)))) rfl rfl (by kernel_rfl) (by kernel_rfl) (by kernel_rfl) rfl (y_neA (n := 2) Try.eqGuardType25 rfl rfl (eq_struct (n := 1) Try.underlying25 Try.stoodInHeld25 (efs_cons rfl (part_one Try.underlying23 rfl rfl) (part_one Try.underlying23 rfl rfl) (eq_int Try.underlying23) rfl (efs_cons rfl (part_one Try.underlying23 rfl rfl) (part_one Try.underlying23 rfl rfl) (eq_int Try.underlying23) rfl efs_nil))) rfl) ?_
        refine td (by kernel_rfl) ?_
        refine drop.of ?_
        refine cw_ifm hm rfl (fun hc23 hm => ?_) (fun hc23 hm => ?_)
        · refine cw_seq ?_
          refine cw_reg (l := [0]) rfl rfl ?_
          refine sgy (some 8) (Value.bool false) rfl rfl rfl (y_assign rfl) ?_
          refine drop.of ?_
          refine cw_ret ?_
          refine out_one [(Value.bool false)] (e_law04_DrawsAll false) Try.results4 ?_ rfl ?_
          · exact (And.intro (rfl) trivial)
          · exact Exists.intro false (And.intro rfl hm)
        · refine cw_skip ?_
          refine drop.of ?_
          refine cw_reg (l := [0, 1, 2, 3, 4, 5, 6, 7, 8, 9, 10]) rfl rfl ?_
          refine sgy (some 92) (Sl.val s6) rfl rfl rfl (y_move rfl) ?_
          refine sgy (some 93) (Value.int .i64 s14) rfl rfl rfl (y_move rfl) ?_
          refine sgy (some 94) (Sl.val s6) rfl rfl rfl (y_move rfl) ?_
          refine sgy (some 95) (Value.int .i64 s14) rfl rfl rfl (y_move rfl) ?_
          obtain ⟨a24, hq25, hm⟩ := hm
          refine sgy (some 96) (Value.pointer (some a24)) rfl rfl rfl (y_idx Try.underlying22 i25 rfl rfl hq25) ?_
          refine sgy (some 97) (Value.pointer (some (a24.add 1))) rfl rfl rfl (yv (y_fieldAddr rfl Try.underlying25 rfl i23 rfl) rfl) ?_
          refine sg rfl rfl (v_load hm rfl Try.underlying23 rfl (Value.int .u64) (fun _ => rfl) (fun x26 hm => ?_))
          refine sgy (some 99) (Value.int .u64 (iAdd .u64 x26 1)) rfl rfl rfl (y_bin rfl rfl rfl) ?_
          obtain ⟨a27, hq28, hm⟩ := hm
          refine sgy (some 100) (Value.pointer (some a27)) rfl rfl rfl (y_idx Try.underlying22 i25 rfl rfl hq28) ?_
          refine sgy (some 101) (Value.pointer (some (a27.add 1))) rfl rfl rfl (yv (y_fieldAddr rfl Try.underlying25 rfl i23 rfl) rfl) ?_
          refine sg rfl rfl (v_store hm rfl rfl rfl i23 rfl rfl (fun h hm => ?_))
          refine drop.of ?_
          refine cw_reg (l := [0, 1, 2]) rfl rfl ?_
          refine sgy (some 81) (Value.int .i64 s14) rfl rfl rfl (y_move rfl) ?_
          refine sgy (some 82) (Value.int .i64 (iAdd .i64 s14 1)) rfl rfl rfl (y_bin rfl rfl rfl) ?_
          refine sgy (some 18) (Value.int .i64 (iAdd .i64 s14 1)) rfl rfl rfl (y_assign rfl) ?_
          exact Exists.intro (iAdd .i64 s14 1) (And.intro (And.intro rfl trivial) (And.intro (bx_drop nd 0) hm))
      · refine cw_exit ?_
        refine drop.of ?_
        refine cw_seq ?_
        refine cw_reg (l := [0, 1, 2, 3, 4]) rfl rfl ?_
        refine sgy (some 102) (Value.pointer r7.1) rfl rfl rfl (y_move rfl) ?_
        refine sgy (some 103) (Value.pointer r1.1) rfl rfl rfl (y_move rfl) ?_
        refine sgy (some 104) (S_law04_Pair.val (⟨r7.1, r1.1⟩ : S_law04_Pair)) rfl rfl rfl (y_build Try.underlying41 i41 rfl (sizes_cons i26 (sizes_cons i37 sizes_nil)) rfl (cs := #[(Value.pointer r7.1), (Value.pointer r1.1)]) rfl) ?_
        refine sg rfl rfl (b_alloc nd i41 rfl (c := #[(Value.pointer none), (Value.pointer none)]) rfl (fun b29 nd => ?_))
        refine sg rfl rfl (b_store 0 nd rfl rfl rfl i41 rfl rfl rfl (c' := #[(Value.pointer r7.1), (Value.pointer r1.1)]) rfl (fun nd => ?_))
        refine drop.of ?_
        refine cw_seq ?_
        refine cw_reg (l := [0, 1, 2, 3, 4]) rfl rfl ?_
        refine sgy (some 105) (Value.pointer r9.1) rfl rfl rfl (y_move rfl) ?_
        refine sgy (some 106) (Value.pointer r3.1) rfl rfl rfl (y_move rfl) ?_
        refine sgy (some 107) (S_law04_Pair.val (⟨r9.1, r3.1⟩ : S_law04_Pair)) rfl rfl rfl (y_build Try.underlying41 i41 rfl (sizes_cons i26 (sizes_cons i37 sizes_nil)) rfl (cs := #[(Value.pointer r9.1), (Value.pointer r3.1)]) rfl) ?_
        refine sg rfl rfl (b_alloc nd i41 rfl (c := #[(Value.pointer none), (Value.pointer none)]) rfl (fun b30 nd => ?_))
        refine sg rfl rfl (b_store 0 nd rfl rfl rfl i41 rfl rfl rfl (c' := #[(Value.pointer r9.1), (Value.pointer r3.1)]) rfl (fun nd => ?_))
        refine drop.of ?_
        refine cw_seq ?_
        refine cw_seq ?_
        refine cw_reg (l := [0]) rfl rfl ?_
        refine sgy (some 21) (Value.int .i64 0) rfl rfl rfl (y_assign rfl) ?_
        refine drop.of ?_
        refine cw_block ?_
        refine cw_loop [8, 21, 22, 108, 109, 110, 111, 112, 113, 114, 115, 116, 117, 118, 119, 120, 121, 122, 123, 124, 125, 126, 127, 128, 129, 130, 131, 132, 133, 134, 135, 136, 137, 138, 139, 140, 141, 142, 143, 144, 145, 146] (fun s31 => [(21, (Value.int .i64 s31))]) (fun s31 => [(b30, Obj.cells #[(Value.pointer r9.1), (Value.pointer r3.1)] 41 (0, 0)), (b29, Obj.cells #[(Value.pointer r7.1), (Value.pointer r1.1)] 41 (0, 0))]) hm rfl (fun _ => rfl) ⟨rfl, trivial⟩ rfl (fun _ => nd) (fun rec32 s31 h junk nd hm => ?_)
        refine cw_seq ?_
        refine cw_seq ?_
        refine cw_reg (l := [0, 1, 2, 3]) rfl rfl ?_
        refine sgy (some 108) (Value.int .i64 s31) rfl rfl rfl (y_move rfl) ?_
        refine sgy (some 109) (Sl.val a3) rfl rfl rfl (y_move rfl) ?_
        refine sgy (some 110) (Value.int .i64 (a3.len : Int)) rfl rfl rfl (y_len (s := a3) rfl rfl Try.underlying36) ?_
        refine sgy (some 111) (Value.bool (decide (s31 < (a3.len : Int)))) rfl rfl rfl (y_bin rfl rfl rfl) ?_
        refine drop.of ?_
        refine cw_ifm hm rfl (fun hc33 hm => ?_) (fun hc33 hm => ?_)
        · refine cw_skip ?_
          refine drop.of ?_
          refine cw_seq ?_
          refine cw_block ?_
          refine cw_seq ?_
          refine cw_reg (l := [0]) rfl rfl ?_
          refine sgy (some 22) (Value.bool true) rfl rfl rfl (y_assign rfl) ?_
          refine drop.of ?_
          refine cw_joinM hm [22, 114, 115, 116, 117, 118, 119, 120, 121, 122, 123, 124, 125, 126, 127, 128, 129, 130, 131, 132, 133, 134, 135, 136, 137, 138, 139, 140, 141, 142, 143, 144] (fun s34 => [(22, (Value.bool s34))]) (fun s34 => [(b30, Obj.cells #[(Value.pointer r9.1), (Value.pointer r3.1)] 41 (0, 0)), (b29, Obj.cells #[(Value.pointer r7.1), (Value.pointer r1.1)] 41 (0, 0))]) rfl (fun _ => nd) (fun hm => ?_) (fun s34 h junk nd hm => ?_)
          · refine cw_joinM hm [114, 115, 116, 117, 118, 119, 120, 121, 122] (fun s37 => [(122, (Value.bool s37))]) (fun s37 => [(b30, Obj.cells #[(Value.pointer r9.1), (Value.pointer r3.1)] 41 (0, 0)), (b29, Obj.cells #[(Value.pointer r7.1), (Value.pointer r1.1)] 41 (0, 0))]) rfl (fun _ => nd) (fun hm => ?_) (fun s37 h junk nd hm => ?_)
            · refine cw_reg (l := [0, 1, 2, 3, 4, 5, 6, 7, 8]) rfl rfl ?_
              refine sgy (some 114) (Sl.val a3) rfl rfl rfl (y_move rfl) ?_
              refine sgy (some 115) (Value.int .i64 s31) rfl rfl rfl (y_move rfl) ?_
              obtain ⟨a57, hq58, hm⟩ := hm
              refine sgy (some 116) (Value.pointer (some a57)) rfl rfl rfl (y_idx Try.underlying36 i43 rfl rfl hq58) ?_
              refine sgy (some 117) (Value.pointer (some (a57.add 0))) rfl rfl rfl (yv (y_fieldAddr rfl Try.underlying43 rfl i4 rfl) rfl) ?_
              refine sg rfl rfl (v_load hm rfl Try.underlying4 rfl Value.bool (fun _ => rfl) (fun x59 hm => ?_))
              refine sgy (some 119) (Value.bool x59) rfl rfl rfl (y_move rfl) ?_
              refine mIf_elim hm (fun hc60 hm => ?_) (fun hc60 hm => ?_)
              · refine sgy (some 120) (Value.pointer r9.1) rfl rfl (by exact wTT rfl rfl hc60) (y_move rfl) ?_
                refine sgy (some 121) (Value.bool (!r9.1.isNone)) rfl rfl (by exact wTT rfl rfl hc60) (y_neP Try.underlying26 rfl rfl) ?_
                refine sgy (some 122) (Value.bool (!r9.1.isNone)) rfl rfl rfl (y_pickT rfl hc60 rfl) ?_
                exact Exists.intro (!r9.1.isNone) (And.intro (And.intro rfl trivial) (And.intro (bx_drop nd 0) hm))
              · refine sgn (some 120) rfl rfl (by exact wTF rfl rfl hc60) ?_
                refine sgn (some 121) rfl rfl (by exact wTF rfl rfl hc60) ?_
                refine sgy (some 122) (Value.bool false) rfl rfl rfl (y_pickF rfl hc60 rfl) ?_
                exact Exists.intro false (And.intro (And.intro rfl trivial) (And.intro (bx_drop nd 0) hm))
            · refine cw_ifm hm rfl (fun hc39 hm => ?_) (fun hc39 hm => ?_)
              · refine cw_draw mixed rfl ?_
                refine tyy 1 (some 124) (Sl.val a3) rfl rfl (by kernel_rfl) (by kernel_rfl) (by kernel_rfl) rfl (y_move rfl) ?_
                refine tyy 2 (some 125) (Value.int .i64 s31) rfl rfl (by kernel_rfl) (by kernel_rfl) (by kernel_rfl) rfl (y_move rfl) ?_
                obtain ⟨a40, hq41, hm⟩ := hm
                refine tyy 3 (some 126) (Value.pointer (some a40)) rfl rfl (by kernel_rfl) (by kernel_rfl) (by kernel_rfl) rfl (y_idx Try.underlying36 i43 rfl rfl hq41) ?_
                refine trr 0 (some 123) (S_law04_Pair.val (⟨r9.1, r3.1⟩ : S_law04_Pair)) rfl rfl (by kernel_rfl) (by kernel_rfl) (by kernel_rfl) rfl (r_loadA 0 nd rfl rfl Try.underlying41 rfl i41 rfl) ?_
                refine tq 4 rfl (by kernel_rfl) (by kernel_rfl) (by kernel_rfl) rfl (v_loadA hm rfl Try.underlying43 rfl i43 S_law04_Step.val (fun _ => ⟨rfl, rfl⟩) (fun x42 hm => ?_))
                refine t1 5 rfl (by kernel_rfl) rfl (v_call (c_law04_Pair_step hm) callee20 rfl (fun v h hm => ?_))
                obtain ⟨r43, rfl, hm⟩ := hm
                refine tyy 6 (some 22) (Value.bool r43) rfl rfl (by kernel_rfl) (by kernel_rfl) (by kernel_rfl) rfl (y_assign rfl) ?_
                refine td (by kernel_rfl) ?_
                exact Exists.intro r43 (And.intro (And.intro rfl trivial) (And.intro (bx_drop nd 0) hm))
              · refine cw_joinM hm [129, 130, 131, 132, 133, 134, 135, 136, 137, 138] (fun s45 => [(138, (Value.bool s45))]) (fun s45 => [(b30, Obj.cells #[(Value.pointer r9.1), (Value.pointer r3.1)] 41 (0, 0)), (b29, Obj.cells #[(Value.pointer r7.1), (Value.pointer r1.1)] 41 (0, 0))]) rfl (fun _ => nd) (fun hm => ?_) (fun s45 h junk nd hm => ?_)
                · refine cw_reg (l := [0, 1, 2, 3, 4, 5, 6, 7, 8, 9]) rfl rfl ?_
                  refine sgy (some 129) (Sl.val a3) rfl rfl rfl (y_move rfl) ?_
                  refine sgy (some 130) (Value.int .i64 s31) rfl rfl rfl (y_move rfl) ?_
                  obtain ⟨a53, hq54, hm⟩ := hm
                  refine sgy (some 131) (Value.pointer (some a53)) rfl rfl rfl (y_idx Try.underlying36 i43 rfl rfl hq54) ?_
                  refine sgy (some 132) (Value.pointer (some (a53.add 0))) rfl rfl rfl (yv (y_fieldAddr rfl Try.underlying43 rfl i4 rfl) rfl) ?_
                  refine sg rfl rfl (v_load hm rfl Try.underlying4 rfl Value.bool (fun _ => rfl) (fun x55 hm => ?_))
                  refine sgy (some 134) (Value.bool (!x55)) rfl rfl rfl (y_not rfl) ?_
                  refine sgy (some 135) (Value.bool (!x55)) rfl rfl rfl (y_move rfl) ?_
                  refine mIf_elim hm (fun hc56 hm => ?_) (fun hc56 hm => ?_)
                  · refine sgy (some 136) (Value.pointer r7.1) rfl rfl (by exact wTT rfl rfl hc56) (y_move rfl) ?_
                    refine sgy (some 137) (Value.bool (!r7.1.isNone)) rfl rfl (by exact wTT rfl rfl hc56) (y_neP Try.underlying26 rfl rfl) ?_
                    refine sgy (some 138) (Value.bool (!r7.1.isNone)) rfl rfl rfl (y_pickT rfl hc56 rfl) ?_
                    exact Exists.intro (!r7.1.isNone) (And.intro (And.intro rfl trivial) (And.intro (bx_drop nd 0) hm))
                  · refine sgn (some 136) rfl rfl (by exact wTF rfl rfl hc56) ?_
                    refine sgn (some 137) rfl rfl (by exact wTF rfl rfl hc56) ?_
                    refine sgy (some 138) (Value.bool false) rfl rfl rfl (y_pickF rfl hc56 rfl) ?_
                    exact Exists.intro false (And.intro (And.intro rfl trivial) (And.intro (bx_drop nd 0) hm))
                · refine cw_ifm hm rfl (fun hc47 hm => ?_) (fun hc47 hm => ?_)
                  · refine cw_draw mixed rfl ?_
                    refine tyy 1 (some 140) (Sl.val a3) rfl rfl (by kernel_rfl) (by kernel_rfl) (by kernel_rfl) rfl (y_move rfl) ?_
                    refine tyy 2 (some 141) (Value.int .i64 s31) rfl rfl (by kernel_rfl) (by kernel_rfl) (by kernel_rfl) rfl (y_move rfl) ?_
                    obtain ⟨a48, hq49, hm⟩ := hm
                    refine tyy 3 (some 142) (Value.pointer (some a48)) rfl rfl (by kernel_rfl) (by kernel_rfl) (by kernel_rfl) rfl (y_idx Try.underlying36 i43 rfl rfl hq49) ?_
                    refine trr 0 (some 139) (S_law04_Pair.val (⟨r7.1, r1.1⟩ : S_law04_Pair)) rfl rfl (by kernel_rfl) (by kernel_rfl) (by kernel_rfl) rfl (r_loadA 1 nd rfl rfl Try.underlying41 rfl i41 rfl) ?_
                    refine tq 4 rfl (by kernel_rfl) (by kernel_rfl) (by kernel_rfl) rfl (v_loadA hm rfl Try.underlying43 rfl i43 S_law04_Step.val (fun _ => ⟨rfl, rfl⟩) (fun x50 hm => ?_))
                    refine t1 5 rfl (by kernel_rfl) rfl (v_call (c_law04_Pair_step hm) callee20 rfl (fun v h hm => ?_))
                    obtain ⟨r51, rfl, hm⟩ := hm
                    refine tyy 6 (some 22) (Value.bool r51) rfl rfl (by kernel_rfl) (by kernel_rfl) (by kernel_rfl) rfl (y_assign rfl) ?_
                    refine td (by kernel_rfl) ?_
                    exact Exists.intro r51 (And.intro (And.intro rfl trivial) (And.intro (bx_drop nd 0) hm))
                  · refine cw_skip ?_
                    exact Exists.intro true (And.intro (And.intro rfl trivial) (And.intro (bx_drop nd 0) hm))
          · refine cw_seq ?_
            refine cw_reg (l := [0, 1]) rfl rfl ?_
            refine sgy (some 145) (Value.bool s34) rfl rfl rfl (y_move rfl) ?_
            refine sgy (some 146) (Value.bool (!s34)) rfl rfl rfl (y_not rfl) ?_
            refine drop.of ?_
            refine cw_ifm hm rfl (fun hc36 hm => ?_) (fun hc36 hm => ?_)
            · refine cw_seq ?_
              refine cw_reg (l := [0]) rfl rfl ?_
              refine sgy (some 8) (Value.bool false) rfl rfl rfl (y_assign rfl) ?_
              refine drop.of ?_
              refine cw_ret ?_
              refine out_one [(Value.bool false)] (e_law04_DrawsAll false) Try.results4 ?_ rfl ?_
              · exact (And.intro (rfl) trivial)
              · exact Exists.intro false (And.intro rfl hm)
            · refine cw_skip ?_
              refine drop.of ?_
              refine cw_reg (l := [0, 1, 2]) rfl rfl ?_
              refine sgy (some 112) (Value.int .i64 s31) rfl rfl rfl (y_move rfl) ?_
              refine sgy (some 113) (Value.int .i64 (iAdd .i64 s31 1)) rfl rfl rfl (y_bin rfl rfl rfl) ?_
              refine sgy (some 21) (Value.int .i64 (iAdd .i64 s31 1)) rfl rfl rfl (y_assign rfl) ?_
              exact Exists.intro (iAdd .i64 s31 1) (And.intro (And.intro rfl trivial) (And.intro (bx_drop nd 0) hm))
        · refine cw_exit ?_
          refine drop.of ?_
          refine cw_seq ?_
          refine cw_reg (l := [0, 1, 2]) rfl rfl ?_
          refine sgy (some 147) (S_law04_Step.val (⟨false, 1, 0⟩ : S_law04_Step)) rfl rfl rfl (y_build Try.underlying43 i43 rfl (sizes_cons i4 (sizes_cons i3 (sizes_cons i3 sizes_nil))) rfl (cs := #[(Value.bool false), (Value.int .i64 1), (Value.int .i64 0)]) rfl) ?_
          refine sg rfl rfl (b_alloc nd i43 rfl (c := #[(Value.bool false), (Value.int .i64 0), (Value.int .i64 0)]) rfl (fun b61 nd => ?_))
          refine sg rfl rfl (b_store 0 nd rfl rfl rfl i43 rfl rfl rfl (c' := #[(Value.bool false), (Value.int .i64 1), (Value.int .i64 0)]) rfl (fun nd => ?_))
          refine drop.of ?_
          refine cw_seq ?_
          refine cw_reg (l := [0, 1, 2, 3, 4, 5, 6, 7, 8, 9, 10, 11, 12, 13, 14, 15, 16]) rfl rfl ?_
          refine sgy (some 148) (Value.pointer r7.1) rfl rfl rfl (y_move rfl) ?_
          refine sgy (some 149) (Value.bool (r7.1.isNone)) rfl rfl rfl (y_eqP Try.underlying26 rfl rfl) ?_
          refine sgy (some 150) (Value.bool (r7.1.isNone)) rfl rfl rfl (y_move rfl) ?_
          refine mIf_elim hm (fun hc62 hm => ?_) (fun hc62 hm => ?_)
          · refine sgn (some 151) rfl rfl (by exact wFT rfl rfl hc62) ?_
            refine sgn (some 152) rfl rfl (by exact wFT rfl rfl hc62) ?_
            refine sgn (some 153) rfl rfl (by exact wFT rfl rfl hc62) ?_
            refine sgy (some 154) (Value.bool true) rfl rfl rfl (y_pickT rfl hc62 rfl) ?_
            refine sgy (some 155) (Value.bool true) rfl rfl rfl (y_move rfl) ?_
            refine sgy (some 156) (Value.pointer r9.1) rfl rfl rfl (y_move rfl) ?_
            refine sgy (some 157) (Value.bool (r9.1.isNone)) rfl rfl rfl (y_eqP Try.underlying26 rfl rfl) ?_
            refine sgy (some 158) (Value.bool (r9.1.isNone)) rfl rfl rfl (y_move rfl) ?_
            refine mIf_elim hm (fun hc63 hm => ?_) (fun hc63 hm => ?_)
            · refine sgn (some 159) rfl rfl (by exact wFT rfl rfl hc63) ?_
              refine sgn (some 160) rfl rfl (by exact wFT rfl rfl hc63) ?_
              refine sgn (some 161) rfl rfl (by exact wFT rfl rfl hc63) ?_
              refine sgy (some 162) (Value.bool true) rfl rfl rfl (y_pickT rfl hc63 rfl) ?_
              refine sgy (some 163) (Value.bool true) rfl rfl rfl (y_pickT rfl rfl rfl) ?_
              refine sgy (some 8) (Value.bool true) rfl rfl rfl (y_assign rfl) ?_
              refine drop.of ?_
              refine cw_ret ?_
              refine out_one [(Value.bool true)] (e_law04_DrawsAll true) Try.results4 ?_ rfl ?_
              · exact (And.intro (rfl) trivial)
              · exact Exists.intro true (And.intro rfl hm)
            · refine sgr (some 159) (S_law04_Pair.val (⟨r9.1, r3.1⟩ : S_law04_Pair)) rfl rfl (by exact wFF rfl rfl hc63) (r_loadA 1 nd rfl rfl Try.underlying41 rfl i41 rfl) ?_
              refine sgr (some 160) (S_law04_Step.val (⟨false, 1, 0⟩ : S_law04_Step)) rfl rfl (by exact wFF rfl rfl hc63) (r_loadA 0 nd rfl rfl Try.underlying43 rfl i43 rfl) ?_
              refine sg rfl (by exact wFF rfl rfl hc63) (v_call (c_law04_Pair_step hm) callee20 rfl (fun v h hm => ?_))
              obtain ⟨r64, rfl, hm⟩ := hm
              refine sgy (some 162) (Value.bool r64) rfl rfl rfl (y_pickF rfl hc63 rfl) ?_
              refine sgy (some 163) (Value.bool r64) rfl rfl rfl (y_pickT rfl rfl rfl) ?_
              refine sgy (some 8) (Value.bool r64) rfl rfl rfl (y_assign rfl) ?_
              refine drop.of ?_
              refine cw_ret ?_
              refine out_one [(Value.bool r64)] (e_law04_DrawsAll r64) Try.results4 ?_ rfl ?_
              · exact (And.intro (rfl) trivial)
              · exact Exists.intro r64 (And.intro rfl hm)
          · refine sgr (some 151) (S_law04_Pair.val (⟨r7.1, r1.1⟩ : S_law04_Pair)) rfl rfl (by exact wFF rfl rfl hc62) (r_loadA 2 nd rfl rfl Try.underlying41 rfl i41 rfl) ?_
            refine sgr (some 152) (S_law04_Step.val (⟨false, 1, 0⟩ : S_law04_Step)) rfl rfl (by exact wFF rfl rfl hc62) (r_loadA 0 nd rfl rfl Try.underlying43 rfl i43 rfl) ?_
            refine sg rfl (by exact wFF rfl rfl hc62) (v_call (c_law04_Pair_step hm) callee20 rfl (fun v h hm => ?_))
            obtain ⟨r66, rfl, hm⟩ := hm
            refine sgy (some 154) (Value.bool r66) rfl rfl rfl (y_pickF rfl hc62 rfl) ?_
            refine sgy (some 155) (Value.bool r66) rfl rfl rfl (y_move rfl) ?_
            refine mIf_elim hm (fun hc68 hm => ?_) (fun hc68 hm => ?_)
            · refine sgy (some 156) (Value.pointer r9.1) rfl rfl (by exact wTT rfl rfl hc68) (y_move rfl) ?_
              refine sgy (some 157) (Value.bool (r9.1.isNone)) rfl rfl (by exact wTT rfl rfl hc68) (y_eqP Try.underlying26 rfl rfl) ?_
              refine sgy (some 158) (Value.bool (r9.1.isNone)) rfl rfl (by exact wTT rfl rfl hc68) (y_move rfl) ?_
              refine mIf_elim hm (fun hc69 hm => ?_) (fun hc69 hm => ?_)
              · refine sgn (some 159) rfl rfl (by exact wFT rfl rfl hc69) ?_
                refine sgn (some 160) rfl rfl (by exact wFT rfl rfl hc69) ?_
                refine sgn (some 161) rfl rfl (by exact wFT rfl rfl hc69) ?_
                refine sgy (some 162) (Value.bool true) rfl rfl (by exact wTT rfl rfl hc68) (y_pickT rfl hc69 rfl) ?_
                refine sgy (some 163) (Value.bool true) rfl rfl rfl (y_pickT rfl hc68 rfl) ?_
                refine sgy (some 8) (Value.bool true) rfl rfl rfl (y_assign rfl) ?_
                refine drop.of ?_
                refine cw_ret ?_
                refine out_one [(Value.bool true)] (e_law04_DrawsAll true) Try.results4 ?_ rfl ?_
                · exact (And.intro (rfl) trivial)
                · exact Exists.intro true (And.intro rfl hm)
              · refine sgr (some 159) (S_law04_Pair.val (⟨r9.1, r3.1⟩ : S_law04_Pair)) rfl rfl (by exact wFF rfl rfl hc69) (r_loadA 1 nd rfl rfl Try.underlying41 rfl i41 rfl) ?_
                refine sgr (some 160) (S_law04_Step.val (⟨false, 1, 0⟩ : S_law04_Step)) rfl rfl (by exact wFF rfl rfl hc69) (r_loadA 0 nd rfl rfl Try.underlying43 rfl i43 rfl) ?_
                refine sg rfl (by exact wFF rfl rfl hc69) (v_call (c_law04_Pair_step hm) callee20 rfl (fun v h hm => ?_))
                obtain ⟨r70, rfl, hm⟩ := hm
                refine sgy (some 162) (Value.bool r70) rfl rfl (by exact wTT rfl rfl hc68) (y_pickF rfl hc69 rfl) ?_
                refine sgy (some 163) (Value.bool r70) rfl rfl rfl (y_pickT rfl hc68 rfl) ?_
                refine sgy (some 8) (Value.bool r70) rfl rfl rfl (y_assign rfl) ?_
                refine drop.of ?_
                refine cw_ret ?_
                refine out_one [(Value.bool r70)] (e_law04_DrawsAll r70) Try.results4 ?_ rfl ?_
                · exact (And.intro (rfl) trivial)
                · exact Exists.intro r70 (And.intro rfl hm)
            · refine sgn (some 156) rfl rfl (by exact wTF rfl rfl hc68) ?_
              refine sgn (some 157) rfl rfl (by exact wTF rfl rfl hc68) ?_
              refine sgn (some 158) rfl rfl (by exact wTF rfl rfl hc68) ?_
              refine sgn (some 159) rfl rfl rfl ?_
              refine sgn (some 160) rfl rfl rfl ?_
              refine sgn (some 161) rfl rfl rfl ?_
              refine sgn (some 162) rfl rfl (by exact wTF rfl rfl hc68) ?_
              refine sgy (some 163) (Value.bool false) rfl rfl rfl (y_pickF rfl hc68 rfl) ?_
              refine sgy (some 8) (Value.bool false) rfl rfl rfl (y_assign rfl) ?_
              refine drop.of ?_
              refine cw_ret ?_
              refine out_one [(Value.bool false)] (e_law04_DrawsAll false) Try.results4 ?_ rfl ?_
              · exact (And.intro (rfl) trivial)
              · exact Exists.intro false (And.intro rfl hm)
end Go.Proofs.Ytnmaknkbdfpbkaa.K
