/- Printed by gen.py: what these functions of the program come to. -/
import Derived.Test.YtnmaknkbdfpbkaaT
import Derived.Test.YtnmaknkbdfpbkaaF0
import Derived.Test.YtnmaknkbdfpbkaaF1
import Derived.Test.YtnmaknkbdfpbkaaF3
namespace Go.Proofs.Ytnmaknkbdfpbkaa.K
open Go Go.Proofs
/-! sesame/sesamelaw04.DrawsInOrder -/
def e_law04_DrawsInOrder : Bool → Value := fun r => (Value.bool r)
def m_law04_DrawsInOrder (a0 : Sl) (a1 : Int) (a2 : Sl) (K : (Bool) → H → Prop) : H → Prop :=
  mJoin (fun (s1 : Sl) =>
    m_draws_New s1 (iAdd .i64 1 (iRem .i64 (iAdd .i64 (iRem .i64 a1 128) 128) 128)) fun r3 =>
    mJoin (fun (s5 : Bool) =>
      mIf s5 (
        K false
        ) (
        mLoop (fun (rec9 : Int → H → Prop) (s8 : Int) =>
          mJoin (fun (s10 : Bool) =>
            mIf s10 (
              mJoin (fun (s13 : Int) =>
                mLoop (fun (rec16 : Int × Int → H → Prop) (s15 : Int × Int) =>
                  mJoin (fun (s17 : Bool) =>
                    mIf s17 (
                      mJoin (fun (s20 : Bool) =>
                        mIf s20 (
                          K false
                          ) (
                          m_draws_Draws_Draw r3.1 fun r23 =>
                          mIf (decide (s15.1 = (s1.len : Int))) (
                            mJoin (fun (s27 : Bool) =>
                              mIf s27 (
                                K false
                                ) (
                                rec9 (iAdd .i64 s8 1)
                                )
                              ) (fun j28 =>
                              mIf (!decide (r23.2 = 11)) (
                                j28 true
                                ) (
                                j28 (!((decide (r23.1.Hi = 0)) && ((decide (r23.1.Lo = 0)) && true)))
                                )
                              )
                            ) (
                            mJoin (fun (s31 : Bool) =>
                              mIf s31 (
                                K false
                                ) (
                                rec16 ((iAdd .i64 s15.1 1), (iAdd .i64 s15.2 1))
                                )
                              ) (fun j32 =>
                              mIf (!decide (r23.2 = 0)) (
                                j32 true
                                ) (
                                mIdx s1 s15.1 2 fun a35 =>
                                mLoad S_api_Word.cells a35 fun x37 =>
                                mPure (m_law04_cut x37 (iAdd .i64 1 (iRem .i64 (iAdd .i64 (iRem .i64 a1 128) 128) 128))) fun r38 =>
                                j32 (!((decide (r23.1.Hi = r38.Hi)) && ((decide (r23.1.Lo = r38.Lo)) && true)))
                                )
                              )
                            )
                          )
                        ) (fun j21 =>
                        m_draws_Draws_Taken r3.1 fun r40 =>
                        mIf (!decide (r40 = s15.1)) (
                          j21 true
                          ) (
                          m_draws_Draws_Left r3.1 fun r43 =>
                          j21 (!decide (r43 = (iSub .i64 (s1.len : Int) s15.1)))
                          )
                        )
                      ) (
                      rec9 (iAdd .i64 s8 1)
                      )
                    ) (fun j18 =>
                    mIf (decide (s15.2 < 40)) (
                      j18 true
                      ) (
                      j18 (decide (s8 < 0))
                      )
                    )
                  ) (s13, 0)
                ) (fun j14 =>
                mIf (decide (0 ≤ s8)) (
                  m_draws_Draws_Taken r3.1 fun r47 =>
                  mIdx a2 s8 1 fun a49 =>
                  mLoad (cInt .i64) a49 fun x51 =>
                  m_draws_Draws_Skip r3.1 x51 fun r52 =>
                  mJoin (fun (s54 : Bool) =>
                    mIf s54 (
                      K false
                      ) (
                      mIf (decide (r52 = 0)) (
                        mIdx a2 s8 1 fun a58 =>
                        mLoad (cInt .i64) a58 fun x60 =>
                        j14 x60
                        ) (
                        j14 r47
                        )
                      )
                    ) (fun j55 =>
                    mIdx a2 s8 1 fun a61 =>
                    mLoad (cInt .i64) a61 fun x63 =>
                    mIf (decide (0 ≤ x63)) (
                      mIdx a2 s8 1 fun a65 =>
                      mLoad (cInt .i64) a65 fun x67 =>
                      mIf (!((decide (r52 = 0)) == (decide (x67 ≤ (s1.len : Int))))) (
                        j55 true
                        ) (
                        mIf (!decide (r52 = 0)) (
                          j55 (!decide (r52 = 5))
                          ) (
                          j55 false
                          )
                        )
                      ) (
                      mIf (!((decide (r52 = 0)) == false)) (
                        j55 true
                        ) (
                        mIf (!decide (r52 = 0)) (
                          j55 (!decide (r52 = 5))
                          ) (
                          j55 false
                          )
                        )
                      )
                    )
                  ) (
                  j14 0
                  )
                )
              ) (
              K true
              )
            ) (fun j11 =>
            mIf (decide (s8 < (a2.len : Int))) (
              j11 (decide (s8 < 12))
              ) (
              j11 false
              )
            )
          ) (-1)
        )
      ) (fun j6 =>
      m_law04_known fun r73 =>
      mIf (!r73) (
        j6 true
        ) (
        mIf (!decide (r3.2 = 0)) (
          j6 true
          ) (
          j6 (r3.1.isNone)
          )
        )
      )
    ) (fun j2 =>
    mIf (decide (4096 < (a0.len : Int))) (
      mCut a0 0 4096 2 fun s78 =>
      j2 s78
      ) (
      j2 a0
      )
    )
set_option maxRecDepth 100000 in
set_option maxHeartbeats 8000000 in
theorem c_law04_DrawsInOrder {a0 : Sl} {a1 : Int} {a2 : Sl} {K : (Bool) → H → Prop} {h : H} (hm : m_law04_DrawsInOrder a0 a1 a2 K h) : ACall Try.prog 5 #[(Sl.val a0), (Value.int .i64 a1), (Sl.val a2)] h (fun v h' => ∃ r, v = e_law04_DrawsInOrder r ∧ K r h') noP := by
  unfold m_law04_DrawsInOrder at hm
  have nd : (([] : List (Nat × Obj)).map Prod.fst).Nodup := List.nodup_nil
  refine cw_func Try.func5 rfl rfl ?_
  refine cw_seq ?_
  refine cw_reg (l := [0]) rfl rfl ?_
  refine sgy (some 6) (Value.bool false) rfl rfl rfl (y_assign rfl) ?_
  refine drop.of ?_
  refine cw_seq ?_
  refine cw_reg (l := [0, 1, 2, 3, 4, 5]) rfl rfl ?_
  refine sgy (some 15) (Value.int .i64 a1) rfl rfl rfl (y_move rfl) ?_
  refine sgy (some 16) (Value.int .i64 (iRem .i64 a1 128)) rfl rfl rfl (y_rem rfl rfl (by decide)) ?_
  refine sgy (some 17) (Value.int .i64 (iAdd .i64 (iRem .i64 a1 128) 128)) rfl rfl rfl (y_bin rfl rfl rfl) ?_
  refine sgy (some 18) (Value.int .i64 (iRem .i64 (iAdd .i64 (iRem .i64 a1 128) 128) 128)) rfl rfl rfl (y_rem rfl rfl (by decide)) ?_
  refine sgy (some 19) (Value.int .i64 (iAdd .i64 1 (iRem .i64 (iAdd .i64 (iRem .i64 a1 128) 128) 128))) rfl rfl rfl (y_bin rfl rfl rfl) ?_
  refine sgy (some 1) (Value.int .i64 (iAdd .i64 1 (iRem .i64 (iAdd .i64 (iRem .i64 a1 128) 128) 128))) rfl rfl rfl (y_assign rfl) ?_
  refine drop.of ?_
  refine cw_joinM hm [0, 20, 21, 22, 23, 24] (fun s1 => [(0, (Sl.val s1))]) (fun s1 => []) rfl (fun _ => nd) (fun hm => ?_) (fun s1 h junk nd hm => ?_)
  · refine cw_seq ?_
    refine cw_reg (l := [0, 1, 2]) rfl rfl ?_
    refine sgy (some 20) (Sl.val a0) rfl rfl rfl (y_move rfl) ?_
    refine sgy (some 21) (Value.int .i64 (a0.len : Int)) rfl rfl rfl (y_len (s := a0) rfl rfl Try.underlying22) ?_
    refine sgy (some 22) (Value.bool (decide (4096 < (a0.len : Int)))) rfl rfl rfl (y_bin rfl rfl rfl) ?_
    refine drop.of ?_
    refine cw_ifm hm rfl (fun hc77 hm => ?_) (fun hc77 hm => ?_)
    · refine cw_reg (l := [0, 1, 2]) rfl rfl ?_
      refine sgy (some 23) (Sl.val a0) rfl rfl rfl (y_move rfl) ?_
      obtain ⟨s78, hq79, hm⟩ := hm
      refine sgy (some 24) (Sl.val s78) rfl rfl rfl (y_cut Try.underlying22 i25 (s := a0) rfl rfl ⟨_, rfl⟩ hq79) ?_
      refine sgy (some 0) (Sl.val s78) rfl rfl rfl (y_assign rfl) ?_
      exact Exists.intro s78 (And.intro (And.intro rfl trivial) (And.intro (bx_drop nd 0) hm))
    · refine cw_skip ?_
      exact Exists.intro a0 (And.intro (And.intro rfl trivial) (And.intro (bx_drop nd 0) hm))
  · refine cw_seq ?_
    refine cw_reg (l := [0, 1, 2, 3, 4, 5, 6, 7]) rfl rfl ?_
    refine sgy (some 26) (Sl.val s1) rfl rfl rfl (y_move rfl) ?_
    refine sgy (some 27) (Value.int .i64 (iAdd .i64 1 (iRem .i64 (iAdd .i64 (iRem .i64 a1 128) 128) 128))) rfl rfl rfl (y_move rfl) ?_
    refine sg rfl rfl (v_call (c_draws_New hm) callee13 rfl (fun v h hm => ?_))
    obtain ⟨r3, rfl, hm⟩ := hm
    refine sgy (some 25) (Value.tuple #[(Value.pointer r3.1), (Value.int .i64 r3.2)]) rfl rfl rfl (y_move rfl) ?_
    refine sgy (some 29) (Value.pointer r3.1) rfl rfl rfl (y_extract rfl rfl) ?_
    refine sgy (some 30) (Value.int .i64 r3.2) rfl rfl rfl (y_extract rfl rfl) ?_
    refine sgy (some 7) (Value.pointer r3.1) rfl rfl rfl (y_assign rfl) ?_
    refine sgy (some 8) (Value.int .i64 r3.2) rfl rfl rfl (y_assign rfl) ?_
    refine drop.of ?_
    refine cw_seq ?_
    refine cw_joinM hm [31, 32, 33, 34, 35, 36, 37, 38, 39, 40] (fun s5 => [(40, (Value.bool s5))]) (fun s5 => []) rfl (fun _ => nd) (fun hm => ?_) (fun s5 h junk nd hm => ?_)
    · refine cw_reg (l := [0, 1, 2, 3, 4, 5, 6, 7, 8, 9]) rfl rfl ?_
      refine sg rfl rfl (v_call (c_law04_known hm) callee14 rfl (fun v h hm => ?_))
      obtain ⟨r73, rfl, hm⟩ := hm
      refine sgy (some 32) (Value.bool (!r73)) rfl rfl rfl (y_not rfl) ?_
      refine sgy (some 33) (Value.bool (!r73)) rfl rfl rfl (y_move rfl) ?_
      refine mIf_elim hm (fun hc75 hm => ?_) (fun hc75 hm => ?_)
      · refine sgn (some 34) rfl rfl (by exact wFT rfl rfl hc75) ?_
        refine sgn (some 35) rfl rfl (by exact wFT rfl rfl hc75) ?_
        refine sgy (some 36) (Value.bool true) rfl rfl rfl (y_pickT rfl hc75 rfl) ?_
        refine sgy (some 37) (Value.bool true) rfl rfl rfl (y_move rfl) ?_
        refine sgn (some 38) rfl rfl rfl ?_
        refine sgn (some 39) rfl rfl rfl ?_
        refine sgy (some 40) (Value.bool true) rfl rfl rfl (y_pickT rfl rfl rfl) ?_
        exact Exists.intro true (And.intro (And.intro rfl trivial) (And.intro (bx_drop nd 0) hm))
      · refine sgy (some 34) (Value.int .i64 r3.2) rfl rfl (by exact wFF rfl rfl hc75) (y_move rfl) ?_
        refine sgy (some 35) (Value.bool (!decide (r3.2 = 0))) rfl rfl (by exact wFF rfl rfl hc75) (y_bin rfl rfl rfl) ?_
        refine sgy (some 36) (Value.bool (!decide (r3.2 = 0))) rfl rfl rfl (y_pickF rfl hc75 rfl) ?_
        refine sgy (some 37) (Value.bool (!decide (r3.2 = 0))) rfl rfl rfl (y_move rfl) ?_
        refine mIf_elim hm (fun hc76 hm => ?_) (fun hc76 hm => ?_)
        · refine sgn (some 38) rfl rfl (by exact wFT rfl rfl hc76) ?_
          refine sgn (some 39) rfl rfl (by exact wFT rfl rfl hc76) ?_
          refine sgy (some 40) (Value.bool true) rfl rfl rfl (y_pickT rfl hc76 rfl) ?_
          exact Exists.intro true (And.intro (And.intro rfl trivial) (And.intro (bx_drop nd 0) hm))
        · refine sgy (some 38) (Value.pointer r3.1) rfl rfl (by exact wFF rfl rfl hc76) (y_move rfl) ?_
          refine sgy (some 39) (Value.bool (r3.1.isNone)) rfl rfl (by exact wFF rfl rfl hc76) (y_eqP Try.underlying26 rfl rfl) ?_
          refine sgy (some 40) (Value.bool (r3.1.isNone)) rfl rfl rfl (y_pickF rfl hc76 rfl) ?_
          exact Exists.intro (r3.1.isNone) (And.intro (And.intro rfl trivial) (And.intro (bx_drop nd 0) hm))
    · refine cw_ifm hm rfl (fun hc7 hm => ?_) (fun hc7 hm => ?_)
      · refine cw_seq ?_
        refine cw_reg (l := [0]) rfl rfl ?_
        refine sgy (some 6) (Value.bool false) rfl rfl rfl (y_assign rfl) ?_
        refine drop.of ?_
        refine cw_ret ?_
        refine out_one [(Value.bool false)] (e_law04_DrawsInOrder false) Try.results5 ?_ rfl ?_
        · exact (And.intro (rfl) trivial)
        · exact Exists.intro false (And.intro rfl hm)
      · refine cw_skip ?_
        refine drop.of ?_
        refine cw_seq ?_
        refine cw_seq ?_
        refine cw_reg (l := [0]) rfl rfl ?_
        refine sgy (some 9) (Value.int .i64 (-1)) rfl rfl rfl (y_assign rfl) ?_
        refine drop.of ?_
        refine cw_block ?_
        refine cw_loop [6, 9, 10, 11, 12, 13, 14, 41, 42, 43, 44, 45, 46, 47, 48, 49, 50, 51, 52, 53, 54, 55, 56, 57, 58, 59, 60, 61, 62, 63, 64, 65, 66, 67, 68, 69, 70, 71, 72, 73, 74, 75, 76, 77, 78, 79, 80, 81, 82, 83, 84, 85, 86, 87, 88, 89, 90, 91, 92, 93, 94, 95, 96, 97, 98, 99, 100, 101, 102, 103, 104, 105, 106, 107, 108, 109, 110, 111, 112, 113, 114, 115, 116, 117, 118, 119, 120, 121, 122, 123, 124, 125, 126, 127, 128, 129, 130, 131, 132, 133, 134, 135, 136, 137, 138, 139, 140, 141, 142] (fun s8 => [(9, (Value.int .i64 s8))]) (fun s8 => []) hm rfl (fun _ => rfl) ⟨rfl, trivial⟩ rfl (fun _ => nd) (fun rec9 s8 h junk nd hm => ?_)
        refine cw_seq ?_
        refine cw_joinM hm [41, 42, 43, 44, 45, 46, 47, 48] (fun s10 => [(48, (Value.bool s10))]) (fun s10 => []) rfl (fun _ => nd) (fun hm => ?_) (fun s10 h junk nd hm => ?_)
        · refine cw_reg (l := [0, 1, 2, 3, 4, 5, 6, 7]) rfl rfl ?_
          refine sgy (some 41) (Value.int .i64 s8) rfl rfl rfl (y_move rfl) ?_
          refine sgy (some 42) (Sl.val a2) rfl rfl rfl (y_move rfl) ?_
          refine sgy (some 43) (Value.int .i64 (a2.len : Int)) rfl rfl rfl (y_len (s := a2) rfl rfl Try.underlying46) ?_
          refine sgy (some 44) (Value.bool (decide (s8 < (a2.len : Int)))) rfl rfl rfl (y_bin rfl rfl rfl) ?_
          refine sgy (some 45) (Value.bool (decide (s8 < (a2.len : Int)))) rfl rfl rfl (y_move rfl) ?_
          refine mIf_elim hm (fun hc72 hm => ?_) (fun hc72 hm => ?_)
          · refine sgy (some 46) (Value.int .i64 s8) rfl rfl (by exact wTT rfl rfl hc72) (y_move rfl) ?_
            refine sgy (some 47) (Value.bool (decide (s8 < 12))) rfl rfl (by exact wTT rfl rfl hc72) (y_bin rfl rfl rfl) ?_
            refine sgy (some 48) (Value.bool (decide (s8 < 12))) rfl rfl rfl (y_pickT rfl hc72 rfl) ?_
            exact Exists.intro (decide (s8 < 12)) (And.intro (And.intro rfl trivial) (And.intro (bx_drop nd 0) hm))
          · refine sgn (some 46) rfl rfl (by exact wTF rfl rfl hc72) ?_
            refine sgn (some 47) rfl rfl (by exact wTF rfl rfl hc72) ?_
            refine sgy (some 48) (Value.bool false) rfl rfl rfl (y_pickF rfl hc72 rfl) ?_
            exact Exists.intro false (And.intro (And.intro rfl trivial) (And.intro (bx_drop nd 0) hm))
        · refine cw_ifm hm rfl (fun hc12 hm => ?_) (fun hc12 hm => ?_)
          · refine cw_skip ?_
            refine drop.of ?_
            refine cw_seq ?_
            refine cw_block ?_
            refine cw_seq ?_
            refine cw_reg (l := [0]) rfl rfl ?_
            refine sgy (some 10) (Value.int .i64 0) rfl rfl rfl (y_assign rfl) ?_
            refine drop.of ?_
            refine cw_joinM hm [6, 10, 11, 51, 52, 53, 54, 55, 56, 57, 58, 59, 60, 61, 62, 63, 64, 65, 66, 67, 68, 69, 70, 71, 72, 73, 74, 75, 76, 77, 78, 79, 80, 81, 82, 83, 84, 85, 86, 87, 88, 89, 90, 91] (fun s13 => [(10, (Value.int .i64 s13))]) (fun s13 => []) rfl (fun _ => nd) (fun hm => ?_) (fun s13 h junk nd hm => ?_)
            · refine cw_seq ?_
              refine cw_reg (l := [0, 1]) rfl rfl ?_
              refine sgy (some 51) (Value.int .i64 s8) rfl rfl rfl (y_move rfl) ?_
              refine sgy (some 52) (Value.bool (decide (0 ≤ s8))) rfl rfl rfl (y_bin rfl rfl rfl) ?_
              refine drop.of ?_
              refine cw_ifm hm rfl (fun hc46 hm => ?_) (fun hc46 hm => ?_)
              · refine cw_seq ?_
                refine cw_reg (l := [0, 1, 2]) rfl rfl ?_
                refine sgy (some 53) (Value.pointer r3.1) rfl rfl rfl (y_move rfl) ?_
                refine sg rfl rfl (v_call (c_draws_Draws_Taken hm) callee16 rfl (fun v h hm => ?_))
                obtain ⟨r47, rfl, hm⟩ := hm
                refine sgy (some 10) (Value.int .i64 r47) rfl rfl rfl (y_assign rfl) ?_
                refine drop.of ?_
                refine cw_seq ?_
                refine cw_reg (l := [0, 1, 2, 3, 4, 5, 6]) rfl rfl ?_
                refine sgy (some 55) (Value.pointer r3.1) rfl rfl rfl (y_move rfl) ?_
                refine sgy (some 56) (Sl.val a2) rfl rfl rfl (y_move rfl) ?_
                refine sgy (some 57) (Value.int .i64 s8) rfl rfl rfl (y_move rfl) ?_
                obtain ⟨a49, hq50, hm⟩ := hm
                refine sgy (some 58) (Value.pointer (some a49)) rfl rfl rfl (y_idx Try.underlying46 i3 rfl rfl hq50) ?_
                refine sg rfl rfl (v_load hm rfl Try.underlying3 rfl (Value.int .i64) (fun _ => rfl) (fun x51 hm => ?_))
                refine sg rfl rfl (v_call (c_draws_Draws_Skip hm) callee21 rfl (fun v h hm => ?_))
                obtain ⟨r52, rfl, hm⟩ := hm
                refine sgy (some 11) (Value.int .i64 r52) rfl rfl rfl (y_assign rfl) ?_
                refine drop.of ?_
                refine cw_seq ?_
                refine cw_joinM hm [61, 62, 63, 64, 65, 66, 67, 68, 69, 70, 71, 72, 73, 74, 75, 76, 77, 78, 79, 80, 81, 82, 83, 84, 85] (fun s54 => [(85, (Value.bool s54))]) (fun s54 => []) rfl (fun _ => nd) (fun hm => ?_) (fun s54 h junk nd hm => ?_)
                · refine cw_reg (l := [0, 1, 2, 3, 4, 5, 6, 7, 8, 9, 10, 11, 12, 13, 14, 15, 16, 17, 18, 19, 20, 21, 22, 23, 24]) rfl rfl ?_
                  refine sgy (some 61) (Value.int .i64 r52) rfl rfl rfl (y_move rfl) ?_
                  refine sgy (some 62) (Value.bool (decide (r52 = 0))) rfl rfl rfl (y_bin rfl rfl rfl) ?_
                  refine sgy (some 63) (Sl.val a2) rfl rfl rfl (y_move rfl) ?_
                  refine sgy (some 64) (Value.int .i64 s8) rfl rfl rfl (y_move rfl) ?_
                  obtain ⟨a61, hq62, hm⟩ := hm
                  refine sgy (some 65) (Value.pointer (some a61)) rfl rfl rfl (y_idx Try.underlying46 i3 rfl rfl hq62) ?_
                  refine sg rfl rfl (v_load hm rfl Try.underlying3 rfl (Value.int .i64) (fun _ => rfl) (fun x63 hm => ?_))
                  refine sgy (some 67) (Value.bool (decide (0 ≤ x63))) rfl rfl rfl (y_bin rfl rfl rfl) ?_
                  refine sgy (some 68) (Value.bool (decide (0 ≤ x63))) rfl rfl rfl (y_move rfl) ?_
                  refine mIf_elim hm (fun hc64 hm => ?_) (fun hc64 hm => ?_)
                  · refine sgy (some 69) (Sl.val a2) rfl rfl (by exact wTT rfl rfl hc64) (y_move rfl) ?_
                    refine sgy (some 70) (Value.int .i64 s8) rfl rfl (by exact wTT rfl rfl hc64) (y_move rfl) ?_
                    obtain ⟨a65, hq66, hm⟩ := hm
                    refine sgy (some 71) (Value.pointer (some a65)) rfl rfl (by exact wTT rfl rfl hc64) (y_idx Try.underlying46 i3 rfl rfl hq66) ?_
                    refine sg rfl (by exact wTT rfl rfl hc64) (v_load hm rfl Try.underlying3 rfl (Value.int .i64) (fun _ => rfl) (fun x67 hm => ?_))
                    refine sgy (some 73) (Sl.val s1) rfl rfl (by exact wTT rfl rfl hc64) (y_move rfl) ?_
                    refine sgy (some 74) (Value.int .i64 (s1.len : Int)) rfl rfl (by exact wTT rfl rfl hc64) (y_len (s := s1) rfl rfl Try.underlying22) ?_
                    refine sgy (some 75) (Value.bool (decide (x67 ≤ (s1.len : Int)))) rfl rfl (by exact wTT rfl rfl hc64) (y_bin rfl rfl rfl) ?_
                    refine sgy (some 76) (Value.bool (decide (x67 ≤ (s1.len : Int)))) rfl rfl rfl (y_pickT rfl hc64 rfl) ?_
                    refine sgy (some 77) (Value.bool (!((decide (r52 = 0)) == (decide (x67 ≤ (s1.len : Int)))))) rfl rfl rfl (y_neB Try.underlying4 rfl rfl) ?_
                    refine sgy (some 78) (Value.bool (!((decide (r52 = 0)) == (decide (x67 ≤ (s1.len : Int)))))) rfl rfl rfl (y_move rfl) ?_
                    refine mIf_elim hm (fun hc68 hm => ?_) (fun hc68 hm => ?_)
                    · refine sgn (some 79) rfl rfl (by exact wFT rfl rfl hc68) ?_
                      refine sgn (some 80) rfl rfl (by exact wFT rfl rfl hc68) ?_
                      refine sgn (some 81) rfl rfl (by exact wFT rfl rfl hc68) ?_
                      refine sgn (some 82) rfl rfl rfl ?_
                      refine sgn (some 83) rfl rfl rfl ?_
                      refine sgn (some 84) rfl rfl (by exact wFT rfl rfl hc68) ?_
                      refine sgy (some 85) (Value.bool true) rfl rfl rfl (y_pickT rfl hc68 rfl) ?_
                      exact Exists.intro true (And.intro (And.intro rfl trivial) (And.intro (bx_drop nd 0) hm))
                    · refine sgy (some 79) (Value.int .i64 r52) rfl rfl (by exact wFF rfl rfl hc68) (y_move rfl) ?_
                      refine sgy (some 80) (Value.bool (!decide (r52 = 0))) rfl rfl (by exact wFF rfl rfl hc68) (y_bin rfl rfl rfl) ?_
                      refine sgy (some 81) (Value.bool (!decide (r52 = 0))) rfl rfl (by exact wFF rfl rfl hc68) (y_move rfl) ?_
                      refine mIf_elim hm (fun hc69 hm => ?_) (fun hc69 hm => ?_)
                      · refine sgy (some 82) (Value.int .i64 r52) rfl rfl (by exact wTT rfl rfl hc69) (y_move rfl) ?_
                        refine sgy (some 83) (Value.bool (!decide (r52 = 5))) rfl rfl (by exact wTT rfl rfl hc69) (y_bin rfl rfl rfl) ?_
                        refine sgy (some 84) (Value.bool (!decide (r52 = 5))) rfl rfl (by exact wFF rfl rfl hc68) (y_pickT rfl hc69 rfl) ?_
                        refine sgy (some 85) (Value.bool (!decide (r52 = 5))) rfl rfl rfl (y_pickF rfl hc68 rfl) ?_
                        exact Exists.intro (!decide (r52 = 5)) (And.intro (And.intro rfl trivial) (And.intro (bx_drop nd 0) hm))
                      · refine sgn (some 82) rfl rfl (by exact wTF rfl rfl hc69) ?_
                        refine sgn (some 83) rfl rfl (by exact wTF rfl rfl hc69) ?_
                        refine sgy (some 84) (Value.bool false) rfl rfl (by exact wFF rfl rfl hc68) (y_pickF rfl hc69 rfl) ?_
                        refine sgy (some 85) (Value.bool false) rfl rfl rfl (y_pickF rfl hc68 rfl) ?_
                        exact Exists.intro false (And.intro (And.intro rfl trivial) (And.intro (bx_drop nd 0) hm))
                  · refine sgn (some 69) rfl rfl (by exact wTF rfl rfl hc64) ?_
                    refine sgn (some 70) rfl rfl (by exact wTF rfl rfl hc64) ?_
                    refine sgn (some 71) rfl rfl (by exact wTF rfl rfl hc64) ?_
                    refine sgn (some 72) rfl rfl (by exact wTF rfl rfl hc64) ?_
                    refine sgn (some 73) rfl rfl (by exact wTF rfl rfl hc64) ?_
                    refine sgn (some 74) rfl rfl (by exact wTF rfl rfl hc64) ?_
                    refine sgn (some 75) rfl rfl (by exact wTF rfl rfl hc64) ?_
                    refine sgy (some 76) (Value.bool false) rfl rfl rfl (y_pickF rfl hc64 rfl) ?_
                    refine sgy (some 77) (Value.bool (!((decide (r52 = 0)) == false))) rfl rfl rfl (y_neB Try.underlying4 rfl rfl) ?_
                    refine sgy (some 78) (Value.bool (!((decide (r52 = 0)) == false))) rfl rfl rfl (y_move rfl) ?_
                    refine mIf_elim hm (fun hc70 hm => ?_) (fun hc70 hm => ?_)
                    · refine sgn (some 79) rfl rfl (by exact wFT rfl rfl hc70) ?_
                      refine sgn (some 80) rfl rfl (by exact wFT rfl rfl hc70) ?_
                      refine sgn (some 81) rfl rfl (by exact wFT rfl rfl hc70) ?_
                      refine sgn (some 82) rfl rfl rfl ?_
                      refine sgn (some 83) rfl rfl rfl ?_
                      refine sgn (some 84) rfl rfl (by exact wFT rfl rfl hc70) ?_
                      refine sgy (some 85) (Value.bool true) rfl rfl rfl (y_pickT rfl hc70 rfl) ?_
                      exact Exists.intro true (And.intro (And.intro rfl trivial) (And.intro (bx_drop nd 0) hm))
                    · refine sgy (some 79) (Value.int .i64 r52) rfl rfl (by exact wFF rfl rfl hc70) (y_move rfl) ?_
                      refine sgy (some 80) (Value.bool (!decide (r52 = 0))) rfl rfl (by exact wFF rfl rfl hc70) (y_bin rfl rfl rfl) ?_
                      refine sgy (some 81) (Value.bool (!decide (r52 = 0))) rfl rfl (by exact wFF rfl rfl hc70) (y_move rfl) ?_
                      refine mIf_elim hm (fun hc71 hm => ?_) (fun hc71 hm => ?_)
                      · refine sgy (some 82) (Value.int .i64 r52) rfl rfl (by exact wTT rfl rfl hc71) (y_move rfl) ?_
                        refine sgy (some 83) (Value.bool (!decide (r52 = 5))) rfl rfl (by exact wTT rfl rfl hc71) (y_bin rfl rfl rfl) ?_
                        refine sgy (some 84) (Value.bool (!decide (r52 = 5))) rfl rfl (by exact wFF rfl rfl hc70) (y_pickT rfl hc71 rfl) ?_
                        refine sgy (some 85) (Value.bool (!decide (r52 = 5))) rfl rfl rfl (y_pickF rfl hc70 rfl) ?_
                        exact Exists.intro (!decide (r52 = 5)) (And.intro (And.intro rfl trivial) (And.intro (bx_drop nd 0) hm))
                      · refine sgn (some 82) rfl rfl (by exact wTF rfl rfl hc71) ?_
                        refine sgn (some 83) rfl rfl (by exact wTF rfl rfl hc71) ?_
                        refine sgy (some 84) (Value.bool false) rfl rfl (by exact wFF rfl rfl hc70) (y_pickF rfl hc71 rfl) ?_
                        refine sgy (some 85) (Value.bool false) rfl rfl rfl (y_pickF rfl hc70 rfl) ?_
                        exact Exists.intro false (And.intro (And.intro rfl trivial) (And.intro (bx_drop nd 0) hm))
                · refine cw_ifm hm rfl (fun hc56 hm => ?_) (fun hc56 hm => ?_)
                  · refine cw_seq ?_
                    refine cw_reg (l := [0]) rfl rfl ?_
                    refine sgy (some 6) (Value.bool false) rfl rfl rfl (y_assign rfl) ?_
                    refine drop.of ?_
                    refine cw_ret ?_
                    refine out_one [(Value.bool false)] (e_law04_DrawsInOrder false) Try.results5 ?_ rfl ?_
                    · exact (And.intro (rfl) trivial)
                    · exact Exists.intro false (And.intro rfl hm)
                  · refine cw_skip ?_
                    refine drop.of ?_
                    refine cw_seq ?_
                    refine cw_reg (l := [0, 1]) rfl rfl ?_
                    refine sgy (some 86) (Value.int .i64 r52) rfl rfl rfl (y_move rfl) ?_
                    refine sgy (some 87) (Value.bool (decide (r52 = 0))) rfl rfl rfl (y_bin rfl rfl rfl) ?_
                    refine drop.of ?_
                    refine cw_ifm hm rfl (fun hc57 hm => ?_) (fun hc57 hm => ?_)
                    · refine cw_reg (l := [0, 1, 2, 3, 4]) rfl rfl ?_
                      refine sgy (some 88) (Sl.val a2) rfl rfl rfl (y_move rfl) ?_
                      refine sgy (some 89) (Value.int .i64 s8) rfl rfl rfl (y_move rfl) ?_
                      obtain ⟨a58, hq59, hm⟩ := hm
                      refine sgy (some 90) (Value.pointer (some a58)) rfl rfl rfl (y_idx Try.underlying46 i3 rfl rfl hq59) ?_
                      refine sg rfl rfl (v_load hm rfl Try.underlying3 rfl (Value.int .i64) (fun _ => rfl) (fun x60 hm => ?_))
                      refine sgy (some 10) (Value.int .i64 x60) rfl rfl rfl (y_assign rfl) ?_
                      exact Exists.intro x60 (And.intro (And.intro rfl trivial) (And.intro (bx_drop nd 0) hm))
                    · refine cw_skip ?_
                      exact Exists.intro r47 (And.intro (And.intro rfl trivial) (And.intro (bx_drop nd 0) hm))
              · refine cw_skip ?_
                exact Exists.intro 0 (And.intro (And.intro rfl trivial) (And.intro (bx_drop nd 0) hm))
            · refine cw_seq ?_
              refine cw_reg (l := [0]) rfl rfl ?_
              refine sgy (some 12) (Value.int .i64 0) rfl rfl rfl (y_assign rfl) ?_
              refine drop.of ?_
              refine cw_block ?_
              refine cw_loop [6, 10, 12, 13, 14, 92, 93, 94, 95, 96, 97, 98, 99, 100, 101, 102, 103, 104, 105, 106, 107, 108, 109, 110, 111, 112, 113, 114, 115, 116, 117, 118, 119, 120, 121, 122, 123, 124, 125, 126, 127, 128, 129, 130, 131, 132, 133, 134, 135, 136, 137, 138, 139, 140, 141, 142] (fun s15 => [(10, (Value.int .i64 s15.1)), (12, (Value.int .i64 s15.2))]) (fun s15 => []) hm rfl (fun _ => rfl) ⟨rfl, rfl, trivial⟩ rfl (fun _ => nd) (fun rec16 s15 h junk nd hm => ?_)
              refine cw_seq ?_
              refine cw_joinM hm [92, 93, 94, 95, 96, 97] (fun s17 => [(97, (Value.bool s17))]) (fun s17 => []) rfl (fun _ => nd) (fun hm => ?_) (fun s17 h junk nd hm => ?_)
              · refine cw_reg (l := [0, 1, 2, 3, 4, 5]) rfl rfl ?_
                refine sgy (some 92) (Value.int .i64 s15.2) rfl rfl rfl (y_move rfl) ?_
                refine sgy (some 93) (Value.bool (decide (s15.2 < 40))) rfl rfl rfl (y_bin rfl rfl rfl) ?_
                refine sgy (some 94) (Value.bool (decide (s15.2 < 40))) rfl rfl rfl (y_move rfl) ?_
                refine mIf_elim hm (fun hc45 hm => ?_) (fun hc45 hm => ?_)
                · refine sgn (some 95) rfl rfl (by exact wFT rfl rfl hc45) ?_
                  refine sgn (some 96) rfl rfl (by exact wFT rfl rfl hc45) ?_
                  refine sgy (some 97) (Value.bool true) rfl rfl rfl (y_pickT rfl hc45 rfl) ?_
                  exact Exists.intro true (And.intro (And.intro rfl trivial) (And.intro (bx_drop nd 0) hm))
                · refine sgy (some 95) (Value.int .i64 s8) rfl rfl (by exact wFF rfl rfl hc45) (y_move rfl) ?_
                  refine sgy (some 96) (Value.bool (decide (s8 < 0))) rfl rfl (by exact wFF rfl rfl hc45) (y_bin rfl rfl rfl) ?_
                  refine sgy (some 97) (Value.bool (decide (s8 < 0))) rfl rfl rfl (y_pickF rfl hc45 rfl) ?_
                  exact Exists.intro (decide (s8 < 0)) (And.intro (And.intro rfl trivial) (And.intro (bx_drop nd 0) hm))
              · refine cw_ifm hm rfl (fun hc19 hm => ?_) (fun hc19 hm => ?_)
                · refine cw_skip ?_
                  refine drop.of ?_
                  refine cw_seq ?_
                  refine cw_block ?_
                  refine cw_seq ?_
                  refine cw_joinM hm [100, 101, 102, 103, 104, 105, 106, 107, 108, 109, 110, 111, 112] (fun s20 => [(112, (Value.bool s20))]) (fun s20 => []) rfl (fun _ => nd) (fun hm => ?_) (fun s20 h junk nd hm => ?_)
                  · refine cw_reg (l := [0, 1, 2, 3, 4, 5, 6, 7, 8, 9, 10, 11, 12]) rfl rfl ?_
                    refine sgy (some 100) (Value.pointer r3.1) rfl rfl rfl (y_move rfl) ?_
                    refine sg rfl rfl (v_call (c_draws_Draws_Taken hm) callee16 rfl (fun v h hm => ?_))
                    obtain ⟨r40, rfl, hm⟩ := hm
                    refine sgy (some 102) (Value.int .i64 s15.1) rfl rfl rfl (y_move rfl) ?_
                    refine sgy (some 103) (Value.bool (!decide (r40 = s15.1))) rfl rfl rfl (y_bin rfl rfl rfl) ?_
                    refine sgy (some 104) (Value.bool (!decide (r40 = s15.1))) rfl rfl rfl (y_move rfl) ?_
                    refine mIf_elim hm (fun hc42 hm => ?_) (fun hc42 hm => ?_)
                    · refine sgn (some 105) rfl rfl (by exact wFT rfl rfl hc42) ?_
                      refine sgn (some 106) rfl rfl (by exact wFT rfl rfl hc42) ?_
                      refine sgn (some 107) rfl rfl (by exact wFT rfl rfl hc42) ?_
                      refine sgn (some 108) rfl rfl (by exact wFT rfl rfl hc42) ?_
                      refine sgn (some 109) rfl rfl (by exact wFT rfl rfl hc42) ?_
                      refine sgn (some 110) rfl rfl (by exact wFT rfl rfl hc42) ?_
                      refine sgn (some 111) rfl rfl (by exact wFT rfl rfl hc42) ?_
                      refine sgy (some 112) (Value.bool true) rfl rfl rfl (y_pickT rfl hc42 rfl) ?_
                      exact Exists.intro true (And.intro (And.intro rfl trivial) (And.intro (bx_drop nd 0) hm))
                    · refine sgy (some 105) (Value.pointer r3.1) rfl rfl (by exact wFF rfl rfl hc42) (y_move rfl) ?_
                      refine sg rfl (by exact wFF rfl rfl hc42) (v_call (c_draws_Draws_Left hm) callee17 rfl (fun v h hm => ?_))
                      obtain ⟨r43, rfl, hm⟩ := hm
                      refine sgy (some 107) (Sl.val s1) rfl rfl (by exact wFF rfl rfl hc42) (y_move rfl) ?_
                      refine sgy (some 108) (Value.int .i64 (s1.len : Int)) rfl rfl (by exact wFF rfl rfl hc42) (y_len (s := s1) rfl rfl Try.underlying22) ?_
                      refine sgy (some 109) (Value.int .i64 s15.1) rfl rfl (by exact wFF rfl rfl hc42) (y_move rfl) ?_
                      refine sgy (some 110) (Value.int .i64 (iSub .i64 (s1.len : Int) s15.1)) rfl rfl (by exact wFF rfl rfl hc42) (y_bin rfl rfl rfl) ?_
                      refine sgy (some 111) (Value.bool (!decide (r43 = (iSub .i64 (s1.len : Int) s15.1)))) rfl rfl (by exact wFF rfl rfl hc42) (y_bin rfl rfl rfl) ?_
                      refine sgy (some 112) (Value.bool (!decide (r43 = (iSub .i64 (s1.len : Int) s15.1)))) rfl rfl rfl (y_pickF rfl hc42 rfl) ?_
                      exact Exists.intro (!decide (r43 = (iSub .i64 (s1.len : Int) s15.1))) (And.intro (And.intro rfl trivial) (And.intro (bx_drop nd 0) hm))
                  · refine cw_ifm hm rfl (fun hc22 hm => ?_) (fun hc22 hm => ?_)
                    · refine cw_seq ?_
                      refine cw_reg (l := [0]) rfl rfl ?_
                      refine sgy (some 6) (Value.bool false) rfl rfl rfl (y_assign rfl) ?_
                      refine drop.of ?_
                      refine cw_ret ?_
                      refine out_one [(Value.bool false)] (e_law04_DrawsInOrder false) Try.results5 ?_ rfl ?_
                      · exact (And.intro (rfl) trivial)
                      · exact Exists.intro false (And.intro rfl hm)
                    · refine cw_skip ?_
                      refine drop.of ?_
                      refine cw_seq ?_
                      refine cw_reg (l := [0, 1, 2, 3, 4, 5, 6, 7]) rfl rfl ?_
                      refine sgy (some 114) (Value.pointer r3.1) rfl rfl rfl (y_move rfl) ?_
                      refine sg rfl rfl (v_call (c_draws_Draws_Draw hm) callee15 rfl (fun v h hm => ?_))
                      obtain ⟨r23, rfl, hm⟩ := hm
                      refine sgy (some 113) (Value.tuple #[(S_api_Word.val r23.1), (Value.int .i64 r23.2)]) rfl rfl rfl (y_move rfl) ?_
                      refine sgy (some 116) (S_api_Word.val r23.1) rfl rfl rfl (y_extract rfl rfl) ?_
                      refine sgy (some 117) (Value.int .i64 r23.2) rfl rfl rfl (y_extract rfl rfl) ?_
                      refine sg rfl rfl (b_alloc nd i25 rfl (c := #[(Value.int .u64 0), (Value.int .u64 0)]) rfl (fun b25 nd => ?_))
                      refine sg rfl rfl (b_store 0 nd rfl rfl rfl i25 rfl rfl rfl (c' := #[(Value.int .u64 r23.1.Hi), (Value.int .u64 r23.1.Lo)]) rfl (fun nd => ?_))
                      refine sgy (some 14) (Value.int .i64 r23.2) rfl rfl rfl (y_assign rfl) ?_
                      refine drop.of ?_
                      refine cw_seq ?_
                      refine cw_seq ?_
                      refine cw_reg (l := [0, 1, 2, 3]) rfl rfl ?_
                      refine sgy (some 118) (Value.int .i64 s15.1) rfl rfl rfl (y_move rfl) ?_
                      refine sgy (some 119) (Sl.val s1) rfl rfl rfl (y_move rfl) ?_
                      refine sgy (some 120) (Value.int .i64 (s1.len : Int)) rfl rfl rfl (y_len (s := s1) rfl rfl Try.underlying22) ?_
                      refine sgy (some 121) (Value.bool (decide (s15.1 = (s1.len : Int)))) rfl rfl rfl (y_bin rfl rfl rfl) ?_
                      refine drop.of ?_
                      refine cw_ifm hm rfl (fun hc26 hm => ?_) (fun hc26 hm => ?_)
                      · refine cw_seq ?_
                        refine cw_joinM hm [122, 123, 124, 125, 126, 127, 128] (fun s27 => [(128, (Value.bool s27))]) (fun s27 => [(b25, Obj.cells #[(Value.int .u64 r23.1.Hi), (Value.int .u64 r23.1.Lo)] 25 (0, 0))]) rfl (fun _ => nd) (fun hm => ?_) (fun s27 h junk nd hm => ?_)
                        · refine cw_reg (l := [0, 1, 2, 3, 4, 5, 6]) rfl rfl ?_
                          refine sgy (some 122) (Value.int .i64 r23.2) rfl rfl rfl (y_move rfl) ?_
                          refine sgy (some 123) (Value.bool (!decide (r23.2 = 11))) rfl rfl rfl (y_bin rfl rfl rfl) ?_
                          refine sgy (some 124) (Value.bool (!decide (r23.2 = 11))) rfl rfl rfl (y_move rfl) ?_
                          refine mIf_elim hm (fun hc30 hm => ?_) (fun hc30 hm => ?_)
                          · refine sgn (some 125) rfl rfl (by exact wFT rfl rfl hc30) ?_
                            refine sgn (some 126) rfl rfl (by exact wFT rfl rfl hc30) ?_
                            refine sgn (some 127) rfl rfl (by exact wFT rfl rfl hc30) ?_
                            refine sgy (some 128) (Value.bool true) rfl rfl rfl (y_pickT rfl hc30 rfl) ?_
                            exact Exists.intro true (And.intro (And.intro rfl trivial) (And.intro (bx_drop nd 0) hm))
                          · refine sgr (some 125) (S_api_Word.val r23.1) rfl rfl (by exact wFF rfl rfl hc30) (r_loadA 0 nd rfl rfl Try.underlying25 rfl i25 rfl) ?_
                            refine sgy (some 126) (S_api_Word.val (⟨0, 0⟩ : S_api_Word)) rfl rfl (by exact wFF rfl rfl hc30) (y_build Try.underlying25 i25 rfl (sizes_cons i23 (sizes_cons i23 sizes_nil)) rfl (cs := #[(Value.int .u64 0), (Value.int .u64 0)]) rfl) ?_
                            refine sgy (some 127) (Value.bool (!((decide (r23.1.Hi = 0)) && ((decide (r23.1.Lo = 0)) && true)))) rfl rfl (by exact wFF rfl rfl hc30) (y_neA (n := 2) Try.eqGuardType25 rfl rfl (eq_struct (n := 1) Try.underlying25 Try.stoodInHeld25 (efs_cons rfl (part_one Try.underlying23 rfl rfl) (part_one Try.underlying23 rfl rfl) (eq_int Try.underlying23) rfl (efs_cons rfl (part_one Try.underlying23 rfl rfl) (part_one Try.underlying23 rfl rfl) (eq_int Try.underlying23) rfl efs_nil))) rfl) ?_
                            refine sgy (some 128) (Value.bool (!((decide (r23.1.Hi = 0)) && ((decide (r23.1.Lo = 0)) && true)))) rfl rfl rfl (y_pickF rfl hc30 rfl) ?_
                            exact Exists.intro (!((decide (r23.1.Hi = 0)) && ((decide (r23.1.Lo = 0)) && true))) (And.intro (And.intro rfl trivial) (And.intro (bx_drop nd 0) hm))
                        · refine cw_ifm hm rfl (fun hc29 hm => ?_) (fun hc29 hm => ?_)
                          · refine cw_seq ?_
                            refine cw_reg (l := [0]) rfl rfl ?_
                            refine sgy (some 6) (Value.bool false) rfl rfl rfl (y_assign rfl) ?_
                            refine drop.of ?_
                            refine cw_ret ?_
                            refine out_one [(Value.bool false)] (e_law04_DrawsInOrder false) Try.results5 ?_ rfl ?_
                            · exact (And.intro (rfl) trivial)
                            · exact Exists.intro false (And.intro rfl hm)
                          · refine cw_skip ?_
                            refine drop.of ?_
                            refine cw_exit ?_
                            refine drop.of ?_
                            refine cw_reg (l := [0, 1, 2]) rfl rfl ?_
                            refine sgy (some 49) (Value.int .i64 s8) rfl rfl rfl (y_move rfl) ?_
                            refine sgy (some 50) (Value.int .i64 (iAdd .i64 s8 1)) rfl rfl rfl (y_bin rfl rfl rfl) ?_
                            refine sgy (some 9) (Value.int .i64 (iAdd .i64 s8 1)) rfl rfl rfl (y_assign rfl) ?_
                            exact Exists.intro (iAdd .i64 s8 1) (And.intro (And.intro rfl trivial) (And.intro (bx_drop nd 1) hm))
                      · refine cw_skip ?_
                        refine drop.of ?_
                        refine cw_seq ?_
                        refine cw_joinM hm [129, 130, 131, 132, 133, 134, 135, 136, 137, 138, 139, 140] (fun s31 => [(140, (Value.bool s31))]) (fun s31 => [(b25, Obj.cells #[(Value.int .u64 r23.1.Hi), (Value.int .u64 r23.1.Lo)] 25 (0, 0))]) rfl (fun _ => nd) (fun hm => ?_) (fun s31 h junk nd hm => ?_)
                        · refine cw_draw mixed rfl ?_
                          refine tyy 0 (some 129) (Value.int .i64 r23.2) rfl rfl (by kernel_rfl) (by kernel_rfl) (by kernel_rfl) rfl (y_move rfl) ?_
                          refine tyy 1 (some 130) (Value.bool (!decide (r23.2 = 0))) rfl rfl (by kernel_rfl) (by kernel_rfl) (by kernel_rfl) rfl (y_bin rfl rfl rfl) ?_
                          refine tyy 2 (some 131) (Value.bool (!decide (r23.2 = 0))) rfl rfl (by kernel_rfl) (by kernel_rfl) (by kernel_rfl) rfl (y_move rfl) ?_
                          refine mIf_elim hm (fun hc34 hm => ?_) (fun hc34 hm => ?_)
                          · refine tnn 3 (some 132) rfl rfl (by kernel_rfl) (by kernel_rfl) (by kernel_rfl) (by exact wFT rfl rfl hc34) ?_
                            refine tnn 4 (some 133) rfl rfl (by kernel_rfl) (by kernel_rfl) (by kernel_rfl) (by exact wFT rfl rfl hc34) ?_
                            refine tnn 5 (some 134) rfl rfl (by kernel_rfl) (by kernel_rfl) (by kernel_rfl) (by exact wFT rfl rfl hc34) ?_
                            refine tnn 6 (some 135) rfl rfl (by kernel_rfl) (by kernel_rfl) (by kernel_rfl) (by exact wFT rfl rfl hc34) ?_
                            refine tnn 7 (some 136) rfl rfl (by kernel_rfl) (by kernel_rfl) (by kernel_rfl) (by exact wFT rfl rfl hc34) ?_
                            refine tnn 8 (some 137) rfl rfl (by kernel_rfl) (by kernel_rfl) (by kernel_rfl) (by exact wFT rfl rfl hc34) ?_
                            refine tnn 9 (some 138) rfl rfl (by kernel_rfl) (by kernel_rfl) (by kernel_rfl) (by exact wFT rfl rfl hc34) ?_
                            refine tnn 10 (some 139) rfl rfl (by kernel_rfl) (by kernel_rfl) (by kernel_rfl) (by exact wFT rfl rfl hc34) ?_
                            refine tyy 11 (some 140) (Value.bool true) rfl rfl (by kernel_rfl) (by kernel_rfl) (by kernel_rfl) rfl (y_pickT rfl hc34 rfl) ?_
                            refine td (by kernel_rfl) ?_
                            exact Exists.intro true (And.intro (And.intro rfl trivial) (And.intro (bx_drop nd 0) hm))
                          · refine trr 3 (some 132) (S_api_Word.val r23.1) rfl rfl (by kernel_rfl) (by kernel_rfl) (by kernel_rfl) (by exact wFF rfl rfl hc34) (r_loadA 0 nd rfl rfl Try.underlying25 rfl i25 rfl) ?_
                            refine tyy 4 (some 133) (Sl.val s1) rfl rfl (by kernel_rfl) (by kernel_rfl) (by kernel_rfl) (by exact wFF rfl rfl hc34) (y_move rfl) ?_
                            refine tyy 5 (some 134) (Value.int .i64 s15.1) rfl rfl (by kernel_rfl) (by kernel_rfl) (by kernel_rfl) (by exact wFF rfl rfl hc34) (y_move rfl) ?_
                            obtain ⟨a35, hq36, hm⟩ := hm
                            refine tyy 6 (some 135) (Value.pointer (some a35)) rfl rfl (by kernel_rfl) (by kernel_rfl) (by kernel_rfl) (by exact wFF rfl rfl hc34) (y_idx Try.underlying22 i25 rfl rfl hq36) ?_
                            refine tyy 8 (some 137) (Value.int .i64 (iAdd .i64 1 (iRem .i64 (iAdd .i64 (iRem .i64 a1 128) 128) 128))) rfl rfl (by kernel_rfl) (by kernel_rfl) (by kernel_rfl) (by exact wFF rfl rfl hc34) (y_move rfl) ?_
                            refine tq 7 rfl (by kernel_rfl) (by kernel_rfl) (by kernel_rfl) (by exact wFF rfl rfl hc34) (v_loadA hm rfl Try.underlying25 rfl i25 S_api_Word.val (fun _ => ⟨rfl, rfl⟩) (fun x37 hm => ?_))
                            obtain ⟨r38, hq39, hm⟩ := hm
                            refine tyy 9 (some 138) (e_law04_cut r38) rfl rfl (by kernel_rfl) (by kernel_rfl) (by kernel_rfl) (by exact wFF rfl rfl hc34) (y_call (enc := e_law04_cut) hq39 (fun k h hk => c_law04_cut hk) callee18 rfl) ?_
                            refine tyy 10 (some 139) (Value.bool (!((decide (r23.1.Hi = r38.Hi)) && ((decide (r23.1.Lo = r38.Lo)) && true)))) rfl rfl (by kernel_rfl) (by kernel_rfl) (by kernel_rfl) (by exact wFF rfl rfl hc34) (y_neA (n := 2) Try.eqGuardType25 rfl rfl (eq_struct (n := 1) Try.underlying25 Try.stoodInHeld25 (efs_cons rfl (part_one Try.underlying23 rfl rfl) (part_one Try.underlying23 rfl rfl) (eq_int Try.underlying23) rfl (efs_cons rfl (part_one Try.underlying23 rfl rfl) (part_one Try.underlying23 rfl rfl) (eq_int Try.underlying23) rfl efs_nil))) rfl) ?_
                            refine tyy 11 (some 140) (Value.bool (!((decide (r23.1.Hi = r38.Hi)) && ((decide (r23.1.Lo = r38.Lo)) && true)))) rfl rfl (by kernel_rfl) (by kernel_rfl) (by kernel_rfl) rfl (y_pickF rfl hc34 rfl) ?_
                            refine td (by kernel_rfl) ?_
                            exact Exists.intro (!((decide (r23.1.Hi = r38.Hi)) && ((decide (r23.1.Lo = r38.Lo)) && true))) (And.intro (And.intro rfl trivial) (And.intro (bx_drop nd 0) hm))
                        · refine cw_ifm hm rfl (fun hc33 hm => ?_) (fun hc33 hm => ?_)
                          · refine cw_seq ?_
                            refine cw_reg (l := [0]) rfl rfl ?_
                            refine sgy (some 6) (Value.bool false) rfl rfl rfl (y_assign rfl) ?_
                            refine drop.of ?_
                            refine cw_ret ?_
                            refine out_one [(Value.bool false)] (e_law04_DrawsInOrder false) Try.results5 ?_ rfl ?_
                            · exact (And.intro (rfl) trivial)
                            · exact Exists.intro false (And.intro rfl hm)
                          · refine cw_skip ?_
                            refine drop.of ?_
                            refine cw_reg (l := [0, 1, 2]) rfl rfl ?_
                            refine sgy (some 141) (Value.int .i64 s15.1) rfl rfl rfl (y_move rfl) ?_
                            refine sgy (some 142) (Value.int .i64 (iAdd .i64 s15.1 1)) rfl rfl rfl (y_bin rfl rfl rfl) ?_
                            refine sgy (some 10) (Value.int .i64 (iAdd .i64 s15.1 1)) rfl rfl rfl (y_assign rfl) ?_
                            refine drop.of ?_
                            refine cw_reg (l := [0, 1, 2]) rfl rfl ?_
                            refine sgy (some 98) (Value.int .i64 s15.2) rfl rfl rfl (y_move rfl) ?_
                            refine sgy (some 99) (Value.int .i64 (iAdd .i64 s15.2 1)) rfl rfl rfl (y_bin rfl rfl rfl) ?_
                            refine sgy (some 12) (Value.int .i64 (iAdd .i64 s15.2 1)) rfl rfl rfl (y_assign rfl) ?_
                            exact Exists.intro ((iAdd .i64 s15.1 1), (iAdd .i64 s15.2 1)) (And.intro (And.intro rfl (And.intro rfl trivial)) (And.intro (bx_drop nd 1) hm))
                · refine cw_exit ?_
                  refine drop.of ?_
                  refine cw_reg (l := [0, 1, 2]) rfl rfl ?_
                  refine sgy (some 49) (Value.int .i64 s8) rfl rfl rfl (y_move rfl) ?_
                  refine sgy (some 50) (Value.int .i64 (iAdd .i64 s8 1)) rfl rfl rfl (y_bin rfl rfl rfl) ?_
                  refine sgy (some 9) (Value.int .i64 (iAdd .i64 s8 1)) rfl rfl rfl (y_assign rfl) ?_
                  exact Exists.intro (iAdd .i64 s8 1) (And.intro (And.intro rfl trivial) (And.intro (bx_drop nd 0) hm))
          · refine cw_exit ?_
            refine drop.of ?_
            refine cw_seq ?_
            refine cw_reg (l := [0]) rfl rfl ?_
            refine sgy (some 6) (Value.bool true) rfl rfl rfl (y_assign rfl) ?_
            refine drop.of ?_
            refine cw_ret ?_
            refine out_one [(Value.bool true)] (e_law04_DrawsInOrder true) Try.results5 ?_ rfl ?_
            · exact (And.intro (rfl) trivial)
            · exact Exists.intro true (And.intro rfl hm)
end Go.Proofs.Ytnmaknkbdfpbkaa.K
