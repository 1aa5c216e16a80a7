/- Functions of the program, printed by a program of mine: law04_DrawsApart -/
import Derived.Test.YtnmaknkbdfpbkaaT
import Derived.Test.YtnmaknkbdfpbkaaFdraws
import Derived.Test.YtnmaknkbdfpbkaaFlaw04
namespace Go.Proofs.Ytnmaknkbdfpbkaa.K
open Go Go.Proofs
/-! sesame/sesamelaw04.DrawsApart -/
def e_law04_DrawsApart : Bool → Value := fun r => (Value.bool r)
def m_law04_DrawsApart (a0 : Sl) (a1 : Int) (K : (Bool) → H → Prop) : H → Prop :=
  mJoin (fun (s1 : Sl) =>
    mNew 25 #[] fun a3 =>
    mAppend 25 2 16 #[(Value.int .u64 0), (Value.int .u64 0)] (⟨some a3, 0, 0⟩ : Sl) s1 fun s4 =>
    mApp 25 2 16 #[(Value.int .u64 0), (Value.int .u64 0)] 2 [(Value.int .u64 7), (Value.int .u64 0), (Value.int .u64 8), (Value.int .u64 0)] s4 fun s6 =>
    mCut s6 0 (s1.len : Int) 2 fun s7 =>
    m_draws_New s7 (iAdd .i64 1 (iRem .i64 (iAdd .i64 (iRem .i64 a1 128) 128) 128)) fun r9 =>
    mCut s6 0 (s1.len : Int) 2 fun s11 =>
    m_draws_New s11 (iAdd .i64 1 (iRem .i64 (iAdd .i64 (iRem .i64 a1 128) 128) 128)) fun r13 =>
    mJoin (fun (s15 : Bool) =>
      mIf s15 (
        K false
        ) (
        mLoop (fun (rec19 : Int → H → Prop) (s18 : Int) =>
          mIf (decide (s18 < (s1.len : Int))) (
            m_draws_Draws_Draw r9.1 fun r21 =>
            rec19 (iAdd .i64 s18 1)
            ) (
            mJoin (fun (s23 : Bool) =>
              mIf s23 (
                K false
                ) (
                mLoop (fun (rec27 : Int → H → Prop) (s26 : Int) =>
                  mIf (decide (s26 < (s1.len : Int))) (
                    mIdx s6 s26 2 fun a29 =>
                    mIdx s1 s26 2 fun a31 =>
                    mLoad S_api_Word.cells a29 fun x33 =>
                    mLoad S_api_Word.cells a31 fun x34 =>
                    mIf (!((decide (x33.Hi = x34.Hi)) && ((decide (x33.Lo = x34.Lo)) && true))) (
                      K false
                      ) (
                      mIdx s6 s26 2 fun a36 =>
                      mIdx s6 s26 2 fun a38 =>
                      mLoad (cInt .u64) (a36.add 0) fun x40 =>
                      mLoad (cInt .u64) (a38.add 1) fun x41 =>
                      mIdx s6 s26 2 fun a42 =>
                      mStore a42 [(Value.int .u64 (iAdd .u64 x40 1)), (Value.int .u64 (iAdd .u64 x41 1))] <|
                      rec27 (iAdd .i64 s26 1)
                      )
                    ) (
                    mJoin (fun (s44 : Bool) =>
                      mIf s44 (
                        K false
                        ) (
                        mLoop (fun (rec48 : Int → H → Prop) (s47 : Int) =>
                          mIf (decide (s47 < (s1.len : Int))) (
                            m_draws_Draws_Draw r13.1 fun r50 =>
                            mJoin (fun (s53 : Bool) =>
                              mIf s53 (
                                K false
                                ) (
                                rec48 (iAdd .i64 s47 1)
                                )
                              ) (fun j54 =>
                              mIf (!decide (r50.2 = 0)) (
                                j54 true
                                ) (
                                mIdx s1 s47 2 fun a57 =>
                                mLoad S_api_Word.cells a57 fun x59 =>
                                mPure (m_law04_cut x59 (iAdd .i64 1 (iRem .i64 (iAdd .i64 (iRem .i64 a1 128) 128) 128))) fun r60 =>
                                j54 (!((decide (r50.1.Hi = r60.Hi)) && ((decide (r50.1.Lo = r60.Lo)) && true)))
                                )
                              )
                            ) (
                            m_draws_Draws_Left r13.1 fun r62 =>
                            K (decide (r62 = 0))
                            )
                          ) 0
                        )
                      ) (fun j45 =>
                      m_draws_Draws_Taken r13.1 fun r64 =>
                      mIf (!decide (r64 = 0)) (
                        j45 true
                        ) (
                        m_draws_Draws_Left r9.1 fun r67 =>
                        j45 (!decide (r67 = 0))
                        )
                      )
                    )
                  ) 0
                )
              ) (fun j24 =>
              mIdx s6 (s1.len : Int) 2 fun a69 =>
              mLoad S_api_Word.cells a69 fun x71 =>
              mIf (!((decide (x71.Hi = 7)) && ((decide (x71.Lo = 0)) && true))) (
                j24 true
                ) (
                mIdx s6 (iAdd .i64 (s1.len : Int) 1) 2 fun a73 =>
                mLoad S_api_Word.cells a73 fun x75 =>
                j24 (!((decide (x75.Hi = 8)) && ((decide (x75.Lo = 0)) && true)))
                )
              )
            )
          ) 0
        )
      ) (fun j16 =>
      m_law04_known fun r76 =>
      mIf (!r76) (
        j16 true
        ) (
        mIf (!decide (r9.2 = 0)) (
          j16 true
          ) (
          mIf (!decide (r13.2 = 0)) (
            j16 true
            ) (
            mIf (r9.1.isNone) (
              j16 true
              ) (
              j16 (r13.1.isNone)
              )
            )
          )
        )
      )
    ) (fun j2 =>
    mIf (decide (4000 < (a0.len : Int))) (
      mCut a0 0 4000 2 fun s83 =>
      j2 s83
      ) (
      j2 a0
      )
    )
set_option maxRecDepth 100000 in
set_option maxHeartbeats 8000000 in
theorem c_law04_DrawsApart {a0 : Sl} {a1 : Int} {K : (Bool) → H → Prop} {h : H} (hm : m_law04_DrawsApart a0 a1 K h) : ACall Try.prog 3 #[(Sl.val a0), (Value.int .i64 a1)] h (fun v h' => ∃ r, v = e_law04_DrawsApart r ∧ K r h') noP := by
  unfold m_law04_DrawsApart at hm
  have nd : (([] : List (Nat × Obj)).map Prod.fst).Nodup := List.nodup_nil
  refine cw_func Try.func3 rfl rfl ?_
  refine cw_seq ?_
  refine cw_reg (l := [0]) rfl rfl ?_
  refine sgy (some 4) (Value.bool false) rfl rfl rfl (y_assign rfl) ?_
  refine drop.of ?_
  refine cw_seq ?_
  refine cw_reg (l := [0, 1, 2, 3, 4, 5]) rfl rfl ?_
  refine sgy (some 15) (Value.int .i64 a1) rfl rfl rfl (y_move rfl) ?_
  refine sgy (some 16) (Value.int .i64 (iRem .i64 a1 128)) rfl rfl rfl (y_rem rfl rfl (by decide)) ?_
  refine sgy (some 17) (Value.int .i64 (iAdd .i64 (iRem .i64 a1 128) 128)) rfl rfl rfl (y_bin rfl rfl rfl) ?_
  refine sgy (some 18) (Value.int .i64 (iRem .i64 (iAdd .i64 (iRem .i64 a1 128) 128) 128)) rfl rfl rfl (y_rem rfl rfl (by decide)) ?_
  refine sgy (some 19) (Value.int .i64 (iAdd .i64 1 (iRem .i64 (iAdd .i64 (iRem .i64 a1 128) 128) 128))) rfl rfl rfl (y_bin rfl rfl rfl) ?_
  refine sgy (some 1) (Value.int .i64 (iAdd .i64 1 (iRem .i64 (iAdd .i64 (iRem .i64 a1 128) 128) 128))) rfl rfl rfl (y_assign rfl) ?_
  refine drop.of ?_
  refine cw_joinM hm [0, 20, 21, 22, 23, 24] (fun s1 => [(0, (Sl.val s1))]) (fun s1 => []) rfl (fun _ => nd) (fun hm => ?_) (fun s1 h junk nd hm => ?_)
  · refine cw_seq ?_
    refine cw_reg (l := [0, 1, 2]) rfl rfl ?_
    refine sgy (some 20) (Sl.val a0) rfl rfl rfl (y_move rfl) ?_
    refine sgy (some 21) (Value.int .i64 (a0.len : Int)) rfl rfl rfl (y_len (s := a0) rfl rfl Try.underlying22) ?_
    refine sgy (some 22) (Value.bool (decide (4000 < (a0.len : Int)))) rfl rfl rfl (y_bin rfl rfl rfl) ?_
    refine drop.of ?_
    refine cw_ifm hm rfl (fun hc82 hm => ?_) (fun hc82 hm => ?_)
    · refine cw_reg (l := [0, 1, 2]) rfl rfl ?_
      refine sgy (some 23) (Sl.val a0) rfl rfl rfl (y_move rfl) ?_
      obtain ⟨s83, hq84, hm⟩ := hm
      refine sgy (some 24) (Sl.val s83) rfl rfl rfl (y_cut Try.underlying22 i25 (s := a0) rfl rfl ⟨_, rfl⟩ hq84) ?_
      refine sgy (some 0) (Sl.val s83) rfl rfl rfl (y_assign rfl) ?_
      exact Exists.intro s83 (And.intro (And.intro rfl trivial) (And.intro (bx_drop nd 0) hm))
    · refine cw_skip ?_
      exact Exists.intro a0 (And.intro (And.intro rfl trivial) (And.intro (bx_drop nd 0) hm))
  · refine cw_seq ?_
    refine cw_reg (l := [0, 1, 2, 3, 4, 5, 6, 7]) rfl rfl ?_
    refine sg rfl rfl (v_lit hm Try.underlying22 i25 rfl rfl rfl rfl (fun a3 h hm => ?_))
    refine sgy (some 26) (Sl.val s1) rfl rfl rfl (y_move rfl) ?_
    refine sg rfl rfl (v_append Try.underlying22 Try.underlying22 i25 rfl rfl (s := (⟨some a3, 0, 0⟩ : Sl)) (x' := s1) rfl rfl hm (fun s4 h hm => ?_))
    refine sgy (some 28) (S_api_Word.val (⟨7, 0⟩ : S_api_Word)) rfl rfl rfl (y_build Try.underlying25 i25 rfl (sizes_cons i23 (sizes_cons i23 sizes_nil)) rfl (cs := #[(Value.int .u64 7), (Value.int .u64 0)]) rfl) ?_
    refine sgy (some 29) (S_api_Word.val (⟨8, 0⟩ : S_api_Word)) rfl rfl rfl (y_build Try.underlying25 i25 rfl (sizes_cons i23 (sizes_cons i23 sizes_nil)) rfl (cs := #[(Value.int .u64 8), (Value.int .u64 0)]) rfl) ?_
    refine sg rfl rfl (b_lit nd Try.underlying22 i25 rfl rfl rfl (cs := #[(Value.int .u64 7), (Value.int .u64 0), (Value.int .u64 8), (Value.int .u64 0)]) rfl (fun b5 nd => ?_))
    refine sg rfl rfl (v_push 0 Try.underlying22 Try.underlying22 i25 rfl rfl nd (s := s4) rfl rfl rfl rfl rfl hm (fun s6 h hm => ?_))
    refine sgy (some 5) (Sl.val s6) rfl rfl rfl (y_assign rfl) ?_
    refine drop.of ?_
    refine cw_seq ?_
    refine cw_reg (l := [0, 1, 2, 3, 4, 5, 6, 7, 8, 9, 10]) rfl rfl ?_
    refine sgy (some 33) (Sl.val s6) rfl rfl rfl (y_move rfl) ?_
    refine sgy (some 34) (Sl.val s1) rfl rfl rfl (y_move rfl) ?_
    refine sgy (some 35) (Value.int .i64 (s1.len : Int)) rfl rfl rfl (y_len (s := s1) rfl rfl Try.underlying22) ?_
    obtain ⟨s7, hq8, hm⟩ := hm
    refine sgy (some 36) (Sl.val s7) rfl rfl rfl (y_cut Try.underlying22 i25 (s := s6) rfl rfl ⟨_, rfl⟩ hq8) ?_
    refine sgy (some 37) (Value.int .i64 (iAdd .i64 1 (iRem .i64 (iAdd .i64 (iRem .i64 a1 128) 128) 128))) rfl rfl rfl (y_move rfl) ?_
    refine sg rfl rfl (v_call (c_draws_New hm) callee13 rfl (fun v h hm => ?_))
    obtain ⟨r9, rfl, hm⟩ := hm
    refine sgy (some 32) (Value.tuple #[(Value.pointer r9.1), (Value.int .i64 r9.2)]) rfl rfl rfl (y_move rfl) ?_
    refine sgy (some 39) (Value.pointer r9.1) rfl rfl rfl (y_extract rfl rfl) ?_
    refine sgy (some 40) (Value.int .i64 r9.2) rfl rfl rfl (y_extract rfl rfl) ?_
    refine sgy (some 6) (Value.pointer r9.1) rfl rfl rfl (y_assign rfl) ?_
    refine sgy (some 7) (Value.int .i64 r9.2) rfl rfl rfl (y_assign rfl) ?_
    refine drop.of ?_
    refine cw_seq ?_
    refine cw_reg (l := [0, 1, 2, 3, 4, 5, 6, 7, 8, 9, 10]) rfl rfl ?_
    refine sgy (some 42) (Sl.val s6) rfl rfl rfl (y_move rfl) ?_
    refine sgy (some 43) (Sl.val s1) rfl rfl rfl (y_move rfl) ?_
    refine sgy (some 44) (Value.int .i64 (s1.len : Int)) rfl rfl rfl (y_len (s := s1) rfl rfl Try.underlying22) ?_
    obtain ⟨s11, hq12, hm⟩ := hm
    refine sgy (some 45) (Sl.val s11) rfl rfl rfl (y_cut Try.underlying22 i25 (s := s6) rfl rfl ⟨_, rfl⟩ hq12) ?_
    refine sgy (some 46) (Value.int .i64 (iAdd .i64 1 (iRem .i64 (iAdd .i64 (iRem .i64 a1 128) 128) 128))) rfl rfl rfl (y_move rfl) ?_
    refine sg rfl rfl (v_call (c_draws_New hm) callee13 rfl (fun v h hm => ?_))
    obtain ⟨r13, rfl, hm⟩ := hm
    refine sgy (some 41) (Value.tuple #[(Value.pointer r13.1), (Value.int .i64 r13.2)]) rfl rfl rfl (y_move rfl) ?_
    refine sgy (some 48) (Value.pointer r13.1) rfl rfl rfl (y_extract rfl rfl) ?_
    refine sgy (some 49) (Value.int .i64 r13.2) rfl rfl rfl (y_extract rfl rfl) ?_
    refine sgy (some 8) (Value.pointer r13.1) rfl rfl rfl (y_assign rfl) ?_
    refine sgy (some 9) (Value.int .i64 r13.2) rfl rfl rfl (y_assign rfl) ?_
    refine drop.of ?_
    refine cw_seq ?_
    refine cw_joinM hm [50, 51, 52, 53, 54, 55, 56, 57, 58, 59, 60, 61, 62, 63, 64, 65, 66, 67] (fun s15 => [(67, (Value.bool s15))]) (fun s15 => [(b5, Obj.cells #[(Value.int .u64 7), (Value.int .u64 0), (Value.int .u64 8), (Value.int .u64 0)] 25 (0, 0))]) rfl (fun _ => nd) (fun hm => ?_) (fun s15 h junk nd hm => ?_)
    · refine cw_reg (l := [0, 1, 2, 3, 4, 5, 6, 7, 8, 9, 10, 11, 12, 13, 14, 15, 16, 17]) rfl rfl ?_
      refine sg rfl rfl (v_call (c_law04_known hm) callee14 rfl (fun v h hm => ?_))
      obtain ⟨r76, rfl, hm⟩ := hm
      refine sgy (some 51) (Value.bool (!r76)) rfl rfl rfl (y_not rfl) ?_
      refine sgy (some 52) (Value.bool (!r76)) rfl rfl rfl (y_move rfl) ?_
      refine mIf_elim hm (fun hc78 hm => ?_) (fun hc78 hm => ?_)
      · refine sgn (some 53) rfl rfl (by exact wFT rfl rfl hc78) ?_
        refine sgn (some 54) rfl rfl (by exact wFT rfl rfl hc78) ?_
        refine sgy (some 55) (Value.bool true) rfl rfl rfl (y_pickT rfl hc78 rfl) ?_
        refine sgy (some 56) (Value.bool true) rfl rfl rfl (y_move rfl) ?_
        refine sgn (some 57) rfl rfl rfl ?_
        refine sgn (some 58) rfl rfl rfl ?_
        refine sgy (some 59) (Value.bool true) rfl rfl rfl (y_pickT rfl rfl rfl) ?_
        refine sgy (some 60) (Value.bool true) rfl rfl rfl (y_move rfl) ?_
        refine sgn (some 61) rfl rfl rfl ?_
        refine sgn (some 62) rfl rfl rfl ?_
        refine sgy (some 63) (Value.bool true) rfl rfl rfl (y_pickT rfl rfl rfl) ?_
        refine sgy (some 64) (Value.bool true) rfl rfl rfl (y_move rfl) ?_
        refine sgn (some 65) rfl rfl rfl ?_
        refine sgn (some 66) rfl rfl rfl ?_
        refine sgy (some 67) (Value.bool true) rfl rfl rfl (y_pickT rfl rfl rfl) ?_
        exact Exists.intro true (And.intro (And.intro rfl trivial) (And.intro (bx_drop nd 0) hm))
      · refine sgy (some 53) (Value.int .i64 r9.2) rfl rfl (by exact wFF rfl rfl hc78) (y_move rfl) ?_
        refine sgy (some 54) (Value.bool (!decide (r9.2 = 0))) rfl rfl (by exact wFF rfl rfl hc78) (y_bin rfl rfl rfl) ?_
        refine sgy (some 55) (Value.bool (!decide (r9.2 = 0))) rfl rfl rfl (y_pickF rfl hc78 rfl) ?_
        refine sgy (some 56) (Value.bool (!decide (r9.2 = 0))) rfl rfl rfl (y_move rfl) ?_
        refine mIf_elim hm (fun hc79 hm => ?_) (fun hc79 hm => ?_)
        · refine sgn (some 57) rfl rfl (by exact wFT rfl rfl hc79) ?_
          refine sgn (some 58) rfl rfl (by exact wFT rfl rfl hc79) ?_
          refine sgy (some 59) (Value.bool true) rfl rfl rfl (y_pickT rfl hc79 rfl) ?_
          refine sgy (some 60) (Value.bool true) rfl rfl rfl (y_move rfl) ?_
          refine sgn (some 61) rfl rfl rfl ?_
          refine sgn (some 62) rfl rfl rfl ?_
          refine sgy (some 63) (Value.bool true) rfl rfl rfl (y_pickT rfl rfl rfl) ?_
          refine sgy (some 64) (Value.bool true) rfl rfl rfl (y_move rfl) ?_
          refine sgn (some 65) rfl rfl rfl ?_
          refine sgn (some 66) rfl rfl rfl ?_
          refine sgy (some 67) (Value.bool true) rfl rfl rfl (y_pickT rfl rfl rfl) ?_
          exact Exists.intro true (And.intro (And.intro rfl trivial) (And.intro (bx_drop nd 0) hm))
        · refine sgy (some 57) (Value.int .i64 r13.2) rfl rfl (by exact wFF rfl rfl hc79) (y_move rfl) ?_
          refine sgy (some 58) (Value.bool (!decide (r13.2 = 0))) rfl rfl (by exact wFF rfl rfl hc79) (y_bin rfl rfl rfl) ?_
          refine sgy (some 59) (Value.bool (!decide (r13.2 = 0))) rfl rfl rfl (y_pickF rfl hc79 rfl) ?_
          refine sgy (some 60) (Value.bool (!decide (r13.2 = 0))) rfl rfl rfl (y_move rfl) ?_
          refine mIf_elim hm (fun hc80 hm => ?_) (fun hc80 hm => ?_)
          · refine sgn (some 61) rfl rfl (by exact wFT rfl rfl hc80) ?_
            refine sgn (some 62) rfl rfl (by exact wFT rfl rfl hc80) ?_
            refine sgy (some 63) (Value.bool true) rfl rfl rfl (y_pickT rfl hc80 rfl) ?_
            refine sgy (some 64) (Value.bool true) rfl rfl rfl (y_move rfl) ?_
            refine sgn (some 65) rfl rfl rfl ?_
            refine sgn (some 66) rfl rfl rfl ?_
            refine sgy (some 67) (Value.bool true) rfl rfl rfl (y_pickT rfl rfl rfl) ?_
            exact Exists.intro true (And.intro (And.intro rfl trivial) (And.intro (bx_drop nd 0) hm))
          · refine sgy (some 61) (Value.pointer r9.1) rfl rfl (by exact wFF rfl rfl hc80) (y_move rfl) ?_
            refine sgy (some 62) (Value.bool (r9.1.isNone)) rfl rfl (by exact wFF rfl rfl hc80) (y_eqP Try.underlying26 rfl rfl) ?_
            refine sgy (some 63) (Value.bool (r9.1.isNone)) rfl rfl rfl (y_pickF rfl hc80 rfl) ?_
            refine sgy (some 64) (Value.bool (r9.1.isNone)) rfl rfl rfl (y_move rfl) ?_
            refine mIf_elim hm (fun hc81 hm => ?_) (fun hc81 hm => ?_)
            · refine sgn (some 65) rfl rfl (by exact wFT rfl rfl hc81) ?_
              refine sgn (some 66) rfl rfl (by exact wFT rfl rfl hc81) ?_
              refine sgy (some 67) (Value.bool true) rfl rfl rfl (y_pickT rfl hc81 rfl) ?_
              exact Exists.intro true (And.intro (And.intro rfl trivial) (And.intro (bx_drop nd 0) hm))
            · refine sgy (some 65) (Value.pointer r13.1) rfl rfl (by exact wFF rfl rfl hc81) (y_move rfl) ?_
              refine sgy (some 66) (Value.bool (r13.1.isNone)) rfl rfl (by exact wFF rfl rfl hc81) (y_eqP Try.underlying26 rfl rfl) ?_
              refine sgy (some 67) (Value.bool (r13.1.isNone)) rfl rfl rfl (y_pickF rfl hc81 rfl) ?_
              exact Exists.intro (r13.1.isNone) (And.intro (And.intro rfl trivial) (And.intro (bx_drop nd 0) hm))
    · refine cw_ifm hm rfl (fun hc17 hm => ?_) (fun hc17 hm => ?_)
      · refine cw_seq ?_
        refine cw_reg (l := [0]) rfl rfl ?_
        refine sgy (some 4) (Value.bool false) rfl rfl rfl (y_assign rfl) ?_
        refine drop.of ?_
        refine cw_ret ?_
        refine out_one [(Value.bool false)] (e_law04_DrawsApart false) Try.results3 ?_ rfl ?_
        · exact (And.intro (rfl) trivial)
        · exact Exists.intro false (And.intro rfl hm)
      · refine cw_skip ?_
        refine drop.of ?_
        refine cw_seq ?_
        refine cw_seq ?_
        refine cw_reg (l := [0]) rfl rfl ?_
        refine sgy (some 10) (Value.int .i64 0) rfl rfl rfl (y_assign rfl) ?_
        refine drop.of ?_
        refine cw_block ?_
        refine cw_loop [10, 68, 69, 70, 71, 72, 73, 74, 75] (fun s18 => [(10, (Value.int .i64 s18))]) (fun s18 => [(b5, Obj.cells #[(Value.int .u64 7), (Value.int .u64 0), (Value.int .u64 8), (Value.int .u64 0)] 25 (0, 0))]) hm rfl (fun _ => rfl) ⟨rfl, trivial⟩ rfl (fun _ => nd) (fun rec19 s18 h junk nd hm => ?_)
        refine cw_seq ?_
        refine cw_seq ?_
        refine cw_reg (l := [0, 1, 2, 3]) rfl rfl ?_
        refine sgy (some 68) (Value.int .i64 s18) rfl rfl rfl (y_move rfl) ?_
        refine sgy (some 69) (Sl.val s1) rfl rfl rfl (y_move rfl) ?_
        refine sgy (some 70) (Value.int .i64 (s1.len : Int)) rfl rfl rfl (y_len (s := s1) rfl rfl Try.underlying22) ?_
        refine sgy (some 71) (Value.bool (decide (s18 < (s1.len : Int)))) rfl rfl rfl (y_bin rfl rfl rfl) ?_
        refine drop.of ?_
        refine cw_ifm hm rfl (fun hc20 hm => ?_) (fun hc20 hm => ?_)
        · refine cw_skip ?_
          refine drop.of ?_
          refine cw_seq ?_
          refine cw_block ?_
          refine cw_reg (l := [0, 1]) rfl rfl ?_
          refine sgy (some 74) (Value.pointer r9.1) rfl rfl rfl (y_move rfl) ?_
          refine sg rfl rfl (v_call (c_draws_Draws_Draw hm) callee15 rfl (fun v h hm => ?_))
          obtain ⟨r21, rfl, hm⟩ := hm
          refine drop.of ?_
          refine cw_reg (l := [0, 1, 2]) rfl rfl ?_
          refine sgy (some 72) (Value.int .i64 s18) rfl rfl rfl (y_move rfl) ?_
          refine sgy (some 73) (Value.int .i64 (iAdd .i64 s18 1)) rfl rfl rfl (y_bin rfl rfl rfl) ?_
          refine sgy (some 10) (Value.int .i64 (iAdd .i64 s18 1)) rfl rfl rfl (y_assign rfl) ?_
          exact Exists.intro (iAdd .i64 s18 1) (And.intro (And.intro rfl trivial) (And.intro (bx_drop nd 0) hm))
        · refine cw_exit ?_
          refine drop.of ?_
          refine cw_seq ?_
          refine cw_joinM hm [76, 77, 78, 79, 80, 81, 82, 83, 84, 85, 86, 87, 88, 89, 90, 91, 92] (fun s23 => [(92, (Value.bool s23))]) (fun s23 => [(b5, Obj.cells #[(Value.int .u64 7), (Value.int .u64 0), (Value.int .u64 8), (Value.int .u64 0)] 25 (0, 0))]) rfl (fun _ => nd) (fun hm => ?_) (fun s23 h junk nd hm => ?_)
          · refine cw_reg (l := [0, 1, 2, 3, 4, 5, 6, 7, 8, 9, 10, 11, 12, 13, 14, 15, 16]) rfl rfl ?_
            refine sgy (some 76) (Sl.val s6) rfl rfl rfl (y_move rfl) ?_
            refine sgy (some 77) (Sl.val s1) rfl rfl rfl (y_move rfl) ?_
            refine sgy (some 78) (Value.int .i64 (s1.len : Int)) rfl rfl rfl (y_len (s := s1) rfl rfl Try.underlying22) ?_
            obtain ⟨a69, hq70, hm⟩ := hm
            refine sgy (some 79) (Value.pointer (some a69)) rfl rfl rfl (y_idx Try.underlying22 i25 rfl rfl hq70) ?_
            refine sg rfl rfl (v_loadA hm rfl Try.underlying25 rfl i25 S_api_Word.val (fun _ => ⟨rfl, rfl⟩) (fun x71 hm => ?_))
            refine sgy (some 81) (S_api_Word.val (⟨7, 0⟩ : S_api_Word)) rfl rfl rfl (y_build Try.underlying25 i25 rfl (sizes_cons i23 (sizes_cons i23 sizes_nil)) rfl (cs := #[(Value.int .u64 7), (Value.int .u64 0)]) rfl) ?_
            refine sgy (some 82) (Value.bool (!((decide (x71.Hi = 7)) && ((decide (x71.Lo = 0)) && true)))) rfl rfl rfl (y_neA (n := 2) Try.eqGuardType25 rfl rfl (eq_struct (n := 1) Try.underlying25 Try.stoodInHeld25 (efs_cons rfl (part_one Try.underlying23 rfl rfl) (part_one Try.underlying23 rfl rfl) (eq_int Try.underlying23) rfl (efs_cons rfl (part_one Try.underlying23 rfl rfl) (part_one Try.underlying23 rfl rfl) (eq_int Try.underlying23) rfl efs_nil))) rfl) ?_
            refine sgy (some 83) (Value.bool (!((decide (x71.Hi = 7)) && ((decide (x71.Lo = 0)) && true)))) rfl rfl rfl (y_move rfl) ?_
            refine mIf_elim hm (fun hc72 hm => ?_) (fun hc72 hm => ?_)
            · refine sgn (some 84) rfl rfl (by exact wFT rfl rfl hc72) ?_
              refine sgn (some 85) rfl rfl (by exact wFT rfl rfl hc72) ?_
              refine sgn (some 86) rfl rfl (by exact wFT rfl rfl hc72) ?_
              refine sgn (some 87) rfl rfl (by exact wFT rfl rfl hc72) ?_
              refine sgn (some 88) rfl rfl (by exact wFT rfl rfl hc72) ?_
              refine sgn (some 89) rfl rfl (by exact wFT rfl rfl hc72) ?_
              refine sgn (some 90) rfl rfl (by exact wFT rfl rfl hc72) ?_
              refine sgn (some 91) rfl rfl (by exact wFT rfl rfl hc72) ?_
              refine sgy (some 92) (Value.bool true) rfl rfl rfl (y_pickT rfl hc72 rfl) ?_
              exact Exists.intro true (And.intro (And.intro rfl trivial) (And.intro (bx_drop nd 0) hm))
            · refine sgy (some 84) (Sl.val s6) rfl rfl (by exact wFF rfl rfl hc72) (y_move rfl) ?_
              refine sgy (some 85) (Sl.val s1) rfl rfl (by exact wFF rfl rfl hc72) (y_move rfl) ?_
              refine sgy (some 86) (Value.int .i64 (s1.len : Int)) rfl rfl (by exact wFF rfl rfl hc72) (y_len (s := s1) rfl rfl Try.underlying22) ?_
              refine sgy (some 87) (Value.int .i64 (iAdd .i64 (s1.len : Int) 1)) rfl rfl (by exact wFF rfl rfl hc72) (y_bin rfl rfl rfl) ?_
              obtain ⟨a73, hq74, hm⟩ := hm
              refine sgy (some 88) (Value.pointer (some a73)) rfl rfl (by exact wFF rfl rfl hc72) (y_idx Try.underlying22 i25 rfl rfl hq74) ?_
              refine sg rfl (by exact wFF rfl rfl hc72) (v_loadA hm rfl Try.underlying25 rfl i25 S_api_Word.val (fun _ => ⟨rfl, rfl⟩) (fun x75 hm => ?_))
              refine sgy (some 90) (S_api_Word.val (⟨8, 0⟩ : S_api_Word)) rfl rfl (by exact wFF rfl rfl hc72) (y_build Try.underlying25 i25 rfl (sizes_cons i23 (sizes_cons i23 sizes_nil)) rfl (cs := #[(Value.int .u64 8), (Value.int .u64 0)]) rfl) ?_
              refine sgy (some 91) (Value.bool (!((decide (x75.Hi = 8)) && ((decide (x75.Lo = 0)) && true)))) rfl rfl (by exact wFF rfl rfl hc72) (y_neA (n := 2) Try.eqGuardType25 rfl rfl (eq_struct (n := 1) Try.underlying25 Try.stoodInHeld25 (efs_cons rfl (part_one Try.underlying23 rfl rfl) (part_one Try.underlying23 rfl rfl) (eq_int Try.underlying23) rfl (efs_cons rfl (part_one Try.underlying23 rfl rfl) (part_one Try.underlying23 rfl rfl) (eq_int Try.underlying23) rfl efs_nil))) rfl) ?_
              refine sgy (some 92) (Value.bool (!((decide (x75.Hi = 8)) && ((decide (x75.Lo = 0)) && true)))) rfl rfl rfl (y_pickF rfl hc72 rfl) ?_
              exact Exists.intro (!((decide (x75.Hi = 8)) && ((decide (x75.Lo = 0)) && true))) (And.intro (And.intro rfl trivial) (And.intro (bx_drop nd 0) hm))
          · refine cw_ifm hm rfl (fun hc25 hm => ?_) (fun hc25 hm => ?_)
            · refine cw_seq ?_
              refine cw_reg (l := [0]) rfl rfl ?_
              refine sgy (some 4) (Value.bool false) rfl rfl rfl (y_assign rfl) ?_
              refine drop.of ?_
              refine cw_ret ?_
              refine out_one [(Value.bool false)] (e_law04_DrawsApart false) Try.results3 ?_ rfl ?_
              · exact (And.intro (rfl) trivial)
              · exact Exists.intro false (And.intro rfl hm)
            · refine cw_skip ?_
              refine drop.of ?_
              refine cw_seq ?_
              refine cw_seq ?_
              refine cw_reg (l := [0]) rfl rfl ?_
              refine sgy (some 11) (Value.int .i64 0) rfl rfl rfl (y_assign rfl) ?_
              refine drop.of ?_
              refine cw_block ?_
              refine cw_loop [4, 11, 93, 94, 95, 96, 97, 98, 99, 100, 101, 102, 103, 104, 105, 106, 107, 108, 109, 110, 111, 112, 113, 114, 115, 116, 117, 118, 119, 120, 121, 122, 123] (fun s26 => [(11, (Value.int .i64 s26))]) (fun s26 => [(b5, Obj.cells #[(Value.int .u64 7), (Value.int .u64 0), (Value.int .u64 8), (Value.int .u64 0)] 25 (0, 0))]) hm rfl (fun _ => rfl) ⟨rfl, trivial⟩ rfl (fun _ => nd) (fun rec27 s26 h junk nd hm => ?_)
              refine cw_seq ?_
              refine cw_seq ?_
              refine cw_reg (l := [0, 1, 2, 3]) rfl rfl ?_
              refine sgy (some 93) (Value.int .i64 s26) rfl rfl rfl (y_move rfl) ?_
              refine sgy (some 94) (Sl.val s1) rfl rfl rfl (y_move rfl) ?_
              refine sgy (some 95) (Value.int .i64 (s1.len : Int)) rfl rfl rfl (y_len (s := s1) rfl rfl Try.underlying22) ?_
              refine sgy (some 96) (Value.bool (decide (s26 < (s1.len : Int)))) rfl rfl rfl (y_bin rfl rfl rfl) ?_
              refine drop.of ?_
              refine cw_ifm hm rfl (fun hc28 hm => ?_) (fun hc28 hm => ?_)
              · refine cw_skip ?_
                refine drop.of ?_
                refine cw_seq ?_
                refine cw_block ?_
                refine cw_seq ?_
                refine cw_seq ?_
                refine cw_draw mixed rfl ?_
                refine tyy 0 (some 99) (Sl.val s6) rfl rfl (by kernel_rfl) (by kernel_rfl) (by kernel_rfl) rfl (y_move rfl) ?_
                refine tyy 1 (some 100) (Value.int .i64 s26) rfl rfl (by kernel_rfl) (by kernel_rfl) (by kernel_rfl) rfl (y_move rfl) ?_
                obtain ⟨a29, hq30, hm⟩ := hm
                refine tyy 2 (some 101) (Value.pointer (some a29)) rfl rfl (by kernel_rfl) (by kernel_rfl) (by kernel_rfl) rfl (y_idx Try.underlying22 i25 rfl rfl hq30) ?_
                refine tyy 4 (some 103) (Sl.val s1) rfl rfl (by kernel_rfl) (by kernel_rfl) (by kernel_rfl) rfl (y_move rfl) ?_
                refine tyy 5 (some 104) (Value.int .i64 s26) rfl rfl (by kernel_rfl) (by kernel_rfl) (by kernel_rfl) rfl (y_move rfl) ?_
                obtain ⟨a31, hq32, hm⟩ := hm
                refine tyy 6 (some 105) (Value.pointer (some a31)) rfl rfl (by kernel_rfl) (by kernel_rfl) (by kernel_rfl) rfl (y_idx Try.underlying22 i25 rfl rfl hq32) ?_
                refine tq 3 rfl (by kernel_rfl) (by kernel_rfl) (by kernel_rfl) rfl (v_loadA hm rfl Try.underlying25 rfl i25 S_api_Word.val (fun _ => ⟨rfl, rfl⟩) (fun x33 hm => ?_))
                refine tq 7 rfl (by kernel_rfl) (by kernel_rfl) (by kernel_rfl) rfl (v_loadA hm rfl Try.underlying25 rfl i25 S_api_Word.val (fun _ => ⟨rfl, rfl⟩) (fun x34 hm => ?_))
                refine tyy 8 (some 107) (Value.bool (!((decide (x33.Hi = x34.Hi)) && ((decide (x33.Lo = x34.Lo)) && true)))) rfl rfl (by kernel_rfl) (by kernel_rfl) (by kernel_rfl) rfl (y_neA (n := 2) Try.eqGuardType25 rfl rfl (eq_struct (n := 1) Try.underlying25 Try.stoodInHeld25 (efs_cons rfl (part_one Try.underlying23 rfl rfl) (part_one Try.underlying23 rfl rfl) (eq_int Try.underlying23) rfl (efs_cons rfl (part_one Try.underlying23 rfl rfl) (part_one Try.underlying23 rfl rfl) (eq_int Try.underlying23) rfl efs_nil))) rfl) ?_
                refine td (by kernel_rfl) ?_
                refine drop.of ?_
                refine cw_ifm hm rfl (fun hc35 hm => ?_) (fun hc35 hm => ?_)
                · refine cw_seq ?_
                  refine cw_reg (l := [0]) rfl rfl ?_
                  refine sgy (some 4) (Value.bool false) rfl rfl rfl (y_assign rfl) ?_
                  refine drop.of ?_
                  refine cw_ret ?_
                  refine out_one [(Value.bool false)] (e_law04_DrawsApart false) Try.results3 ?_ rfl ?_
                  · exact (And.intro (rfl) trivial)
                  · exact Exists.intro false (And.intro rfl hm)
                · refine cw_skip ?_
                  refine drop.of ?_
                  refine cw_draw mixed rfl ?_
                  refine tyy 0 (some 108) (Sl.val s6) rfl rfl (by kernel_rfl) (by kernel_rfl) (by kernel_rfl) rfl (y_move rfl) ?_
                  refine tyy 1 (some 109) (Value.int .i64 s26) rfl rfl (by kernel_rfl) (by kernel_rfl) (by kernel_rfl) rfl (y_move rfl) ?_
                  refine tyy 2 (some 110) (Sl.val s6) rfl rfl (by kernel_rfl) (by kernel_rfl) (by kernel_rfl) rfl (y_move rfl) ?_
                  refine tyy 3 (some 111) (Value.int .i64 s26) rfl rfl (by kernel_rfl) (by kernel_rfl) (by kernel_rfl) rfl (y_move rfl) ?_
                  obtain ⟨a36, hq37, hm⟩ := hm
                  refine tyy 4 (some 112) (Value.pointer (some a36)) rfl rfl (by kernel_rfl) (by kernel_rfl) (by kernel_rfl) rfl (y_idx Try.underlying22 i25 rfl rfl hq37) ?_
                  refine tyy 5 (some 113) (Value.pointer (some (a36.add 0))) rfl rfl (by kernel_rfl) (by kernel_rfl) (by kernel_rfl) rfl (yv (y_fieldAddr rfl Try.underlying25 rfl i23 rfl) rfl) ?_
                  refine tyy 8 (some 116) (Sl.val s6) rfl rfl (by kernel_rfl) (by kernel_rfl) (by kernel_rfl) rfl (y_move rfl) ?_
                  refine tyy 9 (some 117) (Value.int .i64 s26) rfl rfl (by kernel_rfl) (by kernel_rfl) (by kernel_rfl) rfl (y_move rfl) ?_
                  obtain ⟨a38, hq39, hm⟩ := hm
                  refine tyy 10 (some 118) (Value.pointer (some a38)) rfl rfl (by kernel_rfl) (by kernel_rfl) (by kernel_rfl) rfl (y_idx Try.underlying22 i25 rfl rfl hq39) ?_
                  refine tyy 11 (some 119) (Value.pointer (some (a38.add 1))) rfl rfl (by kernel_rfl) (by kernel_rfl) (by kernel_rfl) rfl (yv (y_fieldAddr rfl Try.underlying25 rfl i23 rfl) rfl) ?_
                  refine tq 6 rfl (by kernel_rfl) (by kernel_rfl) (by kernel_rfl) rfl (v_load hm rfl Try.underlying23 rfl (Value.int .u64) (fun _ => rfl) (fun x40 hm => ?_))
                  refine tyy 7 (some 115) (Value.int .u64 (iAdd .u64 x40 1)) rfl rfl (by kernel_rfl) (by kernel_rfl) (by kernel_rfl) rfl (y_bin rfl rfl rfl) ?_
                  refine tq 12 rfl (by kernel_rfl) (by kernel_rfl) (by kernel_rfl) rfl (v_load hm rfl Try.underlying23 rfl (Value.int .u64) (fun _ => rfl) (fun x41 hm => ?_))
                  refine tyy 13 (some 121) (Value.int .u64 (iAdd .u64 x41 1)) rfl rfl (by kernel_rfl) (by kernel_rfl) (by kernel_rfl) rfl (y_bin rfl rfl rfl) ?_
                  refine tyy 14 (some 122) (S_api_Word.val (⟨(iAdd .u64 x40 1), (iAdd .u64 x41 1)⟩ : S_api_Word)) rfl rfl (by kernel_rfl) (by kernel_rfl) (by kernel_rfl) rfl (y_build Try.underlying25 i25 rfl (sizes_cons i23 (sizes_cons i23 sizes_nil)) rfl (cs := #[(Value.int .u64 (iAdd .u64 x40 1)), (Value.int .u64 (iAdd .u64 x41 1))]) rfl) ?_
                  obtain ⟨a42, hq43, hm⟩ := hm
                  refine tyy 15 (some 123) (Value.pointer (some a42)) rfl rfl (by kernel_rfl) (by kernel_rfl) (by kernel_rfl) rfl (y_idx Try.underlying22 i25 rfl rfl hq43) ?_
                  refine t1 16 rfl (by kernel_rfl) rfl (v_store hm rfl rfl rfl i25 rfl rfl (fun h hm => ?_))
                  refine td (by kernel_rfl) ?_
                  refine drop.of ?_
                  refine cw_reg (l := [0, 1, 2]) rfl rfl ?_
                  refine sgy (some 97) (Value.int .i64 s26) rfl rfl rfl (y_move rfl) ?_
                  refine sgy (some 98) (Value.int .i64 (iAdd .i64 s26 1)) rfl rfl rfl (y_bin rfl rfl rfl) ?_
                  refine sgy (some 11) (Value.int .i64 (iAdd .i64 s26 1)) rfl rfl rfl (y_assign rfl) ?_
                  exact Exists.intro (iAdd .i64 s26 1) (And.intro (And.intro rfl trivial) (And.intro (bx_drop nd 0) hm))
              · refine cw_exit ?_
                refine drop.of ?_
                refine cw_seq ?_
                refine cw_joinM hm [124, 125, 126, 127, 128, 129, 130, 131] (fun s44 => [(131, (Value.bool s44))]) (fun s44 => [(b5, Obj.cells #[(Value.int .u64 7), (Value.int .u64 0), (Value.int .u64 8), (Value.int .u64 0)] 25 (0, 0))]) rfl (fun _ => nd) (fun hm => ?_) (fun s44 h junk nd hm => ?_)
                · refine cw_reg (l := [0, 1, 2, 3, 4, 5, 6, 7]) rfl rfl ?_
                  refine sgy (some 124) (Value.pointer r13.1) rfl rfl rfl (y_move rfl) ?_
                  refine sg rfl rfl (v_call (c_draws_Draws_Taken hm) callee16 rfl (fun v h hm => ?_))
                  obtain ⟨r64, rfl, hm⟩ := hm
                  refine sgy (some 126) (Value.bool (!decide (r64 = 0))) rfl rfl rfl (y_bin rfl rfl rfl) ?_
                  refine sgy (some 127) (Value.bool (!decide (r64 = 0))) rfl rfl rfl (y_move rfl) ?_
                  refine mIf_elim hm (fun hc66 hm => ?_) (fun hc66 hm => ?_)
                  · refine sgn (some 128) rfl rfl (by exact wFT rfl rfl hc66) ?_
                    refine sgn (some 129) rfl rfl (by exact wFT rfl rfl hc66) ?_
                    refine sgn (some 130) rfl rfl (by exact wFT rfl rfl hc66) ?_
                    refine sgy (some 131) (Value.bool true) rfl rfl rfl (y_pickT rfl hc66 rfl) ?_
                    exact Exists.intro true (And.intro (And.intro rfl trivial) (And.intro (bx_drop nd 0) hm))
                  · refine sgy (some 128) (Value.pointer r9.1) rfl rfl (by exact wFF rfl rfl hc66) (y_move rfl) ?_
                    refine sg rfl (by exact wFF rfl rfl hc66) (v_call (c_draws_Draws_Left hm) callee17 rfl (fun v h hm => ?_))
                    obtain ⟨r67, rfl, hm⟩ := hm
                    refine sgy (some 130) (Value.bool (!decide (r67 = 0))) rfl rfl (by exact wFF rfl rfl hc66) (y_bin rfl rfl rfl) ?_
                    refine sgy (some 131) (Value.bool (!decide (r67 = 0))) rfl rfl rfl (y_pickF rfl hc66 rfl) ?_
                    exact Exists.intro (!decide (r67 = 0)) (And.intro (And.intro rfl trivial) (And.intro (bx_drop nd 0) hm))
                · refine cw_ifm hm rfl (fun hc46 hm => ?_) (fun hc46 hm => ?_)
                  · refine cw_seq ?_
                    refine cw_reg (l := [0]) rfl rfl ?_
                    refine sgy (some 4) (Value.bool false) rfl rfl rfl (y_assign rfl) ?_
                    refine drop.of ?_
                    refine cw_ret ?_
                    refine out_one [(Value.bool false)] (e_law04_DrawsApart false) Try.results3 ?_ rfl ?_
                    · exact (And.intro (rfl) trivial)
                    · exact Exists.intro false (And.intro rfl hm)
                  · refine cw_skip ?_
                    refine drop.of ?_
                    refine cw_seq ?_
                    refine cw_seq ?_
                    refine cw_reg (l := [0]) rfl rfl ?_
                    refine sgy (some 12) (Value.int .i64 0) rfl rfl rfl (y_assign rfl) ?_
                    refine drop.of ?_
                    refine cw_block ?_
                    refine cw_loop [4, 12, 13, 14, 132, 133, 134, 135, 136, 137, 138, 139, 140, 141, 142, 143, 144, 145, 146, 147, 148, 149, 150, 151, 152, 153, 154] (fun s47 => [(12, (Value.int .i64 s47))]) (fun s47 => [(b5, Obj.cells #[(Value.int .u64 7), (Value.int .u64 0), (Value.int .u64 8), (Value.int .u64 0)] 25 (0, 0))]) hm rfl (fun _ => rfl) ⟨rfl, trivial⟩ rfl (fun _ => nd) (fun rec48 s47 h junk nd hm => ?_)
                    refine cw_seq ?_
                    refine cw_seq ?_
                    refine cw_reg (l := [0, 1, 2, 3]) rfl rfl ?_
                    refine sgy (some 132) (Value.int .i64 s47) rfl rfl rfl (y_move rfl) ?_
                    refine sgy (some 133) (Sl.val s1) rfl rfl rfl (y_move rfl) ?_
                    refine sgy (some 134) (Value.int .i64 (s1.len : Int)) rfl rfl rfl (y_len (s := s1) rfl rfl Try.underlying22) ?_
                    refine sgy (some 135) (Value.bool (decide (s47 < (s1.len : Int)))) rfl rfl rfl (y_bin rfl rfl rfl) ?_
                    refine drop.of ?_
                    refine cw_ifm hm rfl (fun hc49 hm => ?_) (fun hc49 hm => ?_)
                    · refine cw_skip ?_
                      refine drop.of ?_
                      refine cw_seq ?_
                      refine cw_block ?_
                      refine cw_seq ?_
                      refine cw_reg (l := [0, 1, 2, 3, 4, 5, 6, 7]) rfl rfl ?_
                      refine sgy (some 139) (Value.pointer r13.1) rfl rfl rfl (y_move rfl) ?_
                      refine sg rfl rfl (v_call (c_draws_Draws_Draw hm) callee15 rfl (fun v h hm => ?_))
                      obtain ⟨r50, rfl, hm⟩ := hm
                      refine sgy (some 138) (Value.tuple #[(S_api_Word.val r50.1), (Value.int .i64 r50.2)]) rfl rfl rfl (y_move rfl) ?_
                      refine sgy (some 141) (S_api_Word.val r50.1) rfl rfl rfl (y_extract rfl rfl) ?_
                      refine sgy (some 142) (Value.int .i64 r50.2) rfl rfl rfl (y_extract rfl rfl) ?_
                      refine sg rfl rfl (b_alloc nd i25 rfl (c := #[(Value.int .u64 0), (Value.int .u64 0)]) rfl (fun b52 nd => ?_))
                      refine sg rfl rfl (b_store 0 nd rfl rfl rfl i25 rfl rfl rfl (c' := #[(Value.int .u64 r50.1.Hi), (Value.int .u64 r50.1.Lo)]) rfl (fun nd => ?_))
                      refine sgy (some 14) (Value.int .i64 r50.2) rfl rfl rfl (y_assign rfl) ?_
                      refine drop.of ?_
                      refine cw_joinM hm [143, 144, 145, 146, 147, 148, 149, 150, 151, 152, 153, 154] (fun s53 => [(154, (Value.bool s53))]) (fun s53 => [(b52, Obj.cells #[(Value.int .u64 r50.1.Hi), (Value.int .u64 r50.1.Lo)] 25 (0, 0)), (b5, Obj.cells #[(Value.int .u64 7), (Value.int .u64 0), (Value.int .u64 8), (Value.int .u64 0)] 25 (0, 0))]) rfl (fun _ => nd) (fun hm => ?_) (fun s53 h junk nd hm => ?_)
                      · refine cw_draw mixed rfl ?_
                        refine tyy 0 (some 143) (Value.int .i64 r50.2) rfl rfl (by kernel_rfl) (by kernel_rfl) (by kernel_rfl) rfl (y_move rfl) ?_
                        refine tyy 1 (some 144) (Value.bool (!decide (r50.2 = 0))) rfl rfl (by kernel_rfl) (by kernel_rfl) (by kernel_rfl) rfl (y_bin rfl rfl rfl) ?_
                        refine tyy 2 (some 145) (Value.bool (!decide (r50.2 = 0))) rfl rfl (by kernel_rfl) (by kernel_rfl) (by kernel_rfl) rfl (y_move rfl) ?_
                        refine mIf_elim hm (fun hc56 hm => ?_) (fun hc56 hm => ?_)
                        · refine tnn 3 (some 146) rfl rfl (by kernel_rfl) (by kernel_rfl) (by kernel_rfl) (by exact wFT rfl rfl hc56) ?_
                          refine tnn 4 (some 147) rfl rfl (by kernel_rfl) (by kernel_rfl) (by kernel_rfl) (by exact wFT rfl rfl hc56) ?_
                          refine tnn 5 (some 148) rfl rfl (by kernel_rfl) (by kernel_rfl) (by kernel_rfl) (by exact wFT rfl rfl hc56) ?_
                          refine tnn 6 (some 149) rfl rfl (by kernel_rfl) (by kernel_rfl) (by kernel_rfl) (by exact wFT rfl rfl hc56) ?_
                          refine tnn 7 (some 150) rfl rfl (by kernel_rfl) (by kernel_rfl) (by kernel_rfl) (by exact wFT rfl rfl hc56) ?_
                          refine tnn 8 (some 151) rfl rfl (by kernel_rfl) (by kernel_rfl) (by kernel_rfl) (by exact wFT rfl rfl hc56) ?_
                          refine tnn 9 (some 152) rfl rfl (by kernel_rfl) (by kernel_rfl) (by kernel_rfl) (by exact wFT rfl rfl hc56) ?_
                          refine tnn 10 (some 153) rfl rfl (by kernel_rfl) (by kernel_rfl) (by kernel_rfl) (by exact wFT rfl rfl hc56) ?_
                          refine tyy 11 (some 154) (Value.bool true) rfl rfl (by kernel_rfl) (by kernel_rfl) (by kernel_rfl) rfl (y_pickT rfl hc56 rfl) ?_
                          refine td (by kernel_rfl) ?_
                          exact Exists.intro true (And.intro (And.intro rfl trivial) (And.intro (bx_drop nd 0) hm))
                        · refine trr 3 (some 146) (S_api_Word.val r50.1) rfl rfl (by kernel_rfl) (by kernel_rfl) (by kernel_rfl) (by exact wFF rfl rfl hc56) (r_loadA 0 nd rfl rfl Try.underlying25 rfl i25 rfl) ?_
                          refine tyy 4 (some 147) (Sl.val s1) rfl rfl (by kernel_rfl) (by kernel_rfl) (by kernel_rfl) (by exact wFF rfl rfl hc56) (y_move rfl) ?_
                          refine tyy 5 (some 148) (Value.int .i64 s47) rfl rfl (by kernel_rfl) (by kernel_rfl) (by kernel_rfl) (by exact wFF rfl rfl hc56) (y_move rfl) ?_
                          obtain ⟨a57, hq58, hm⟩ := hm
                          refine tyy 6 (some 149) (Value.pointer (some a57)) rfl rfl (by kernel_rfl) (by kernel_rfl) (by kernel_rfl) (by exact wFF rfl rfl hc56) (y_idx Try.underlying22 i25 rfl rfl hq58) ?_
                          refine tyy 8 (some 151) (Value.int .i64 (iAdd .i64 1 (iRem .i64 (iAdd .i64 (iRem .i64 a1 128) 128) 128))) rfl rfl (by kernel_rfl) (by kernel_rfl) (by kernel_rfl) (by exact wFF rfl rfl hc56) (y_move rfl) ?_
                          refine tq 7 rfl (by kernel_rfl) (by kernel_rfl) (by kernel_rfl) (by exact wFF rfl rfl hc56) (v_loadA hm rfl Try.underlying25 rfl i25 S_api_Word.val (fun _ => ⟨rfl, rfl⟩) (fun x59 hm => ?_))
                          obtain ⟨r60, hq61, hm⟩ := hm
                          refine tyy 9 (some 152) (e_law04_cut r60) rfl rfl (by kernel_rfl) (by kernel_rfl) (by kernel_rfl) (by exact wFF rfl rfl hc56) (y_call (enc := e_law04_cut) hq61 (fun k h hk => c_law04_cut hk) callee18 rfl) ?_
                          refine tyy 10 (some 153) (Value.bool (!((decide (r50.1.Hi = r60.Hi)) && ((decide (r50.1.Lo = r60.Lo)) && true)))) rfl rfl (by kernel_rfl) (by kernel_rfl) (by kernel_rfl) (by exact wFF rfl rfl hc56) (y_neA (n := 2) Try.eqGuardType25 rfl rfl (eq_struct (n := 1) Try.underlying25 Try.stoodInHeld25 (efs_cons rfl (part_one Try.underlying23 rfl rfl) (part_one Try.underlying23 rfl rfl) (eq_int Try.underlying23) rfl (efs_cons rfl (part_one Try.underlying23 rfl rfl) (part_one Try.underlying23 rfl rfl) (eq_int Try.underlying23) rfl efs_nil))) rfl) ?_
                          refine tyy 11 (some 154) (Value.bool (!((decide (r50.1.Hi = r60.Hi)) && ((decide (r50.1.Lo = r60.Lo)) && true)))) rfl rfl (by kernel_rfl) (by kernel_rfl) (by kernel_rfl) rfl (y_pickF rfl hc56 rfl) ?_
                          refine td (by kernel_rfl) ?_
                          exact Exists.intro (!((decide (r50.1.Hi = r60.Hi)) && ((decide (r50.1.Lo = r60.Lo)) && true))) (And.intro (And.intro rfl trivial) (And.intro (bx_drop nd 0) hm))
                      · refine cw_ifm hm rfl (fun hc55 hm => ?_) (fun hc55 hm => ?_)
                        · refine cw_seq ?_
                          refine cw_reg (l := [0]) rfl rfl ?_
                          refine sgy (some 4) (Value.bool false) rfl rfl rfl (y_assign rfl) ?_
                          refine drop.of ?_
                          refine cw_ret ?_
                          refine out_one [(Value.bool false)] (e_law04_DrawsApart false) Try.results3 ?_ rfl ?_
                          · exact (And.intro (rfl) trivial)
                          · exact Exists.intro false (And.intro rfl hm)
                        · refine cw_skip ?_
                          refine drop.of ?_
                          refine cw_reg (l := [0, 1, 2]) rfl rfl ?_
                          refine sgy (some 136) (Value.int .i64 s47) rfl rfl rfl (y_move rfl) ?_
                          refine sgy (some 137) (Value.int .i64 (iAdd .i64 s47 1)) rfl rfl rfl (y_bin rfl rfl rfl) ?_
                          refine sgy (some 12) (Value.int .i64 (iAdd .i64 s47 1)) rfl rfl rfl (y_assign rfl) ?_
                          exact Exists.intro (iAdd .i64 s47 1) (And.intro (And.intro rfl trivial) (And.intro (bx_drop nd 1) hm))
                    · refine cw_exit ?_
                      refine drop.of ?_
                      refine cw_seq ?_
                      refine cw_reg (l := [0, 1, 2, 3]) rfl rfl ?_
                      refine sgy (some 155) (Value.pointer r13.1) rfl rfl rfl (y_move rfl) ?_
                      refine sg rfl rfl (v_call (c_draws_Draws_Left hm) callee17 rfl (fun v h hm => ?_))
                      obtain ⟨r62, rfl, hm⟩ := hm
                      refine sgy (some 157) (Value.bool (decide (r62 = 0))) rfl rfl rfl (y_bin rfl rfl rfl) ?_
                      refine sgy (some 4) (Value.bool (decide (r62 = 0))) rfl rfl rfl (y_assign rfl) ?_
                      refine drop.of ?_
                      refine cw_ret ?_
                      refine out_one [(Value.bool (decide (r62 = 0)))] (e_law04_DrawsApart (decide (r62 = 0))) Try.results3 ?_ rfl ?_
                      · exact (And.intro (rfl) trivial)
                      · exact Exists.intro (decide (r62 = 0)) (And.intro rfl hm)
end Go.Proofs.Ytnmaknkbdfpbkaa.K
