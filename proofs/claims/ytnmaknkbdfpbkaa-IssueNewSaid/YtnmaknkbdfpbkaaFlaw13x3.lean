/- Functions of the program, printed by a program of mine: law13_IssueNew -/
import Derived.Test.YtnmaknkbdfpbkaaT
import Derived.Test.YtnmaknkbdfpbkaaFdraws
import Derived.Test.YtnmaknkbdfpbkaaFissue
import Derived.Test.YtnmaknkbdfpbkaaFlaw13
import Derived.Test.YtnmaknkbdfpbkaaFlaw13x2
namespace Go.Proofs.Ytnmaknkbdfpbkaa.K
open Go Go.Proofs
/-! sesame/sesamelaw13.IssueNew -/
def e_law13_IssueNew : Bool → Value := fun r => (Value.bool r)
def m_law13_IssueNew (a0 : Sl) (a1 : Int) (a2 : Int) (a3 : Sl) (K : (Bool) → H → Prop) : H → Prop :=
  mJoin (fun (s1 : Sl) =>
    m_draws_New s1 (iAdd .i64 1 (iRem .i64 (iAdd .i64 (iRem .i64 a1 128) 128) 128)) fun r3 =>
    mJoin (fun (s5 : Bool) =>
      mIf s5 (
        K false
        ) (
        mNZ (iAdd .i64 (s1.len : Int) 1) <|
        mNZ (iAdd .i64 (s1.len : Int) 1) <|
        m_draws_Draws_Skip r3.1 (iRem .i64 (iAdd .i64 (iAdd .i64 (iRem .i64 a2 (iAdd .i64 (s1.len : Int) 1)) (s1.len : Int)) 1) (iAdd .i64 (s1.len : Int) 1)) fun r10 =>
        mNew 25 #[] fun a12 =>
        mAppend 25 2 16 #[(Value.int .u64 0), (Value.int .u64 0)] (⟨some a12, 0, 0⟩ : Sl) a3 fun s13 =>
        mApp 25 2 16 #[(Value.int .u64 0), (Value.int .u64 0)] 2 [(Value.int .u64 71), (Value.int .u64 0), (Value.int .u64 72), (Value.int .u64 0)] s13 fun s15 =>
        mCut s15 0 (a3.len : Int) 2 fun s16 =>
        m_issue_Draw r3.1 s16 fun r18 =>
        m_draws_Draws_Taken r3.1 fun r21 =>
        mJoin (fun (s23 : Bool) =>
          mIf s23 (
            K false
            ) (
            m_draws_Draws_Skip r3.1 (iRem .i64 (iAdd .i64 (iAdd .i64 (iRem .i64 a2 (iAdd .i64 (s1.len : Int) 1)) (s1.len : Int)) 1) (iAdd .i64 (s1.len : Int) 1)) fun r26 =>
            mLoop (fun (rec29 : Int → H → Prop) (s28 : Int) =>
              mIf (decide (s28 < (iSub .i64 r21 (iRem .i64 (iAdd .i64 (iAdd .i64 (iRem .i64 a2 (iAdd .i64 (s1.len : Int) 1)) (s1.len : Int)) 1) (iAdd .i64 (s1.len : Int) 1))))) (
                m_draws_Draws_Draw r3.1 fun r31 =>
                mJoin (fun (s34 : Bool) =>
                  mJoin (fun (s36 : Bool) =>
                    mIf s36 (
                      K false
                      ) (
                      rec29 (iAdd .i64 s28 1)
                      )
                    ) (fun j37 =>
                    mIf (!decide (r31.2 = 0)) (
                      j37 true
                      ) (
                      m_law13_among r31.1 a3 fun r40 =>
                      mIf (r40 == s34) (
                        j37 true
                        ) (
                        mIf s34 (
                          j37 (!((decide (r31.1.Hi = r18.1.Hi)) && ((decide (r31.1.Lo = r18.1.Lo)) && true)))
                          ) (
                          j37 false
                          )
                        )
                      )
                    )
                  ) (fun j35 =>
                  mIf (decide (r18.2 = 0)) (
                    j35 (decide (s28 = (iSub .i64 (iSub .i64 r21 (iRem .i64 (iAdd .i64 (iAdd .i64 (iRem .i64 a2 (iAdd .i64 (s1.len : Int) 1)) (s1.len : Int)) 1) (iAdd .i64 (s1.len : Int) 1))) 1)))
                    ) (
                    j35 false
                    )
                  )
                ) (
                m_draws_Draws_Left r3.1 fun r45 =>
                mJoin (fun (s47 : Bool) =>
                  mIf s47 (
                    K false
                    ) (
                    m_draws_Draws_Skip r3.1 (iRem .i64 (iAdd .i64 (iAdd .i64 (iRem .i64 a2 (iAdd .i64 (s1.len : Int) 1)) (s1.len : Int)) 1) (iAdd .i64 (s1.len : Int) 1)) fun r50 =>
                    mCut s15 0 (a3.len : Int) 2 fun s52 =>
                    m_issue_Draw r3.1 s52 fun r54 =>
                    mJoin (fun (s57 : Bool) =>
                      mIf s57 (
                        K false
                        ) (
                        mLoop (fun (rec61 : Int → H → Prop) (s60 : Int) =>
                          mIf (decide (s60 < (a3.len : Int))) (
                            mIdx s15 s60 2 fun a63 =>
                            mIdx a3 s60 2 fun a65 =>
                            mLoad S_api_Word.cells a63 fun x67 =>
                            mLoad S_api_Word.cells a65 fun x68 =>
                            mIf (!((decide (x67.Hi = x68.Hi)) && ((decide (x67.Lo = x68.Lo)) && true))) (
                              K false
                              ) (
                              rec61 (iAdd .i64 s60 1)
                              )
                            ) (
                            mJoin (fun (s70 : Bool) =>
                              mIf s70 (
                                K true
                                ) (
                                mIdx s15 0 2 fun a73 =>
                                mStore a73 [(Value.int .u64 r18.1.Hi), (Value.int .u64 r18.1.Lo)] <|
                                m_draws_Draws_Skip r3.1 (iRem .i64 (iAdd .i64 (iAdd .i64 (iRem .i64 a2 (iAdd .i64 (s1.len : Int) 1)) (s1.len : Int)) 1) (iAdd .i64 (s1.len : Int) 1)) fun r75 =>
                                mCut s15 0 (a3.len : Int) 2 fun s77 =>
                                m_issue_Draw r3.1 s77 fun r79 =>
                                mIf (!decide (r79.2 = 0)) (
                                  K ((decide (r79.1.Hi = 0)) && ((decide (r79.1.Lo = 0)) && true))
                                  ) (
                                  K (!((decide (r79.1.Hi = r18.1.Hi)) && ((decide (r79.1.Lo = r18.1.Lo)) && true)))
                                  )
                                )
                              ) (fun j71 =>
                              mIf (!decide (r18.2 = 0)) (
                                j71 true
                                ) (
                                j71 (decide ((a3.len : Int) = 0))
                                )
                              )
                            )
                          ) 0
                        )
                      ) (fun j58 =>
                      mIf (!((decide (r54.1.Hi = r18.1.Hi)) && ((decide (r54.1.Lo = r18.1.Lo)) && true))) (
                        j58 true
                        ) (
                        j58 (!decide (r54.2 = r18.2))
                        )
                      )
                    )
                  ) (fun j48 =>
                  mIf (decide (r18.2 = 0)) (
                    mIf (decide ((iSub .i64 r21 (iRem .i64 (iAdd .i64 (iAdd .i64 (iRem .i64 a2 (iAdd .i64 (s1.len : Int) 1)) (s1.len : Int)) 1) (iAdd .i64 (s1.len : Int) 1))) = 0)) (
                      j48 true
                      ) (
                      mIf (decide (r18.2 = 11)) (
                        mIf (!decide (r45 = 0)) (
                          j48 true
                          ) (
                          mIf (decide ((iSub .i64 r21 (iRem .i64 (iAdd .i64 (iAdd .i64 (iRem .i64 a2 (iAdd .i64 (s1.len : Int) 1)) (s1.len : Int)) 1) (iAdd .i64 (s1.len : Int) 1))) = 9)) (
                            j48 true
                            ) (
                            mIf (decide (r18.2 = 12)) (
                              mIf (!decide ((iSub .i64 r21 (iRem .i64 (iAdd .i64 (iAdd .i64 (iRem .i64 a2 (iAdd .i64 (s1.len : Int) 1)) (s1.len : Int)) 1) (iAdd .i64 (s1.len : Int) 1))) = 9)) (
                                j48 true
                                ) (
                                mIf (!decide (r18.2 = 0)) (
                                  mIf (!decide (r18.2 = 11)) (
                                    mIf (!decide (r18.2 = 12)) (
                                      j48 true
                                      ) (
                                      j48 (!((decide (r18.1.Hi = 0)) && ((decide (r18.1.Lo = 0)) && true)))
                                      )
                                    ) (
                                    j48 (!((decide (r18.1.Hi = 0)) && ((decide (r18.1.Lo = 0)) && true)))
                                    )
                                  ) (
                                  j48 false
                                  )
                                )
                              ) (
                              mIf (!decide (r18.2 = 0)) (
                                mIf (!decide (r18.2 = 11)) (
                                  mIf (!decide (r18.2 = 12)) (
                                    j48 true
                                    ) (
                                    j48 (!((decide (r18.1.Hi = 0)) && ((decide (r18.1.Lo = 0)) && true)))
                                    )
                                  ) (
                                  j48 (!((decide (r18.1.Hi = 0)) && ((decide (r18.1.Lo = 0)) && true)))
                                  )
                                ) (
                                j48 false
                                )
                              )
                            )
                          )
                        ) (
                        mIf (decide (r18.2 = 12)) (
                          mIf (!decide ((iSub .i64 r21 (iRem .i64 (iAdd .i64 (iAdd .i64 (iRem .i64 a2 (iAdd .i64 (s1.len : Int) 1)) (s1.len : Int)) 1) (iAdd .i64 (s1.len : Int) 1))) = 9)) (
                            j48 true
                            ) (
                            mIf (!decide (r18.2 = 0)) (
                              mIf (!decide (r18.2 = 11)) (
                                mIf (!decide (r18.2 = 12)) (
                                  j48 true
                                  ) (
                                  j48 (!((decide (r18.1.Hi = 0)) && ((decide (r18.1.Lo = 0)) && true)))
                                  )
                                ) (
                                j48 (!((decide (r18.1.Hi = 0)) && ((decide (r18.1.Lo = 0)) && true)))
                                )
                              ) (
                              j48 false
                              )
                            )
                          ) (
                          mIf (!decide (r18.2 = 0)) (
                            mIf (!decide (r18.2 = 11)) (
                              mIf (!decide (r18.2 = 12)) (
                                j48 true
                                ) (
                                j48 (!((decide (r18.1.Hi = 0)) && ((decide (r18.1.Lo = 0)) && true)))
                                )
                              ) (
                              j48 (!((decide (r18.1.Hi = 0)) && ((decide (r18.1.Lo = 0)) && true)))
                              )
                            ) (
                            j48 false
                            )
                          )
                        )
                      )
                    ) (
                    mIf (decide (r18.2 = 11)) (
                      mIf (!decide (r45 = 0)) (
                        j48 true
                        ) (
                        mIf (decide ((iSub .i64 r21 (iRem .i64 (iAdd .i64 (iAdd .i64 (iRem .i64 a2 (iAdd .i64 (s1.len : Int) 1)) (s1.len : Int)) 1) (iAdd .i64 (s1.len : Int) 1))) = 9)) (
                          j48 true
                          ) (
                          mIf (decide (r18.2 = 12)) (
                            mIf (!decide ((iSub .i64 r21 (iRem .i64 (iAdd .i64 (iAdd .i64 (iRem .i64 a2 (iAdd .i64 (s1.len : Int) 1)) (s1.len : Int)) 1) (iAdd .i64 (s1.len : Int) 1))) = 9)) (
                              j48 true
                              ) (
                              mIf (!decide (r18.2 = 0)) (
                                mIf (!decide (r18.2 = 11)) (
                                  mIf (!decide (r18.2 = 12)) (
                                    j48 true
                                    ) (
                                    j48 (!((decide (r18.1.Hi = 0)) && ((decide (r18.1.Lo = 0)) && true)))
                                    )
                                  ) (
                                  j48 (!((decide (r18.1.Hi = 0)) && ((decide (r18.1.Lo = 0)) && true)))
                                  )
                                ) (
                                j48 false
                                )
                              )
                            ) (
                            mIf (!decide (r18.2 = 0)) (
                              mIf (!decide (r18.2 = 11)) (
                                mIf (!decide (r18.2 = 12)) (
                                  j48 true
                                  ) (
                                  j48 (!((decide (r18.1.Hi = 0)) && ((decide (r18.1.Lo = 0)) && true)))
                                  )
                                ) (
                                j48 (!((decide (r18.1.Hi = 0)) && ((decide (r18.1.Lo = 0)) && true)))
                                )
                              ) (
                              j48 false
                              )
                            )
                          )
                        )
                      ) (
                      mIf (decide (r18.2 = 12)) (
                        mIf (!decide ((iSub .i64 r21 (iRem .i64 (iAdd .i64 (iAdd .i64 (iRem .i64 a2 (iAdd .i64 (s1.len : Int) 1)) (s1.len : Int)) 1) (iAdd .i64 (s1.len : Int) 1))) = 9)) (
                          j48 true
                          ) (
                          mIf (!decide (r18.2 = 0)) (
                            mIf (!decide (r18.2 = 11)) (
                              mIf (!decide (r18.2 = 12)) (
                                j48 true
                                ) (
                                j48 (!((decide (r18.1.Hi = 0)) && ((decide (r18.1.Lo = 0)) && true)))
                                )
                              ) (
                              j48 (!((decide (r18.1.Hi = 0)) && ((decide (r18.1.Lo = 0)) && true)))
                              )
                            ) (
                            j48 false
                            )
                          )
                        ) (
                        mIf (!decide (r18.2 = 0)) (
                          mIf (!decide (r18.2 = 11)) (
                            mIf (!decide (r18.2 = 12)) (
                              j48 true
                              ) (
                              j48 (!((decide (r18.1.Hi = 0)) && ((decide (r18.1.Lo = 0)) && true)))
                              )
                            ) (
                            j48 (!((decide (r18.1.Hi = 0)) && ((decide (r18.1.Lo = 0)) && true)))
                            )
                          ) (
                          j48 false
                          )
                        )
                      )
                    )
                  )
                )
              ) 0
            )
          ) (fun j24 =>
          mIf (decide ((iSub .i64 r21 (iRem .i64 (iAdd .i64 (iAdd .i64 (iRem .i64 a2 (iAdd .i64 (s1.len : Int) 1)) (s1.len : Int)) 1) (iAdd .i64 (s1.len : Int) 1))) < 0)) (
            j24 true
            ) (
            mIf (decide (9 < (iSub .i64 r21 (iRem .i64 (iAdd .i64 (iAdd .i64 (iRem .i64 a2 (iAdd .i64 (s1.len : Int) 1)) (s1.len : Int)) 1) (iAdd .i64 (s1.len : Int) 1))))) (
              j24 true
              ) (
              mIdx s15 (a3.len : Int) 2 fun a127 =>
              mLoad S_api_Word.cells a127 fun x129 =>
              mIf (!((decide (x129.Hi = 71)) && ((decide (x129.Lo = 0)) && true))) (
                j24 true
                ) (
                mIdx s15 (iAdd .i64 (a3.len : Int) 1) 2 fun a131 =>
                mLoad S_api_Word.cells a131 fun x133 =>
                j24 (!((decide (x133.Hi = 72)) && ((decide (x133.Lo = 0)) && true)))
                )
              )
            )
          )
        )
      ) (fun j6 =>
      m_law13_known fun r134 =>
      mIf (!r134) (
        j6 true
        ) (
        mIf (!decide (r3.2 = 0)) (
          j6 true
          ) (
          j6 (r3.1.isNone)
          )
        )
      )
    ) (fun j2 =>
    mIf (decide (500 < (a0.len : Int))) (
      mCut a0 0 500 2 fun s139 =>
      j2 s139
      ) (
      j2 a0
      )
    )
set_option maxRecDepth 100000 in
set_option maxHeartbeats 8000000 in
theorem c_law13_IssueNew {a0 : Sl} {a1 : Int} {a2 : Int} {a3 : Sl} {K : (Bool) → H → Prop} {h : H} (hm : m_law13_IssueNew a0 a1 a2 a3 K h) : ACall Try.prog 7 #[(Sl.val a0), (Value.int .i64 a1), (Value.int .i64 a2), (Sl.val a3)] h (fun v h' => ∃ r, v = e_law13_IssueNew r ∧ K r h') noP := by
  unfold m_law13_IssueNew at hm
  have nd : (([] : List (Nat × Obj)).map Prod.fst).Nodup := List.nodup_nil
  refine cw_func Try.func7 rfl rfl ?_
  refine cw_seq ?_
  refine cw_reg (l := [0]) rfl rfl ?_
  refine sgy (some 8) (Value.bool false) rfl rfl rfl (y_assign rfl) ?_
  refine drop.of ?_
  refine cw_seq ?_
  refine cw_reg (l := [0, 1, 2, 3, 4, 5]) rfl rfl ?_
  refine sgy (some 25) (Value.int .i64 a1) rfl rfl rfl (y_move rfl) ?_
  refine sgy (some 26) (Value.int .i64 (iRem .i64 a1 128)) rfl rfl rfl (y_rem rfl rfl (by decide)) ?_
  refine sgy (some 27) (Value.int .i64 (iAdd .i64 (iRem .i64 a1 128) 128)) rfl rfl rfl (y_bin rfl rfl rfl) ?_
  refine sgy (some 28) (Value.int .i64 (iRem .i64 (iAdd .i64 (iRem .i64 a1 128) 128) 128)) rfl rfl rfl (y_rem rfl rfl (by decide)) ?_
  refine sgy (some 29) (Value.int .i64 (iAdd .i64 1 (iRem .i64 (iAdd .i64 (iRem .i64 a1 128) 128) 128))) rfl rfl rfl (y_bin rfl rfl rfl) ?_
  refine sgy (some 1) (Value.int .i64 (iAdd .i64 1 (iRem .i64 (iAdd .i64 (iRem .i64 a1 128) 128) 128))) rfl rfl rfl (y_assign rfl) ?_
  refine drop.of ?_
  refine cw_joinM hm [0, 30, 31, 32, 33, 34] (fun s1 => [(0, (Sl.val s1))]) (fun s1 => []) rfl (fun _ => nd) (fun hm => ?_) (fun s1 h junk nd hm => ?_)
  · refine cw_seq ?_
    refine cw_reg (l := [0, 1, 2]) rfl rfl ?_
    refine sgy (some 30) (Sl.val a0) rfl rfl rfl (y_move rfl) ?_
    refine sgy (some 31) (Value.int .i64 (a0.len : Int)) rfl rfl rfl (y_len (s := a0) rfl rfl Try.underlying22) ?_
    refine sgy (some 32) (Value.bool (decide (500 < (a0.len : Int)))) rfl rfl rfl (y_bin rfl rfl rfl) ?_
    refine drop.of ?_
    refine cw_ifm hm rfl (fun hc138 hm => ?_) (fun hc138 hm => ?_)
    · refine cw_reg (l := [0, 1, 2]) rfl rfl ?_
      refine sgy (some 33) (Sl.val a0) rfl rfl rfl (y_move rfl) ?_
      obtain ⟨s139, hq140, hm⟩ := hm
      refine sgy (some 34) (Sl.val s139) rfl rfl rfl (y_cut Try.underlying22 i25 (s := a0) rfl rfl ⟨_, rfl⟩ hq140) ?_
      refine sgy (some 0) (Sl.val s139) rfl rfl rfl (y_assign rfl) ?_
      exact Exists.intro s139 (And.intro (And.intro rfl trivial) (And.intro (bx_drop nd 0) hm))
    · refine cw_skip ?_
      exact Exists.intro a0 (And.intro (And.intro rfl trivial) (And.intro (bx_drop nd 0) hm))
  · refine cw_seq ?_
    refine cw_reg (l := [0, 1, 2, 3, 4, 5, 6, 7]) rfl rfl ?_
    refine sgy (some 36) (Sl.val s1) rfl rfl rfl (y_move rfl) ?_
    refine sgy (some 37) (Value.int .i64 (iAdd .i64 1 (iRem .i64 (iAdd .i64 (iRem .i64 a1 128) 128) 128))) rfl rfl rfl (y_move rfl) ?_
    refine sg rfl rfl (v_call (c_draws_New hm) callee13 rfl (fun v h hm => ?_))
    obtain ⟨r3, rfl, hm⟩ := hm
    refine sgy (some 35) (Value.tuple #[(Value.pointer r3.1), (Value.int .i64 r3.2)]) rfl rfl rfl (y_move rfl) ?_
    refine sgy (some 39) (Value.pointer r3.1) rfl rfl rfl (y_extract rfl rfl) ?_
    refine sgy (some 40) (Value.int .i64 r3.2) rfl rfl rfl (y_extract rfl rfl) ?_
    refine sgy (some 9) (Value.pointer r3.1) rfl rfl rfl (y_assign rfl) ?_
    refine sgy (some 10) (Value.int .i64 r3.2) rfl rfl rfl (y_assign rfl) ?_
    refine drop.of ?_
    refine cw_seq ?_
    refine cw_joinM hm [41, 42, 43, 44, 45, 46, 47, 48, 49, 50] (fun s5 => [(50, (Value.bool s5))]) (fun s5 => []) rfl (fun _ => nd) (fun hm => ?_) (fun s5 h junk nd hm => ?_)
    · refine cw_reg (l := [0, 1, 2, 3, 4, 5, 6, 7, 8, 9]) rfl rfl ?_
      refine sg rfl rfl (v_call (c_law13_known hm) callee22 rfl (fun v h hm => ?_))
      obtain ⟨r134, rfl, hm⟩ := hm
      refine sgy (some 42) (Value.bool (!r134)) rfl rfl rfl (y_not rfl) ?_
      refine sgy (some 43) (Value.bool (!r134)) rfl rfl rfl (y_move rfl) ?_
      refine mIf_elim hm (fun hc136 hm => ?_) (fun hc136 hm => ?_)
      · refine sgn (some 44) rfl rfl (by exact wFT rfl rfl hc136) ?_
        refine sgn (some 45) rfl rfl (by exact wFT rfl rfl hc136) ?_
        refine sgy (some 46) (Value.bool true) rfl rfl rfl (y_pickT rfl hc136 rfl) ?_
        refine sgy (some 47) (Value.bool true) rfl rfl rfl (y_move rfl) ?_
        refine sgn (some 48) rfl rfl rfl ?_
        refine sgn (some 49) rfl rfl rfl ?_
        refine sgy (some 50) (Value.bool true) rfl rfl rfl (y_pickT rfl rfl rfl) ?_
        exact Exists.intro true (And.intro (And.intro rfl trivial) (And.intro (bx_drop nd 0) hm))
      · refine sgy (some 44) (Value.int .i64 r3.2) rfl rfl (by exact wFF rfl rfl hc136) (y_move rfl) ?_
        refine sgy (some 45) (Value.bool (!decide (r3.2 = 0))) rfl rfl (by exact wFF rfl rfl hc136) (y_bin rfl rfl rfl) ?_
        refine sgy (some 46) (Value.bool (!decide (r3.2 = 0))) rfl rfl rfl (y_pickF rfl hc136 rfl) ?_
        refine sgy (some 47) (Value.bool (!decide (r3.2 = 0))) rfl rfl rfl (y_move rfl) ?_
        refine mIf_elim hm (fun hc137 hm => ?_) (fun hc137 hm => ?_)
        · refine sgn (some 48) rfl rfl (by exact wFT rfl rfl hc137) ?_
          refine sgn (some 49) rfl rfl (by exact wFT rfl rfl hc137) ?_
          refine sgy (some 50) (Value.bool true) rfl rfl rfl (y_pickT rfl hc137 rfl) ?_
          exact Exists.intro true (And.intro (And.intro rfl trivial) (And.intro (bx_drop nd 0) hm))
        · refine sgy (some 48) (Value.pointer r3.1) rfl rfl (by exact wFF rfl rfl hc137) (y_move rfl) ?_
          refine sgy (some 49) (Value.bool (r3.1.isNone)) rfl rfl (by exact wFF rfl rfl hc137) (y_eqP Try.underlying26 rfl rfl) ?_
          refine sgy (some 50) (Value.bool (r3.1.isNone)) rfl rfl rfl (y_pickF rfl hc137 rfl) ?_
          exact Exists.intro (r3.1.isNone) (And.intro (And.intro rfl trivial) (And.intro (bx_drop nd 0) hm))
    · refine cw_ifm hm rfl (fun hc7 hm => ?_) (fun hc7 hm => ?_)
      · refine cw_seq ?_
        refine cw_reg (l := [0]) rfl rfl ?_
        refine sgy (some 8) (Value.bool false) rfl rfl rfl (y_assign rfl) ?_
        refine drop.of ?_
        refine cw_ret ?_
        refine out_one [(Value.bool false)] (e_law13_IssueNew false) Try.results7 ?_ rfl ?_
        · exact (And.intro (rfl) trivial)
        · exact Exists.intro false (And.intro rfl hm)
      · refine cw_skip ?_
        refine drop.of ?_
        refine cw_seq ?_
        refine cw_reg (l := [0, 1, 2, 3, 4, 5, 6, 7, 8, 9, 10, 11, 12, 13]) rfl rfl ?_
        refine sgy (some 51) (Value.int .i64 a2) rfl rfl rfl (y_move rfl) ?_
        refine sgy (some 52) (Sl.val s1) rfl rfl rfl (y_move rfl) ?_
        refine sgy (some 53) (Value.int .i64 (s1.len : Int)) rfl rfl rfl (y_len (s := s1) rfl rfl Try.underlying22) ?_
        refine sgy (some 54) (Value.int .i64 (iAdd .i64 (s1.len : Int) 1)) rfl rfl rfl (y_bin rfl rfl rfl) ?_
        obtain ⟨hq8, hm⟩ := hm
        refine sgy (some 55) (Value.int .i64 (iRem .i64 a2 (iAdd .i64 (s1.len : Int) 1))) rfl rfl rfl (y_rem rfl rfl hq8) ?_
        refine sgy (some 56) (Sl.val s1) rfl rfl rfl (y_move rfl) ?_
        refine sgy (some 57) (Value.int .i64 (s1.len : Int)) rfl rfl rfl (y_len (s := s1) rfl rfl Try.underlying22) ?_
        refine sgy (some 58) (Value.int .i64 (iAdd .i64 (iRem .i64 a2 (iAdd .i64 (s1.len : Int) 1)) (s1.len : Int))) rfl rfl rfl (y_bin rfl rfl rfl) ?_
        refine sgy (some 59) (Value.int .i64 (iAdd .i64 (iAdd .i64 (iRem .i64 a2 (iAdd .i64 (s1.len : Int) 1)) (s1.len : Int)) 1)) rfl rfl rfl (y_bin rfl rfl rfl) ?_
        refine sgy (some 60) (Sl.val s1) rfl rfl rfl (y_move rfl) ?_
        refine sgy (some 61) (Value.int .i64 (s1.len : Int)) rfl rfl rfl (y_len (s := s1) rfl rfl Try.underlying22) ?_
        refine sgy (some 62) (Value.int .i64 (iAdd .i64 (s1.len : Int) 1)) rfl rfl rfl (y_bin rfl rfl rfl) ?_
        obtain ⟨hq9, hm⟩ := hm
        refine sgy (some 63) (Value.int .i64 (iRem .i64 (iAdd .i64 (iAdd .i64 (iRem .i64 a2 (iAdd .i64 (s1.len : Int) 1)) (s1.len : Int)) 1) (iAdd .i64 (s1.len : Int) 1))) rfl rfl rfl (y_rem rfl rfl hq9) ?_
        refine sgy (some 2) (Value.int .i64 (iRem .i64 (iAdd .i64 (iAdd .i64 (iRem .i64 a2 (iAdd .i64 (s1.len : Int) 1)) (s1.len : Int)) 1) (iAdd .i64 (s1.len : Int) 1))) rfl rfl rfl (y_assign rfl) ?_
        refine drop.of ?_
        refine cw_seq ?_
        refine cw_reg (l := [0, 1, 2]) rfl rfl ?_
        refine sgy (some 64) (Value.pointer r3.1) rfl rfl rfl (y_move rfl) ?_
        refine sgy (some 65) (Value.int .i64 (iRem .i64 (iAdd .i64 (iAdd .i64 (iRem .i64 a2 (iAdd .i64 (s1.len : Int) 1)) (s1.len : Int)) 1) (iAdd .i64 (s1.len : Int) 1))) rfl rfl rfl (y_move rfl) ?_
        refine sg rfl rfl (v_call (c_draws_Draws_Skip hm) callee21 rfl (fun v h hm => ?_))
        obtain ⟨r10, rfl, hm⟩ := hm
        refine drop.of ?_
        refine cw_seq ?_
        refine cw_reg (l := [0, 1, 2, 3, 4, 5, 6, 7]) rfl rfl ?_
        refine sg rfl rfl (v_lit hm Try.underlying22 i25 rfl rfl rfl rfl (fun a12 h hm => ?_))
        refine sgy (some 68) (Sl.val a3) rfl rfl rfl (y_move rfl) ?_
        refine sg rfl rfl (v_append Try.underlying22 Try.underlying22 i25 rfl rfl (s := (⟨some a12, 0, 0⟩ : Sl)) (x' := a3) rfl rfl hm (fun s13 h hm => ?_))
        refine sgy (some 70) (S_api_Word.val (⟨71, 0⟩ : S_api_Word)) rfl rfl rfl (y_build Try.underlying25 i25 rfl (sizes_cons i23 (sizes_cons i23 sizes_nil)) rfl (cs := #[(Value.int .u64 71), (Value.int .u64 0)]) rfl) ?_
        refine sgy (some 71) (S_api_Word.val (⟨72, 0⟩ : S_api_Word)) rfl rfl rfl (y_build Try.underlying25 i25 rfl (sizes_cons i23 (sizes_cons i23 sizes_nil)) rfl (cs := #[(Value.int .u64 72), (Value.int .u64 0)]) rfl) ?_
        refine sg rfl rfl (b_lit nd Try.underlying22 i25 rfl rfl rfl (cs := #[(Value.int .u64 71), (Value.int .u64 0), (Value.int .u64 72), (Value.int .u64 0)]) rfl (fun b14 nd => ?_))
        refine sg rfl rfl (v_push 0 Try.underlying22 Try.underlying22 i25 rfl rfl nd (s := s13) rfl rfl rfl rfl rfl hm (fun s15 h hm => ?_))
        refine sgy (some 11) (Sl.val s15) rfl rfl rfl (y_assign rfl) ?_
        refine drop.of ?_
        refine cw_seq ?_
        refine cw_reg (l := [0, 1, 2, 3, 4, 5, 6, 7, 8, 9, 10, 11]) rfl rfl ?_
        refine sgy (some 75) (Value.pointer r3.1) rfl rfl rfl (y_move rfl) ?_
        refine sgy (some 76) (Sl.val s15) rfl rfl rfl (y_move rfl) ?_
        refine sgy (some 77) (Sl.val a3) rfl rfl rfl (y_move rfl) ?_
        refine sgy (some 78) (Value.int .i64 (a3.len : Int)) rfl rfl rfl (y_len (s := a3) rfl rfl Try.underlying22) ?_
        obtain ⟨s16, hq17, hm⟩ := hm
        refine sgy (some 79) (Sl.val s16) rfl rfl rfl (y_cut Try.underlying22 i25 (s := s15) rfl rfl ⟨_, rfl⟩ hq17) ?_
        refine sg rfl rfl (v_call (c_issue_Draw hm) callee25 rfl (fun v h hm => ?_))
        obtain ⟨r18, rfl, hm⟩ := hm
        refine sgy (some 74) (Value.tuple #[(S_api_Word.val r18.1), (Value.int .i64 r18.2)]) rfl rfl rfl (y_move rfl) ?_
        refine sgy (some 81) (S_api_Word.val r18.1) rfl rfl rfl (y_extract rfl rfl) ?_
        refine sgy (some 82) (Value.int .i64 r18.2) rfl rfl rfl (y_extract rfl rfl) ?_
        refine sg rfl rfl (b_alloc nd i25 rfl (c := #[(Value.int .u64 0), (Value.int .u64 0)]) rfl (fun b20 nd => ?_))
        refine sg rfl rfl (b_store 0 nd rfl rfl rfl i25 rfl rfl rfl (c' := #[(Value.int .u64 r18.1.Hi), (Value.int .u64 r18.1.Lo)]) rfl (fun nd => ?_))
        refine sgy (some 13) (Value.int .i64 r18.2) rfl rfl rfl (y_assign rfl) ?_
        refine drop.of ?_
        refine cw_seq ?_
        refine cw_reg (l := [0, 1, 2, 3, 4]) rfl rfl ?_
        refine sgy (some 83) (Value.pointer r3.1) rfl rfl rfl (y_move rfl) ?_
        refine sg rfl rfl (v_call (c_draws_Draws_Taken hm) callee16 rfl (fun v h hm => ?_))
        obtain ⟨r21, rfl, hm⟩ := hm
        refine sgy (some 85) (Value.int .i64 (iRem .i64 (iAdd .i64 (iAdd .i64 (iRem .i64 a2 (iAdd .i64 (s1.len : Int) 1)) (s1.len : Int)) 1) (iAdd .i64 (s1.len : Int) 1))) rfl rfl rfl (y_move rfl) ?_
        refine sgy (some 86) (Value.int .i64 (iSub .i64 r21 (iRem .i64 (iAdd .i64 (iAdd .i64 (iRem .i64 a2 (iAdd .i64 (s1.len : Int) 1)) (s1.len : Int)) 1) (iAdd .i64 (s1.len : Int) 1)))) rfl rfl rfl (y_bin rfl rfl rfl) ?_
        refine sgy (some 14) (Value.int .i64 (iSub .i64 r21 (iRem .i64 (iAdd .i64 (iAdd .i64 (iRem .i64 a2 (iAdd .i64 (s1.len : Int) 1)) (s1.len : Int)) 1) (iAdd .i64 (s1.len : Int) 1)))) rfl rfl rfl (y_assign rfl) ?_
        refine drop.of ?_
        refine cw_seq ?_
        refine cw_joinM hm [87, 88, 89, 90, 91, 92, 93, 94, 95, 96, 97, 98, 99, 100, 101, 102, 103, 104, 105, 106, 107, 108, 109, 110, 111] (fun s23 => [(111, (Value.bool s23))]) (fun s23 => [(b20, Obj.cells #[(Value.int .u64 r18.1.Hi), (Value.int .u64 r18.1.Lo)] 25 (0, 0)), (b14, Obj.cells #[(Value.int .u64 71), (Value.int .u64 0), (Value.int .u64 72), (Value.int .u64 0)] 25 (0, 0))]) rfl (fun _ => nd) (fun hm => ?_) (fun s23 h junk nd hm => ?_)
        · refine cw_reg (l := [0, 1, 2, 3, 4, 5, 6, 7, 8, 9, 10, 11, 12, 13, 14, 15, 16, 17, 18, 19, 20, 21, 22, 23, 24]) rfl rfl ?_
          refine sgy (some 87) (Value.int .i64 (iSub .i64 r21 (iRem .i64 (iAdd .i64 (iAdd .i64 (iRem .i64 a2 (iAdd .i64 (s1.len : Int) 1)) (s1.len : Int)) 1) (iAdd .i64 (s1.len : Int) 1)))) rfl rfl rfl (y_move rfl) ?_
          refine sgy (some 88) (Value.bool (decide ((iSub .i64 r21 (iRem .i64 (iAdd .i64 (iAdd .i64 (iRem .i64 a2 (iAdd .i64 (s1.len : Int) 1)) (s1.len : Int)) 1) (iAdd .i64 (s1.len : Int) 1))) < 0))) rfl rfl rfl (y_bin rfl rfl rfl) ?_
          refine sgy (some 89) (Value.bool (decide ((iSub .i64 r21 (iRem .i64 (iAdd .i64 (iAdd .i64 (iRem .i64 a2 (iAdd .i64 (s1.len : Int) 1)) (s1.len : Int)) 1) (iAdd .i64 (s1.len : Int) 1))) < 0))) rfl rfl rfl (y_move rfl) ?_
          refine mIf_elim hm (fun hc125 hm => ?_) (fun hc125 hm => ?_)
          · refine sgn (some 90) rfl rfl (by exact wFT rfl rfl hc125) ?_
            refine sgn (some 91) rfl rfl (by exact wFT rfl rfl hc125) ?_
            refine sgy (some 92) (Value.bool true) rfl rfl rfl (y_pickT rfl hc125 rfl) ?_
            refine sgy (some 93) (Value.bool true) rfl rfl rfl (y_move rfl) ?_
            refine sgn (some 94) rfl rfl rfl ?_
            refine sgn (some 95) rfl rfl rfl ?_
            refine sgn (some 96) rfl rfl rfl ?_
            refine sgn (some 97) rfl rfl rfl ?_
            refine sgn (some 98) rfl rfl rfl ?_
            refine sgn (some 99) rfl rfl rfl ?_
            refine sgn (some 100) rfl rfl rfl ?_
            refine sgy (some 101) (Value.bool true) rfl rfl rfl (y_pickT rfl rfl rfl) ?_
            refine sgy (some 102) (Value.bool true) rfl rfl rfl (y_move rfl) ?_
            refine sgn (some 103) rfl rfl rfl ?_
            refine sgn (some 104) rfl rfl rfl ?_
            refine sgn (some 105) rfl rfl rfl ?_
            refine sgn (some 106) rfl rfl rfl ?_
            refine sgn (some 107) rfl rfl rfl ?_
            refine sgn (some 108) rfl rfl rfl ?_
            refine sgn (some 109) rfl rfl rfl ?_
            refine sgn (some 110) rfl rfl rfl ?_
            refine sgy (some 111) (Value.bool true) rfl rfl rfl (y_pickT rfl rfl rfl) ?_
            exact Exists.intro true (And.intro (And.intro rfl trivial) (And.intro (bx_drop nd 0) hm))
          · refine sgy (some 90) (Value.int .i64 (iSub .i64 r21 (iRem .i64 (iAdd .i64 (iAdd .i64 (iRem .i64 a2 (iAdd .i64 (s1.len : Int) 1)) (s1.len : Int)) 1) (iAdd .i64 (s1.len : Int) 1)))) rfl rfl (by exact wFF rfl rfl hc125) (y_move rfl) ?_
            refine sgy (some 91) (Value.bool (decide (9 < (iSub .i64 r21 (iRem .i64 (iAdd .i64 (iAdd .i64 (iRem .i64 a2 (iAdd .i64 (s1.len : Int) 1)) (s1.len : Int)) 1) (iAdd .i64 (s1.len : Int) 1)))))) rfl rfl (by exact wFF rfl rfl hc125) (y_bin rfl rfl rfl) ?_
            refine sgy (some 92) (Value.bool (decide (9 < (iSub .i64 r21 (iRem .i64 (iAdd .i64 (iAdd .i64 (iRem .i64 a2 (iAdd .i64 (s1.len : Int) 1)) (s1.len : Int)) 1) (iAdd .i64 (s1.len : Int) 1)))))) rfl rfl rfl (y_pickF rfl hc125 rfl) ?_
            refine sgy (some 93) (Value.bool (decide (9 < (iSub .i64 r21 (iRem .i64 (iAdd .i64 (iAdd .i64 (iRem .i64 a2 (iAdd .i64 (s1.len : Int) 1)) (s1.len : Int)) 1) (iAdd .i64 (s1.len : Int) 1)))))) rfl rfl rfl (y_move rfl) ?_
            refine mIf_elim hm (fun hc126 hm => ?_) (fun hc126 hm => ?_)
            · refine sgn (some 94) rfl rfl (by exact wFT rfl rfl hc126) ?_
              refine sgn (some 95) rfl rfl (by exact wFT rfl rfl hc126) ?_
              refine sgn (some 96) rfl rfl (by exact wFT rfl rfl hc126) ?_
              refine sgn (some 97) rfl rfl (by exact wFT rfl rfl hc126) ?_
              refine sgn (some 98) rfl rfl (by exact wFT rfl rfl hc126) ?_
              refine sgn (some 99) rfl rfl (by exact wFT rfl rfl hc126) ?_
              refine sgn (some 100) rfl rfl (by exact wFT rfl rfl hc126) ?_
              refine sgy (some 101) (Value.bool true) rfl rfl rfl (y_pickT rfl hc126 rfl) ?_
              refine sgy (some 102) (Value.bool true) rfl rfl rfl (y_move rfl) ?_
              refine sgn (some 103) rfl rfl rfl ?_
              refine sgn (some 104) rfl rfl rfl ?_
              refine sgn (some 105) rfl rfl rfl ?_
              refine sgn (some 106) rfl rfl rfl ?_
              refine sgn (some 107) rfl rfl rfl ?_
              refine sgn (some 108) rfl rfl rfl ?_
              refine sgn (some 109) rfl rfl rfl ?_
              refine sgn (some 110) rfl rfl rfl ?_
              refine sgy (some 111) (Value.bool true) rfl rfl rfl (y_pickT rfl rfl rfl) ?_
              exact Exists.intro true (And.intro (And.intro rfl trivial) (And.intro (bx_drop nd 0) hm))
            · refine sgy (some 94) (Sl.val s15) rfl rfl (by exact wFF rfl rfl hc126) (y_move rfl) ?_
              refine sgy (some 95) (Sl.val a3) rfl rfl (by exact wFF rfl rfl hc126) (y_move rfl) ?_
              refine sgy (some 96) (Value.int .i64 (a3.len : Int)) rfl rfl (by exact wFF rfl rfl hc126) (y_len (s := a3) rfl rfl Try.underlying22) ?_
              obtain ⟨a127, hq128, hm⟩ := hm
              refine sgy (some 97) (Value.pointer (some a127)) rfl rfl (by exact wFF rfl rfl hc126) (y_idx Try.underlying22 i25 rfl rfl hq128) ?_
              refine sg rfl (by exact wFF rfl rfl hc126) (v_loadA hm rfl Try.underlying25 rfl i25 S_api_Word.val (fun _ => ⟨rfl, rfl⟩) (fun x129 hm => ?_))
              refine sgy (some 99) (S_api_Word.val (⟨71, 0⟩ : S_api_Word)) rfl rfl (by exact wFF rfl rfl hc126) (y_build Try.underlying25 i25 rfl (sizes_cons i23 (sizes_cons i23 sizes_nil)) rfl (cs := #[(Value.int .u64 71), (Value.int .u64 0)]) rfl) ?_
              refine sgy (some 100) (Value.bool (!((decide (x129.Hi = 71)) && ((decide (x129.Lo = 0)) && true)))) rfl rfl (by exact wFF rfl rfl hc126) (y_neA (n := 2) Try.eqGuardType25 rfl rfl (eq_struct (n := 1) Try.underlying25 Try.stoodInHeld25 (efs_cons rfl (part_one Try.underlying23 rfl rfl) (part_one Try.underlying23 rfl rfl) (eq_int Try.underlying23) rfl (efs_cons rfl (part_one Try.underlying23 rfl rfl) (part_one Try.underlying23 rfl rfl) (eq_int Try.underlying23) rfl efs_nil))) rfl) ?_
              refine sgy (some 101) (Value.bool (!((decide (x129.Hi = 71)) && ((decide (x129.Lo = 0)) && true)))) rfl rfl rfl (y_pickF rfl hc126 rfl) ?_
              refine sgy (some 102) (Value.bool (!((decide (x129.Hi = 71)) && ((decide (x129.Lo = 0)) && true)))) rfl rfl rfl (y_move rfl) ?_
              refine mIf_elim hm (fun hc130 hm => ?_) (fun hc130 hm => ?_)
              · refine sgn (some 103) rfl rfl (by exact wFT rfl rfl hc130) ?_
                refine sgn (some 104) rfl rfl (by exact wFT rfl rfl hc130) ?_
                refine sgn (some 105) rfl rfl (by exact wFT rfl rfl hc130) ?_
                refine sgn (some 106) rfl rfl (by exact wFT rfl rfl hc130) ?_
                refine sgn (some 107) rfl rfl (by exact wFT rfl rfl hc130) ?_
                refine sgn (some 108) rfl rfl (by exact wFT rfl rfl hc130) ?_
                refine sgn (some 109) rfl rfl (by exact wFT rfl rfl hc130) ?_
                refine sgn (some 110) rfl rfl (by exact wFT rfl rfl hc130) ?_
                refine sgy (some 111) (Value.bool true) rfl rfl rfl (y_pickT rfl hc130 rfl) ?_
                exact Exists.intro true (And.intro (And.intro rfl trivial) (And.intro (bx_drop nd 0) hm))
              · refine sgy (some 103) (Sl.val s15) rfl rfl (by exact wFF rfl rfl hc130) (y_move rfl) ?_
                refine sgy (some 104) (Sl.val a3) rfl rfl (by exact wFF rfl rfl hc130) (y_move rfl) ?_
                refine sgy (some 105) (Value.int .i64 (a3.len : Int)) rfl rfl (by exact wFF rfl rfl hc130) (y_len (s := a3) rfl rfl Try.underlying22) ?_
                refine sgy (some 106) (Value.int .i64 (iAdd .i64 (a3.len : Int) 1)) rfl rfl (by exact wFF rfl rfl hc130) (y_bin rfl rfl rfl) ?_
                obtain ⟨a131, hq132, hm⟩ := hm
                refine sgy (some 107) (Value.pointer (some a131)) rfl rfl (by exact wFF rfl rfl hc130) (y_idx Try.underlying22 i25 rfl rfl hq132) ?_
                refine sg rfl (by exact wFF rfl rfl hc130) (v_loadA hm rfl Try.underlying25 rfl i25 S_api_Word.val (fun _ => ⟨rfl, rfl⟩) (fun x133 hm => ?_))
                refine sgy (some 109) (S_api_Word.val (⟨72, 0⟩ : S_api_Word)) rfl rfl (by exact wFF rfl rfl hc130) (y_build Try.underlying25 i25 rfl (sizes_cons i23 (sizes_cons i23 sizes_nil)) rfl (cs := #[(Value.int .u64 72), (Value.int .u64 0)]) rfl) ?_
                refine sgy (some 110) (Value.bool (!((decide (x133.Hi = 72)) && ((decide (x133.Lo = 0)) && true)))) rfl rfl (by exact wFF rfl rfl hc130) (y_neA (n := 2) Try.eqGuardType25 rfl rfl (eq_struct (n := 1) Try.underlying25 Try.stoodInHeld25 (efs_cons rfl (part_one Try.underlying23 rfl rfl) (part_one Try.underlying23 rfl rfl) (eq_int Try.underlying23) rfl (efs_cons rfl (part_one Try.underlying23 rfl rfl) (part_one Try.underlying23 rfl rfl) (eq_int Try.underlying23) rfl efs_nil))) rfl) ?_
                refine sgy (some 111) (Value.bool (!((decide (x133.Hi = 72)) && ((decide (x133.Lo = 0)) && true)))) rfl rfl rfl (y_pickF rfl hc130 rfl) ?_
                exact Exists.intro (!((decide (x133.Hi = 72)) && ((decide (x133.Lo = 0)) && true))) (And.intro (And.intro rfl trivial) (And.intro (bx_drop nd 0) hm))
        · refine cw_ifm hm rfl (fun hc25 hm => ?_) (fun hc25 hm => ?_)
          · refine cw_seq ?_
            refine cw_reg (l := [0]) rfl rfl ?_
            refine sgy (some 8) (Value.bool false) rfl rfl rfl (y_assign rfl) ?_
            refine drop.of ?_
            refine cw_ret ?_
            refine out_one [(Value.bool false)] (e_law13_IssueNew false) Try.results7 ?_ rfl ?_
            · exact (And.intro (rfl) trivial)
            · exact Exists.intro false (And.intro rfl hm)
          · refine cw_skip ?_
            refine drop.of ?_
            refine cw_seq ?_
            refine cw_reg (l := [0, 1, 2]) rfl rfl ?_
            refine sgy (some 112) (Value.pointer r3.1) rfl rfl rfl (y_move rfl) ?_
            refine sgy (some 113) (Value.int .i64 (iRem .i64 (iAdd .i64 (iAdd .i64 (iRem .i64 a2 (iAdd .i64 (s1.len : Int) 1)) (s1.len : Int)) 1) (iAdd .i64 (s1.len : Int) 1))) rfl rfl rfl (y_move rfl) ?_
            refine sg rfl rfl (v_call (c_draws_Draws_Skip hm) callee21 rfl (fun v h hm => ?_))
            obtain ⟨r26, rfl, hm⟩ := hm
            refine drop.of ?_
            refine cw_seq ?_
            refine cw_seq ?_
            refine cw_reg (l := [0]) rfl rfl ?_
            refine sgy (some 15) (Value.int .i64 0) rfl rfl rfl (y_assign rfl) ?_
            refine drop.of ?_
            refine cw_block ?_
            refine cw_loop [8, 15, 16, 17, 18, 115, 116, 117, 118, 119, 120, 121, 122, 123, 124, 125, 126, 127, 128, 129, 130, 131, 132, 133, 134, 135, 136, 137, 138, 139, 140, 141, 142, 143, 144, 145, 146, 147, 148, 149] (fun s28 => [(15, (Value.int .i64 s28))]) (fun s28 => [(b20, Obj.cells #[(Value.int .u64 r18.1.Hi), (Value.int .u64 r18.1.Lo)] 25 (0, 0)), (b14, Obj.cells #[(Value.int .u64 71), (Value.int .u64 0), (Value.int .u64 72), (Value.int .u64 0)] 25 (0, 0))]) hm rfl (fun _ => rfl) ⟨rfl, trivial⟩ rfl (fun _ => nd) (fun rec29 s28 h junk nd hm => ?_)
            refine cw_seq ?_
            refine cw_seq ?_
            refine cw_reg (l := [0, 1, 2]) rfl rfl ?_
            refine sgy (some 115) (Value.int .i64 s28) rfl rfl rfl (y_move rfl) ?_
            refine sgy (some 116) (Value.int .i64 (iSub .i64 r21 (iRem .i64 (iAdd .i64 (iAdd .i64 (iRem .i64 a2 (iAdd .i64 (s1.len : Int) 1)) (s1.len : Int)) 1) (iAdd .i64 (s1.len : Int) 1)))) rfl rfl rfl (y_move rfl) ?_
            refine sgy (some 117) (Value.bool (decide (s28 < (iSub .i64 r21 (iRem .i64 (iAdd .i64 (iAdd .i64 (iRem .i64 a2 (iAdd .i64 (s1.len : Int) 1)) (s1.len : Int)) 1) (iAdd .i64 (s1.len : Int) 1)))))) rfl rfl rfl (y_bin rfl rfl rfl) ?_
            refine drop.of ?_
            refine cw_ifm hm rfl (fun hc30 hm => ?_) (fun hc30 hm => ?_)
            · refine cw_skip ?_
              refine drop.of ?_
              refine cw_seq ?_
              refine cw_block ?_
              refine cw_seq ?_
              refine cw_reg (l := [0, 1, 2, 3, 4, 5, 6, 7]) rfl rfl ?_
              refine sgy (some 121) (Value.pointer r3.1) rfl rfl rfl (y_move rfl) ?_
              refine sg rfl rfl (v_call (c_draws_Draws_Draw hm) callee15 rfl (fun v h hm => ?_))
              obtain ⟨r31, rfl, hm⟩ := hm
              refine sgy (some 120) (Value.tuple #[(S_api_Word.val r31.1), (Value.int .i64 r31.2)]) rfl rfl rfl (y_move rfl) ?_
              refine sgy (some 123) (S_api_Word.val r31.1) rfl rfl rfl (y_extract rfl rfl) ?_
              refine sgy (some 124) (Value.int .i64 r31.2) rfl rfl rfl (y_extract rfl rfl) ?_
              refine sg rfl rfl (b_alloc nd i25 rfl (c := #[(Value.int .u64 0), (Value.int .u64 0)]) rfl (fun b33 nd => ?_))
              refine sg rfl rfl (b_store 0 nd rfl rfl rfl i25 rfl rfl rfl (c' := #[(Value.int .u64 r31.1.Hi), (Value.int .u64 r31.1.Lo)]) rfl (fun nd => ?_))
              refine sgy (some 17) (Value.int .i64 r31.2) rfl rfl rfl (y_assign rfl) ?_
              refine drop.of ?_
              refine cw_joinM hm [18, 125, 126, 127, 128, 129, 130, 131, 132] (fun s34 => [(18, (Value.bool s34))]) (fun s34 => [(b33, Obj.cells #[(Value.int .u64 r31.1.Hi), (Value.int .u64 r31.1.Lo)] 25 (0, 0)), (b20, Obj.cells #[(Value.int .u64 r18.1.Hi), (Value.int .u64 r18.1.Lo)] 25 (0, 0)), (b14, Obj.cells #[(Value.int .u64 71), (Value.int .u64 0), (Value.int .u64 72), (Value.int .u64 0)] 25 (0, 0))]) rfl (fun _ => nd) (fun hm => ?_) (fun s34 h junk nd hm => ?_)
              · refine cw_reg (l := [0, 1, 2, 3, 4, 5, 6, 7, 8]) rfl rfl ?_
                refine sgy (some 125) (Value.int .i64 r18.2) rfl rfl rfl (y_move rfl) ?_
                refine sgy (some 126) (Value.bool (decide (r18.2 = 0))) rfl rfl rfl (y_bin rfl rfl rfl) ?_
                refine sgy (some 127) (Value.bool (decide (r18.2 = 0))) rfl rfl rfl (y_move rfl) ?_
                refine mIf_elim hm (fun hc44 hm => ?_) (fun hc44 hm => ?_)
                · refine sgy (some 128) (Value.int .i64 s28) rfl rfl (by exact wTT rfl rfl hc44) (y_move rfl) ?_
                  refine sgy (some 129) (Value.int .i64 (iSub .i64 r21 (iRem .i64 (iAdd .i64 (iAdd .i64 (iRem .i64 a2 (iAdd .i64 (s1.len : Int) 1)) (s1.len : Int)) 1) (iAdd .i64 (s1.len : Int) 1)))) rfl rfl (by exact wTT rfl rfl hc44) (y_move rfl) ?_
                  refine sgy (some 130) (Value.int .i64 (iSub .i64 (iSub .i64 r21 (iRem .i64 (iAdd .i64 (iAdd .i64 (iRem .i64 a2 (iAdd .i64 (s1.len : Int) 1)) (s1.len : Int)) 1) (iAdd .i64 (s1.len : Int) 1))) 1)) rfl rfl (by exact wTT rfl rfl hc44) (y_bin rfl rfl rfl) ?_
                  refine sgy (some 131) (Value.bool (decide (s28 = (iSub .i64 (iSub .i64 r21 (iRem .i64 (iAdd .i64 (iAdd .i64 (iRem .i64 a2 (iAdd .i64 (s1.len : Int) 1)) (s1.len : Int)) 1) (iAdd .i64 (s1.len : Int) 1))) 1)))) rfl rfl (by exact wTT rfl rfl hc44) (y_bin rfl rfl rfl) ?_
                  refine sgy (some 132) (Value.bool (decide (s28 = (iSub .i64 (iSub .i64 r21 (iRem .i64 (iAdd .i64 (iAdd .i64 (iRem .i64 a2 (iAdd .i64 (s1.len : Int) 1)) (s1.len : Int)) 1) (iAdd .i64 (s1.len : Int) 1))) 1)))) rfl rfl rfl (y_pickT rfl hc44 rfl) ?_
                  refine sgy (some 18) (Value.bool (decide (s28 = (iSub .i64 (iSub .i64 r21 (iRem .i64 (iAdd .i64 (iAdd .i64 (iRem .i64 a2 (iAdd .i64 (s1.len : Int) 1)) (s1.len : Int)) 1) (iAdd .i64 (s1.len : Int) 1))) 1)))) rfl rfl rfl (y_assign rfl) ?_
                  exact Exists.intro (decide (s28 = (iSub .i64 (iSub .i64 r21 (iRem .i64 (iAdd .i64 (iAdd .i64 (iRem .i64 a2 (iAdd .i64 (s1.len : Int) 1)) (s1.len : Int)) 1) (iAdd .i64 (s1.len : Int) 1))) 1))) (And.intro (And.intro rfl trivial) (And.intro (bx_drop nd 0) hm))
                · refine sgn (some 128) rfl rfl (by exact wTF rfl rfl hc44) ?_
                  refine sgn (some 129) rfl rfl (by exact wTF rfl rfl hc44) ?_
                  refine sgn (some 130) rfl rfl (by exact wTF rfl rfl hc44) ?_
                  refine sgn (some 131) rfl rfl (by exact wTF rfl rfl hc44) ?_
                  refine sgy (some 132) (Value.bool false) rfl rfl rfl (y_pickF rfl hc44 rfl) ?_
                  refine sgy (some 18) (Value.bool false) rfl rfl rfl (y_assign rfl) ?_
                  exact Exists.intro false (And.intro (And.intro rfl trivial) (And.intro (bx_drop nd 0) hm))
              · refine cw_joinM hm [133, 134, 135, 136, 137, 138, 139, 140, 141, 142, 143, 144, 145, 146, 147, 148, 149] (fun s36 => [(149, (Value.bool s36))]) (fun s36 => [(b33, Obj.cells #[(Value.int .u64 r31.1.Hi), (Value.int .u64 r31.1.Lo)] 25 (0, 0)), (b20, Obj.cells #[(Value.int .u64 r18.1.Hi), (Value.int .u64 r18.1.Lo)] 25 (0, 0)), (b14, Obj.cells #[(Value.int .u64 71), (Value.int .u64 0), (Value.int .u64 72), (Value.int .u64 0)] 25 (0, 0))]) rfl (fun _ => nd) (fun hm => ?_) (fun s36 h junk nd hm => ?_)
                · refine cw_reg (l := [0, 1, 2, 3, 4, 5, 6, 7, 8, 9, 10, 11, 12, 13, 14, 15, 16]) rfl rfl ?_
                  refine sgy (some 133) (Value.int .i64 r31.2) rfl rfl rfl (y_move rfl) ?_
                  refine sgy (some 134) (Value.bool (!decide (r31.2 = 0))) rfl rfl rfl (y_bin rfl rfl rfl) ?_
                  refine sgy (some 135) (Value.bool (!decide (r31.2 = 0))) rfl rfl rfl (y_move rfl) ?_
                  refine mIf_elim hm (fun hc39 hm => ?_) (fun hc39 hm => ?_)
                  · refine sgn (some 136) rfl rfl (by exact wFT rfl rfl hc39) ?_
                    refine sgn (some 137) rfl rfl (by exact wFT rfl rfl hc39) ?_
                    refine sgn (some 138) rfl rfl (by exact wFT rfl rfl hc39) ?_
                    refine sgn (some 139) rfl rfl (by exact wFT rfl rfl hc39) ?_
                    refine sgn (some 140) rfl rfl (by exact wFT rfl rfl hc39) ?_
                    refine sgy (some 141) (Value.bool true) rfl rfl rfl (y_pickT rfl hc39 rfl) ?_
                    refine sgy (some 142) (Value.bool true) rfl rfl rfl (y_move rfl) ?_
                    refine sgn (some 143) rfl rfl rfl ?_
                    refine sgn (some 144) rfl rfl rfl ?_
                    refine sgn (some 145) rfl rfl rfl ?_
                    refine sgn (some 146) rfl rfl rfl ?_
                    refine sgn (some 147) rfl rfl rfl ?_
                    refine sgn (some 148) rfl rfl rfl ?_
                    refine sgy (some 149) (Value.bool true) rfl rfl rfl (y_pickT rfl rfl rfl) ?_
                    exact Exists.intro true (And.intro (And.intro rfl trivial) (And.intro (bx_drop nd 0) hm))
                  · refine sgr (some 136) (S_api_Word.val r31.1) rfl rfl (by exact wFF rfl rfl hc39) (r_loadA 0 nd rfl rfl Try.underlying25 rfl i25 rfl) ?_
                    refine sgy (some 137) (Sl.val a3) rfl rfl (by exact wFF rfl rfl hc39) (y_move rfl) ?_
                    refine sg rfl (by exact wFF rfl rfl hc39) (v_call (c_law13_among hm) callee27 rfl (fun v h hm => ?_))
                    obtain ⟨r40, rfl, hm⟩ := hm
                    refine sgy (some 139) (Value.bool s34) rfl rfl (by exact wFF rfl rfl hc39) (y_move rfl) ?_
                    refine sgy (some 140) (Value.bool (r40 == s34)) rfl rfl (by exact wFF rfl rfl hc39) (y_eqB Try.underlying4 rfl rfl) ?_
                    refine sgy (some 141) (Value.bool (r40 == s34)) rfl rfl rfl (y_pickF rfl hc39 rfl) ?_
                    refine sgy (some 142) (Value.bool (r40 == s34)) rfl rfl rfl (y_move rfl) ?_
                    refine mIf_elim hm (fun hc42 hm => ?_) (fun hc42 hm => ?_)
                    · refine sgn (some 143) rfl rfl (by exact wFT rfl rfl hc42) ?_
                      refine sgn (some 144) rfl rfl (by exact wFT rfl rfl hc42) ?_
                      refine sgn (some 145) rfl rfl rfl ?_
                      refine sgn (some 146) rfl rfl rfl ?_
                      refine sgn (some 147) rfl rfl rfl ?_
                      refine sgn (some 148) rfl rfl (by exact wFT rfl rfl hc42) ?_
                      refine sgy (some 149) (Value.bool true) rfl rfl rfl (y_pickT rfl hc42 rfl) ?_
                      exact Exists.intro true (And.intro (And.intro rfl trivial) (And.intro (bx_drop nd 0) hm))
                    · refine sgy (some 143) (Value.bool s34) rfl rfl (by exact wFF rfl rfl hc42) (y_move rfl) ?_
                      refine sgy (some 144) (Value.bool s34) rfl rfl (by exact wFF rfl rfl hc42) (y_move rfl) ?_
                      refine mIf_elim hm (fun hc43 hm => ?_) (fun hc43 hm => ?_)
                      · refine sgr (some 145) (S_api_Word.val r31.1) rfl rfl (by exact wTT rfl rfl hc43) (r_loadA 0 nd rfl rfl Try.underlying25 rfl i25 rfl) ?_
                        refine sgr (some 146) (S_api_Word.val r18.1) rfl rfl (by exact wTT rfl rfl hc43) (r_loadA 1 nd rfl rfl Try.underlying25 rfl i25 rfl) ?_
                        refine sgy (some 147) (Value.bool (!((decide (r31.1.Hi = r18.1.Hi)) && ((decide (r31.1.Lo = r18.1.Lo)) && true)))) rfl rfl (by exact wTT rfl rfl hc43) (y_neA (n := 2) Try.eqGuardType25 rfl rfl (eq_struct (n := 1) Try.underlying25 Try.stoodInHeld25 (efs_cons rfl (part_one Try.underlying23 rfl rfl) (part_one Try.underlying23 rfl rfl) (eq_int Try.underlying23) rfl (efs_cons rfl (part_one Try.underlying23 rfl rfl) (part_one Try.underlying23 rfl rfl) (eq_int Try.underlying23) rfl efs_nil))) rfl) ?_
                        refine sgy (some 148) (Value.bool (!((decide (r31.1.Hi = r18.1.Hi)) && ((decide (r31.1.Lo = r18.1.Lo)) && true)))) rfl rfl (by exact wFF rfl rfl hc42) (y_pickT rfl hc43 rfl) ?_
                        refine sgy (some 149) (Value.bool (!((decide (r31.1.Hi = r18.1.Hi)) && ((decide (r31.1.Lo = r18.1.Lo)) && true)))) rfl rfl rfl (y_pickF rfl hc42 rfl) ?_
                        exact Exists.intro (!((decide (r31.1.Hi = r18.1.Hi)) && ((decide (r31.1.Lo = r18.1.Lo)) && true))) (And.intro (And.intro rfl trivial) (And.intro (bx_drop nd 0) hm))
                      · refine sgn (some 145) rfl rfl (by exact wTF rfl rfl hc43) ?_
                        refine sgn (some 146) rfl rfl (by exact wTF rfl rfl hc43) ?_
                        refine sgn (some 147) rfl rfl (by exact wTF rfl rfl hc43) ?_
                        refine sgy (some 148) (Value.bool false) rfl rfl (by exact wFF rfl rfl hc42) (y_pickF rfl hc43 rfl) ?_
                        refine sgy (some 149) (Value.bool false) rfl rfl rfl (y_pickF rfl hc42 rfl) ?_
                        exact Exists.intro false (And.intro (And.intro rfl trivial) (And.intro (bx_drop nd 0) hm))
                · refine cw_ifm hm rfl (fun hc38 hm => ?_) (fun hc38 hm => ?_)
                  · refine cw_seq ?_
                    refine cw_reg (l := [0]) rfl rfl ?_
                    refine sgy (some 8) (Value.bool false) rfl rfl rfl (y_assign rfl) ?_
                    refine drop.of ?_
                    refine cw_ret ?_
                    refine out_one [(Value.bool false)] (e_law13_IssueNew false) Try.results7 ?_ rfl ?_
                    · exact (And.intro (rfl) trivial)
                    · exact Exists.intro false (And.intro rfl hm)
                  · refine cw_skip ?_
                    refine drop.of ?_
                    refine cw_reg (l := [0, 1, 2]) rfl rfl ?_
                    refine sgy (some 118) (Value.int .i64 s28) rfl rfl rfl (y_move rfl) ?_
                    refine sgy (some 119) (Value.int .i64 (iAdd .i64 s28 1)) rfl rfl rfl (y_bin rfl rfl rfl) ?_
                    refine sgy (some 15) (Value.int .i64 (iAdd .i64 s28 1)) rfl rfl rfl (y_assign rfl) ?_
                    exact Exists.intro (iAdd .i64 s28 1) (And.intro (And.intro rfl trivial) (And.intro (bx_drop nd 1) hm))
            · refine cw_exit ?_
              refine drop.of ?_
              refine cw_seq ?_
              refine cw_reg (l := [0, 1, 2]) rfl rfl ?_
              refine sgy (some 150) (Value.pointer r3.1) rfl rfl rfl (y_move rfl) ?_
              refine sg rfl rfl (v_call (c_draws_Draws_Left hm) callee17 rfl (fun v h hm => ?_))
              obtain ⟨r45, rfl, hm⟩ := hm
              refine sgy (some 19) (Value.int .i64 r45) rfl rfl rfl (y_assign rfl) ?_
              refine drop.of ?_
              refine cw_seq ?_
              refine cw_joinM hm [152, 153, 154, 155, 156, 157, 158, 159, 160, 161, 162, 163, 164, 165, 166, 167, 168, 169, 170, 171, 172, 173, 174, 175, 176, 177, 178, 179, 180, 181, 182, 183, 184, 185, 186, 187, 188, 189, 190, 191, 192, 193, 194] (fun s47 => [(194, (Value.bool s47))]) (fun s47 => [(b20, Obj.cells #[(Value.int .u64 r18.1.Hi), (Value.int .u64 r18.1.Lo)] 25 (0, 0)), (b14, Obj.cells #[(Value.int .u64 71), (Value.int .u64 0), (Value.int .u64 72), (Value.int .u64 0)] 25 (0, 0))]) rfl (fun _ => nd) (fun hm => ?_) (fun s47 h junk nd hm => ?_)
              · refine cw_reg (l := [0, 1, 2, 3, 4, 5, 6, 7, 8, 9, 10, 11, 12, 13, 14, 15, 16, 17, 18, 19, 20, 21, 22, 23, 24, 25, 26, 27, 28, 29, 30, 31, 32, 33, 34, 35, 36, 37, 38, 39, 40, 41, 42]) rfl rfl ?_
                refine sgy (some 152) (Value.int .i64 r18.2) rfl rfl rfl (y_move rfl) ?_
                refine sgy (some 153) (Value.bool (decide (r18.2 = 0))) rfl rfl rfl (y_bin rfl rfl rfl) ?_
                refine sgy (some 154) (Value.bool (decide (r18.2 = 0))) rfl rfl rfl (y_move rfl) ?_
                refine mIf_elim hm (fun hc85 hm => ?_) (fun hc85 hm => ?_)
                · refine sgy (some 155) (Value.int .i64 (iSub .i64 r21 (iRem .i64 (iAdd .i64 (iAdd .i64 (iRem .i64 a2 (iAdd .i64 (s1.len : Int) 1)) (s1.len : Int)) 1) (iAdd .i64 (s1.len : Int) 1)))) rfl rfl (by exact wTT rfl rfl hc85) (y_move rfl) ?_
                  refine sgy (some 156) (Value.bool (decide ((iSub .i64 r21 (iRem .i64 (iAdd .i64 (iAdd .i64 (iRem .i64 a2 (iAdd .i64 (s1.len : Int) 1)) (s1.len : Int)) 1) (iAdd .i64 (s1.len : Int) 1))) = 0))) rfl rfl (by exact wTT rfl rfl hc85) (y_bin rfl rfl rfl) ?_
                  refine sgy (some 157) (Value.bool (decide ((iSub .i64 r21 (iRem .i64 (iAdd .i64 (iAdd .i64 (iRem .i64 a2 (iAdd .i64 (s1.len : Int) 1)) (s1.len : Int)) 1) (iAdd .i64 (s1.len : Int) 1))) = 0))) rfl rfl rfl (y_pickT rfl hc85 rfl) ?_
                  refine sgy (some 158) (Value.bool (decide ((iSub .i64 r21 (iRem .i64 (iAdd .i64 (iAdd .i64 (iRem .i64 a2 (iAdd .i64 (s1.len : Int) 1)) (s1.len : Int)) 1) (iAdd .i64 (s1.len : Int) 1))) = 0))) rfl rfl rfl (y_move rfl) ?_
                  refine mIf_elim hm (fun hc86 hm => ?_) (fun hc86 hm => ?_)
                  · refine sgn (some 159) rfl rfl (by exact wFT rfl rfl hc86) ?_
                    refine sgn (some 160) rfl rfl (by exact wFT rfl rfl hc86) ?_
                    refine sgn (some 161) rfl rfl (by exact wFT rfl rfl hc86) ?_
                    refine sgn (some 162) rfl rfl rfl ?_
                    refine sgn (some 163) rfl rfl rfl ?_
                    refine sgn (some 164) rfl rfl rfl ?_
                    refine sgn (some 165) rfl rfl rfl ?_
                    refine sgn (some 166) rfl rfl rfl ?_
                    refine sgn (some 167) rfl rfl rfl ?_
                    refine sgn (some 168) rfl rfl (by exact wFT rfl rfl hc86) ?_
                    refine sgy (some 169) (Value.bool true) rfl rfl rfl (y_pickT rfl hc86 rfl) ?_
                    refine sgy (some 170) (Value.bool true) rfl rfl rfl (y_move rfl) ?_
                    refine sgn (some 171) rfl rfl rfl ?_
                    refine sgn (some 172) rfl rfl rfl ?_
                    refine sgn (some 173) rfl rfl rfl ?_
                    refine sgn (some 174) rfl rfl rfl ?_
                    refine sgn (some 175) rfl rfl rfl ?_
                    refine sgn (some 176) rfl rfl rfl ?_
                    refine sgy (some 177) (Value.bool true) rfl rfl rfl (y_pickT rfl rfl rfl) ?_
                    refine sgy (some 178) (Value.bool true) rfl rfl rfl (y_move rfl) ?_
                    refine sgn (some 179) rfl rfl rfl ?_
                    refine sgn (some 180) rfl rfl rfl ?_
                    refine sgn (some 181) rfl rfl rfl ?_
                    refine sgn (some 182) rfl rfl rfl ?_
                    refine sgn (some 183) rfl rfl rfl ?_
                    refine sgn (some 184) rfl rfl rfl ?_
                    refine sgn (some 185) rfl rfl rfl ?_
                    refine sgn (some 186) rfl rfl rfl ?_
                    refine sgn (some 187) rfl rfl rfl ?_
                    refine sgn (some 188) rfl rfl rfl ?_
                    refine sgn (some 189) rfl rfl rfl ?_
                    refine sgn (some 190) rfl rfl rfl ?_
                    refine sgn (some 191) rfl rfl rfl ?_
                    refine sgn (some 192) rfl rfl rfl ?_
                    refine sgn (some 193) rfl rfl rfl ?_
                    refine sgy (some 194) (Value.bool true) rfl rfl rfl (y_pickT rfl rfl rfl) ?_
                    exact Exists.intro true (And.intro (And.intro rfl trivial) (And.intro (bx_drop nd 0) hm))
                  · refine sgy (some 159) (Value.int .i64 r18.2) rfl rfl (by exact wFF rfl rfl hc86) (y_move rfl) ?_
                    refine sgy (some 160) (Value.bool (decide (r18.2 = 11))) rfl rfl (by exact wFF rfl rfl hc86) (y_bin rfl rfl rfl) ?_
                    refine sgy (some 161) (Value.bool (decide (r18.2 = 11))) rfl rfl (by exact wFF rfl rfl hc86) (y_move rfl) ?_
                    refine mIf_elim hm (fun hc87 hm => ?_) (fun hc87 hm => ?_)
                    · refine sgy (some 162) (Value.int .i64 r45) rfl rfl (by exact wTT rfl rfl hc87) (y_move rfl) ?_
                      refine sgy (some 163) (Value.bool (!decide (r45 = 0))) rfl rfl (by exact wTT rfl rfl hc87) (y_bin rfl rfl rfl) ?_
                      refine sgy (some 164) (Value.bool (!decide (r45 = 0))) rfl rfl (by exact wTT rfl rfl hc87) (y_move rfl) ?_
                      refine mIf_elim hm (fun hc88 hm => ?_) (fun hc88 hm => ?_)
                      · refine sgn (some 165) rfl rfl (by exact wFT rfl rfl hc88) ?_
                        refine sgn (some 166) rfl rfl (by exact wFT rfl rfl hc88) ?_
                        refine sgy (some 167) (Value.bool true) rfl rfl (by exact wTT rfl rfl hc87) (y_pickT rfl hc88 rfl) ?_
                        refine sgy (some 168) (Value.bool true) rfl rfl (by exact wFF rfl rfl hc86) (y_pickT rfl hc87 rfl) ?_
                        refine sgy (some 169) (Value.bool true) rfl rfl rfl (y_pickF rfl hc86 rfl) ?_
                        refine sgy (some 170) (Value.bool true) rfl rfl rfl (y_move rfl) ?_
                        refine sgn (some 171) rfl rfl rfl ?_
                        refine sgn (some 172) rfl rfl rfl ?_
                        refine sgn (some 173) rfl rfl rfl ?_
                        refine sgn (some 174) rfl rfl rfl ?_
                        refine sgn (some 175) rfl rfl rfl ?_
                        refine sgn (some 176) rfl rfl rfl ?_
                        refine sgy (some 177) (Value.bool true) rfl rfl rfl (y_pickT rfl rfl rfl) ?_
                        refine sgy (some 178) (Value.bool true) rfl rfl rfl (y_move rfl) ?_
                        refine sgn (some 179) rfl rfl rfl ?_
                        refine sgn (some 180) rfl rfl rfl ?_
                        refine sgn (some 181) rfl rfl rfl ?_
                        refine sgn (some 182) rfl rfl rfl ?_
                        refine sgn (some 183) rfl rfl rfl ?_
                        refine sgn (some 184) rfl rfl rfl ?_
                        refine sgn (some 185) rfl rfl rfl ?_
                        refine sgn (some 186) rfl rfl rfl ?_
                        refine sgn (some 187) rfl rfl rfl ?_
                        refine sgn (some 188) rfl rfl rfl ?_
                        refine sgn (some 189) rfl rfl rfl ?_
                        refine sgn (some 190) rfl rfl rfl ?_
                        refine sgn (some 191) rfl rfl rfl ?_
                        refine sgn (some 192) rfl rfl rfl ?_
                        refine sgn (some 193) rfl rfl rfl ?_
                        refine sgy (some 194) (Value.bool true) rfl rfl rfl (y_pickT rfl rfl rfl) ?_
                        exact Exists.intro true (And.intro (And.intro rfl trivial) (And.intro (bx_drop nd 0) hm))
                      · refine sgy (some 165) (Value.int .i64 (iSub .i64 r21 (iRem .i64 (iAdd .i64 (iAdd .i64 (iRem .i64 a2 (iAdd .i64 (s1.len : Int) 1)) (s1.len : Int)) 1) (iAdd .i64 (s1.len : Int) 1)))) rfl rfl (by exact wFF rfl rfl hc88) (y_move rfl) ?_
                        refine sgy (some 166) (Value.bool (decide ((iSub .i64 r21 (iRem .i64 (iAdd .i64 (iAdd .i64 (iRem .i64 a2 (iAdd .i64 (s1.len : Int) 1)) (s1.len : Int)) 1) (iAdd .i64 (s1.len : Int) 1))) = 9))) rfl rfl (by exact wFF rfl rfl hc88) (y_bin rfl rfl rfl) ?_
                        refine sgy (some 167) (Value.bool (decide ((iSub .i64 r21 (iRem .i64 (iAdd .i64 (iAdd .i64 (iRem .i64 a2 (iAdd .i64 (s1.len : Int) 1)) (s1.len : Int)) 1) (iAdd .i64 (s1.len : Int) 1))) = 9))) rfl rfl (by exact wTT rfl rfl hc87) (y_pickF rfl hc88 rfl) ?_
                        refine sgy (some 168) (Value.bool (decide ((iSub .i64 r21 (iRem .i64 (iAdd .i64 (iAdd .i64 (iRem .i64 a2 (iAdd .i64 (s1.len : Int) 1)) (s1.len : Int)) 1) (iAdd .i64 (s1.len : Int) 1))) = 9))) rfl rfl (by exact wFF rfl rfl hc86) (y_pickT rfl hc87 rfl) ?_
                        refine sgy (some 169) (Value.bool (decide ((iSub .i64 r21 (iRem .i64 (iAdd .i64 (iAdd .i64 (iRem .i64 a2 (iAdd .i64 (s1.len : Int) 1)) (s1.len : Int)) 1) (iAdd .i64 (s1.len : Int) 1))) = 9))) rfl rfl rfl (y_pickF rfl hc86 rfl) ?_
                        refine sgy (some 170) (Value.bool (decide ((iSub .i64 r21 (iRem .i64 (iAdd .i64 (iAdd .i64 (iRem .i64 a2 (iAdd .i64 (s1.len : Int) 1)) (s1.len : Int)) 1) (iAdd .i64 (s1.len : Int) 1))) = 9))) rfl rfl rfl (y_move rfl) ?_
                        refine mIf_elim hm (fun hc89 hm => ?_) (fun hc89 hm => ?_)
                        · refine sgn (some 171) rfl rfl (by exact wFT rfl rfl hc89) ?_
                          refine sgn (some 172) rfl rfl (by exact wFT rfl rfl hc89) ?_
                          refine sgn (some 173) rfl rfl (by exact wFT rfl rfl hc89) ?_
                          refine sgn (some 174) rfl rfl rfl ?_
                          refine sgn (some 175) rfl rfl rfl ?_
                          refine sgn (some 176) rfl rfl (by exact wFT rfl rfl hc89) ?_
                          refine sgy (some 177) (Value.bool true) rfl rfl rfl (y_pickT rfl hc89 rfl) ?_
                          refine sgy (some 178) (Value.bool true) rfl rfl rfl (y_move rfl) ?_
                          refine sgn (some 179) rfl rfl rfl ?_
                          refine sgn (some 180) rfl rfl rfl ?_
                          refine sgn (some 181) rfl rfl rfl ?_
                          refine sgn (some 182) rfl rfl rfl ?_
                          refine sgn (some 183) rfl rfl rfl ?_
                          refine sgn (some 184) rfl rfl rfl ?_
                          refine sgn (some 185) rfl rfl rfl ?_
                          refine sgn (some 186) rfl rfl rfl ?_
                          refine sgn (some 187) rfl rfl rfl ?_
                          refine sgn (some 188) rfl rfl rfl ?_
                          refine sgn (some 189) rfl rfl rfl ?_
                          refine sgn (some 190) rfl rfl rfl ?_
                          refine sgn (some 191) rfl rfl rfl ?_
                          refine sgn (some 192) rfl rfl rfl ?_
                          refine sgn (some 193) rfl rfl rfl ?_
                          refine sgy (some 194) (Value.bool true) rfl rfl rfl (y_pickT rfl rfl rfl) ?_
                          exact Exists.intro true (And.intro (And.intro rfl trivial) (And.intro (bx_drop nd 0) hm))
                        · refine sgy (some 171) (Value.int .i64 r18.2) rfl rfl (by exact wFF rfl rfl hc89) (y_move rfl) ?_
                          refine sgy (some 172) (Value.bool (decide (r18.2 = 12))) rfl rfl (by exact wFF rfl rfl hc89) (y_bin rfl rfl rfl) ?_
                          refine sgy (some 173) (Value.bool (decide (r18.2 = 12))) rfl rfl (by exact wFF rfl rfl hc89) (y_move rfl) ?_
                          refine mIf_elim hm (fun hc90 hm => ?_) (fun hc90 hm => ?_)
                          · refine sgy (some 174) (Value.int .i64 (iSub .i64 r21 (iRem .i64 (iAdd .i64 (iAdd .i64 (iRem .i64 a2 (iAdd .i64 (s1.len : Int) 1)) (s1.len : Int)) 1) (iAdd .i64 (s1.len : Int) 1)))) rfl rfl (by exact wTT rfl rfl hc90) (y_move rfl) ?_
                            refine sgy (some 175) (Value.bool (!decide ((iSub .i64 r21 (iRem .i64 (iAdd .i64 (iAdd .i64 (iRem .i64 a2 (iAdd .i64 (s1.len : Int) 1)) (s1.len : Int)) 1) (iAdd .i64 (s1.len : Int) 1))) = 9))) rfl rfl (by exact wTT rfl rfl hc90) (y_bin rfl rfl rfl) ?_
                            refine sgy (some 176) (Value.bool (!decide ((iSub .i64 r21 (iRem .i64 (iAdd .i64 (iAdd .i64 (iRem .i64 a2 (iAdd .i64 (s1.len : Int) 1)) (s1.len : Int)) 1) (iAdd .i64 (s1.len : Int) 1))) = 9))) rfl rfl (by exact wFF rfl rfl hc89) (y_pickT rfl hc90 rfl) ?_
                            refine sgy (some 177) (Value.bool (!decide ((iSub .i64 r21 (iRem .i64 (iAdd .i64 (iAdd .i64 (iRem .i64 a2 (iAdd .i64 (s1.len : Int) 1)) (s1.len : Int)) 1) (iAdd .i64 (s1.len : Int) 1))) = 9))) rfl rfl rfl (y_pickF rfl hc89 rfl) ?_
                            refine sgy (some 178) (Value.bool (!decide ((iSub .i64 r21 (iRem .i64 (iAdd .i64 (iAdd .i64 (iRem .i64 a2 (iAdd .i64 (s1.len : Int) 1)) (s1.len : Int)) 1) (iAdd .i64 (s1.len : Int) 1))) = 9))) rfl rfl rfl (y_move rfl) ?_
                            refine mIf_elim hm (fun hc91 hm => ?_) (fun hc91 hm => ?_)
                            · refine sgn (some 179) rfl rfl (by exact wFT rfl rfl hc91) ?_
                              refine sgn (some 180) rfl rfl (by exact wFT rfl rfl hc91) ?_
                              refine sgn (some 181) rfl rfl (by exact wFT rfl rfl hc91) ?_
                              refine sgn (some 182) rfl rfl rfl ?_
                              refine sgn (some 183) rfl rfl rfl ?_
                              refine sgn (some 184) rfl rfl rfl ?_
                              refine sgn (some 185) rfl rfl rfl ?_
                              refine sgn (some 186) rfl rfl rfl ?_
                              refine sgn (some 187) rfl rfl rfl ?_
                              refine sgn (some 188) rfl rfl rfl ?_
                              refine sgn (some 189) rfl rfl rfl ?_
                              refine sgn (some 190) rfl rfl rfl ?_
                              refine sgn (some 191) rfl rfl rfl ?_
                              refine sgn (some 192) rfl rfl rfl ?_
                              refine sgn (some 193) rfl rfl (by exact wFT rfl rfl hc91) ?_
                              refine sgy (some 194) (Value.bool true) rfl rfl rfl (y_pickT rfl hc91 rfl) ?_
                              exact Exists.intro true (And.intro (And.intro rfl trivial) (And.intro (bx_drop nd 0) hm))
                            · refine sgy (some 179) (Value.int .i64 r18.2) rfl rfl (by exact wFF rfl rfl hc91) (y_move rfl) ?_
                              refine sgy (some 180) (Value.bool (!decide (r18.2 = 0))) rfl rfl (by exact wFF rfl rfl hc91) (y_bin rfl rfl rfl) ?_
                              refine sgy (some 181) (Value.bool (!decide (r18.2 = 0))) rfl rfl (by exact wFF rfl rfl hc91) (y_move rfl) ?_
                              refine mIf_elim hm (fun hc92 hm => ?_) (fun hc92 hm => ?_)
                              · refine sgy (some 182) (Value.int .i64 r18.2) rfl rfl (by exact wTT rfl rfl hc92) (y_move rfl) ?_
                                refine sgy (some 183) (Value.bool (!decide (r18.2 = 11))) rfl rfl (by exact wTT rfl rfl hc92) (y_bin rfl rfl rfl) ?_
                                refine sgy (some 184) (Value.bool (!decide (r18.2 = 11))) rfl rfl (by exact wTT rfl rfl hc92) (y_move rfl) ?_
                                refine mIf_elim hm (fun hc93 hm => ?_) (fun hc93 hm => ?_)
                                · refine sgy (some 185) (Value.int .i64 r18.2) rfl rfl (by exact wTT rfl rfl hc93) (y_move rfl) ?_
                                  refine sgy (some 186) (Value.bool (!decide (r18.2 = 12))) rfl rfl (by exact wTT rfl rfl hc93) (y_bin rfl rfl rfl) ?_
                                  refine sgy (some 187) (Value.bool (!decide (r18.2 = 12))) rfl rfl (by exact wTT rfl rfl hc92) (y_pickT rfl hc93 rfl) ?_
                                  refine sgy (some 188) (Value.bool (!decide (r18.2 = 12))) rfl rfl (by exact wTT rfl rfl hc92) (y_move rfl) ?_
                                  refine mIf_elim hm (fun hc94 hm => ?_) (fun hc94 hm => ?_)
                                  · refine sgn (some 189) rfl rfl (by exact wFT rfl rfl hc94) ?_
                                    refine sgn (some 190) rfl rfl (by exact wFT rfl rfl hc94) ?_
                                    refine sgn (some 191) rfl rfl (by exact wFT rfl rfl hc94) ?_
                                    refine sgy (some 192) (Value.bool true) rfl rfl (by exact wTT rfl rfl hc92) (y_pickT rfl hc94 rfl) ?_
                                    refine sgy (some 193) (Value.bool true) rfl rfl (by exact wFF rfl rfl hc91) (y_pickT rfl hc92 rfl) ?_
                                    refine sgy (some 194) (Value.bool true) rfl rfl rfl (y_pickF rfl hc91 rfl) ?_
                                    exact Exists.intro true (And.intro (And.intro rfl trivial) (And.intro (bx_drop nd 0) hm))
                                  · refine sgr (some 189) (S_api_Word.val r18.1) rfl rfl (by exact wFF rfl rfl hc94) (r_loadA 0 nd rfl rfl Try.underlying25 rfl i25 rfl) ?_
                                    refine sgy (some 190) (S_api_Word.val (⟨0, 0⟩ : S_api_Word)) rfl rfl (by exact wFF rfl rfl hc94) (y_build Try.underlying25 i25 rfl (sizes_cons i23 (sizes_cons i23 sizes_nil)) rfl (cs := #[(Value.int .u64 0), (Value.int .u64 0)]) rfl) ?_
                                    refine sgy (some 191) (Value.bool (!((decide (r18.1.Hi = 0)) && ((decide (r18.1.Lo = 0)) && true)))) rfl rfl (by exact wFF rfl rfl hc94) (y_neA (n := 2) Try.eqGuardType25 rfl rfl (eq_struct (n := 1) Try.underlying25 Try.stoodInHeld25 (efs_cons rfl (part_one Try.underlying23 rfl rfl) (part_one Try.underlying23 rfl rfl) (eq_int Try.underlying23) rfl (efs_cons rfl (part_one Try.underlying23 rfl rfl) (part_one Try.underlying23 rfl rfl) (eq_int Try.underlying23) rfl efs_nil))) rfl) ?_
                                    refine sgy (some 192) (Value.bool (!((decide (r18.1.Hi = 0)) && ((decide (r18.1.Lo = 0)) && true)))) rfl rfl (by exact wTT rfl rfl hc92) (y_pickF rfl hc94 rfl) ?_
                                    refine sgy (some 193) (Value.bool (!((decide (r18.1.Hi = 0)) && ((decide (r18.1.Lo = 0)) && true)))) rfl rfl (by exact wFF rfl rfl hc91) (y_pickT rfl hc92 rfl) ?_
                                    refine sgy (some 194) (Value.bool (!((decide (r18.1.Hi = 0)) && ((decide (r18.1.Lo = 0)) && true)))) rfl rfl rfl (y_pickF rfl hc91 rfl) ?_
                                    exact Exists.intro (!((decide (r18.1.Hi = 0)) && ((decide (r18.1.Lo = 0)) && true))) (And.intro (And.intro rfl trivial) (And.intro (bx_drop nd 0) hm))
                                · refine sgn (some 185) rfl rfl (by exact wTF rfl rfl hc93) ?_
                                  refine sgn (some 186) rfl rfl (by exact wTF rfl rfl hc93) ?_
                                  refine sgy (some 187) (Value.bool false) rfl rfl (by exact wTT rfl rfl hc92) (y_pickF rfl hc93 rfl) ?_
                                  refine sgy (some 188) (Value.bool false) rfl rfl (by exact wTT rfl rfl hc92) (y_move rfl) ?_
                                  refine sgr (some 189) (S_api_Word.val r18.1) rfl rfl rfl (r_loadA 0 nd rfl rfl Try.underlying25 rfl i25 rfl) ?_
                                  refine sgy (some 190) (S_api_Word.val (⟨0, 0⟩ : S_api_Word)) rfl rfl rfl (y_build Try.underlying25 i25 rfl (sizes_cons i23 (sizes_cons i23 sizes_nil)) rfl (cs := #[(Value.int .u64 0), (Value.int .u64 0)]) rfl) ?_
                                  refine sgy (some 191) (Value.bool (!((decide (r18.1.Hi = 0)) && ((decide (r18.1.Lo = 0)) && true)))) rfl rfl rfl (y_neA (n := 2) Try.eqGuardType25 rfl rfl (eq_struct (n := 1) Try.underlying25 Try.stoodInHeld25 (efs_cons rfl (part_one Try.underlying23 rfl rfl) (part_one Try.underlying23 rfl rfl) (eq_int Try.underlying23) rfl (efs_cons rfl (part_one Try.underlying23 rfl rfl) (part_one Try.underlying23 rfl rfl) (eq_int Try.underlying23) rfl efs_nil))) rfl) ?_
                                  refine sgy (some 192) (Value.bool (!((decide (r18.1.Hi = 0)) && ((decide (r18.1.Lo = 0)) && true)))) rfl rfl (by exact wTT rfl rfl hc92) (y_pickF rfl rfl rfl) ?_
                                  refine sgy (some 193) (Value.bool (!((decide (r18.1.Hi = 0)) && ((decide (r18.1.Lo = 0)) && true)))) rfl rfl (by exact wFF rfl rfl hc91) (y_pickT rfl hc92 rfl) ?_
                                  refine sgy (some 194) (Value.bool (!((decide (r18.1.Hi = 0)) && ((decide (r18.1.Lo = 0)) && true)))) rfl rfl rfl (y_pickF rfl hc91 rfl) ?_
                                  exact Exists.intro (!((decide (r18.1.Hi = 0)) && ((decide (r18.1.Lo = 0)) && true))) (And.intro (And.intro rfl trivial) (And.intro (bx_drop nd 0) hm))
                              · refine sgn (some 182) rfl rfl (by exact wTF rfl rfl hc92) ?_
                                refine sgn (some 183) rfl rfl (by exact wTF rfl rfl hc92) ?_
                                refine sgn (some 184) rfl rfl (by exact wTF rfl rfl hc92) ?_
                                refine sgn (some 185) rfl rfl rfl ?_
                                refine sgn (some 186) rfl rfl rfl ?_
                                refine sgn (some 187) rfl rfl (by exact wTF rfl rfl hc92) ?_
                                refine sgn (some 188) rfl rfl (by exact wTF rfl rfl hc92) ?_
                                refine sgn (some 189) rfl rfl rfl ?_
                                refine sgn (some 190) rfl rfl rfl ?_
                                refine sgn (some 191) rfl rfl rfl ?_
                                refine sgn (some 192) rfl rfl (by exact wTF rfl rfl hc92) ?_
                                refine sgy (some 193) (Value.bool false) rfl rfl (by exact wFF rfl rfl hc91) (y_pickF rfl hc92 rfl) ?_
                                refine sgy (some 194) (Value.bool false) rfl rfl rfl (y_pickF rfl hc91 rfl) ?_
                                exact Exists.intro false (And.intro (And.intro rfl trivial) (And.intro (bx_drop nd 0) hm))
                          · refine sgn (some 174) rfl rfl (by exact wTF rfl rfl hc90) ?_
                            refine sgn (some 175) rfl rfl (by exact wTF rfl rfl hc90) ?_
                            refine sgy (some 176) (Value.bool false) rfl rfl (by exact wFF rfl rfl hc89) (y_pickF rfl hc90 rfl) ?_
                            refine sgy (some 177) (Value.bool false) rfl rfl rfl (y_pickF rfl hc89 rfl) ?_
                            refine sgy (some 178) (Value.bool false) rfl rfl rfl (y_move rfl) ?_
                            refine sgy (some 179) (Value.int .i64 r18.2) rfl rfl rfl (y_move rfl) ?_
                            refine sgy (some 180) (Value.bool (!decide (r18.2 = 0))) rfl rfl rfl (y_bin rfl rfl rfl) ?_
                            refine sgy (some 181) (Value.bool (!decide (r18.2 = 0))) rfl rfl rfl (y_move rfl) ?_
                            refine mIf_elim hm (fun hc95 hm => ?_) (fun hc95 hm => ?_)
                            · refine sgy (some 182) (Value.int .i64 r18.2) rfl rfl (by exact wTT rfl rfl hc95) (y_move rfl) ?_
                              refine sgy (some 183) (Value.bool (!decide (r18.2 = 11))) rfl rfl (by exact wTT rfl rfl hc95) (y_bin rfl rfl rfl) ?_
                              refine sgy (some 184) (Value.bool (!decide (r18.2 = 11))) rfl rfl (by exact wTT rfl rfl hc95) (y_move rfl) ?_
                              refine mIf_elim hm (fun hc96 hm => ?_) (fun hc96 hm => ?_)
                              · refine sgy (some 185) (Value.int .i64 r18.2) rfl rfl (by exact wTT rfl rfl hc96) (y_move rfl) ?_
                                refine sgy (some 186) (Value.bool (!decide (r18.2 = 12))) rfl rfl (by exact wTT rfl rfl hc96) (y_bin rfl rfl rfl) ?_
                                refine sgy (some 187) (Value.bool (!decide (r18.2 = 12))) rfl rfl (by exact wTT rfl rfl hc95) (y_pickT rfl hc96 rfl) ?_
                                refine sgy (some 188) (Value.bool (!decide (r18.2 = 12))) rfl rfl (by exact wTT rfl rfl hc95) (y_move rfl) ?_
                                refine mIf_elim hm (fun hc97 hm => ?_) (fun hc97 hm => ?_)
                                · refine sgn (some 189) rfl rfl (by exact wFT rfl rfl hc97) ?_
                                  refine sgn (some 190) rfl rfl (by exact wFT rfl rfl hc97) ?_
                                  refine sgn (some 191) rfl rfl (by exact wFT rfl rfl hc97) ?_
                                  refine sgy (some 192) (Value.bool true) rfl rfl (by exact wTT rfl rfl hc95) (y_pickT rfl hc97 rfl) ?_
                                  refine sgy (some 193) (Value.bool true) rfl rfl rfl (y_pickT rfl hc95 rfl) ?_
                                  refine sgy (some 194) (Value.bool true) rfl rfl rfl (y_pickF rfl rfl rfl) ?_
                                  exact Exists.intro true (And.intro (And.intro rfl trivial) (And.intro (bx_drop nd 0) hm))
                                · refine sgr (some 189) (S_api_Word.val r18.1) rfl rfl (by exact wFF rfl rfl hc97) (r_loadA 0 nd rfl rfl Try.underlying25 rfl i25 rfl) ?_
                                  refine sgy (some 190) (S_api_Word.val (⟨0, 0⟩ : S_api_Word)) rfl rfl (by exact wFF rfl rfl hc97) (y_build Try.underlying25 i25 rfl (sizes_cons i23 (sizes_cons i23 sizes_nil)) rfl (cs := #[(Value.int .u64 0), (Value.int .u64 0)]) rfl) ?_
                                  refine sgy (some 191) (Value.bool (!((decide (r18.1.Hi = 0)) && ((decide (r18.1.Lo = 0)) && true)))) rfl rfl (by exact wFF rfl rfl hc97) (y_neA (n := 2) Try.eqGuardType25 rfl rfl (eq_struct (n := 1) Try.underlying25 Try.stoodInHeld25 (efs_cons rfl (part_one Try.underlying23 rfl rfl) (part_one Try.underlying23 rfl rfl) (eq_int Try.underlying23) rfl (efs_cons rfl (part_one Try.underlying23 rfl rfl) (part_one Try.underlying23 rfl rfl) (eq_int Try.underlying23) rfl efs_nil))) rfl) ?_
                                  refine sgy (some 192) (Value.bool (!((decide (r18.1.Hi = 0)) && ((decide (r18.1.Lo = 0)) && true)))) rfl rfl (by exact wTT rfl rfl hc95) (y_pickF rfl hc97 rfl) ?_
                                  refine sgy (some 193) (Value.bool (!((decide (r18.1.Hi = 0)) && ((decide (r18.1.Lo = 0)) && true)))) rfl rfl rfl (y_pickT rfl hc95 rfl) ?_
                                  refine sgy (some 194) (Value.bool (!((decide (r18.1.Hi = 0)) && ((decide (r18.1.Lo = 0)) && true)))) rfl rfl rfl (y_pickF rfl rfl rfl) ?_
                                  exact Exists.intro (!((decide (r18.1.Hi = 0)) && ((decide (r18.1.Lo = 0)) && true))) (And.intro (And.intro rfl trivial) (And.intro (bx_drop nd 0) hm))
                              · refine sgn (some 185) rfl rfl (by exact wTF rfl rfl hc96) ?_
                                refine sgn (some 186) rfl rfl (by exact wTF rfl rfl hc96) ?_
                                refine sgy (some 187) (Value.bool false) rfl rfl (by exact wTT rfl rfl hc95) (y_pickF rfl hc96 rfl) ?_
                                refine sgy (some 188) (Value.bool false) rfl rfl (by exact wTT rfl rfl hc95) (y_move rfl) ?_
                                refine sgr (some 189) (S_api_Word.val r18.1) rfl rfl rfl (r_loadA 0 nd rfl rfl Try.underlying25 rfl i25 rfl) ?_
                                refine sgy (some 190) (S_api_Word.val (⟨0, 0⟩ : S_api_Word)) rfl rfl rfl (y_build Try.underlying25 i25 rfl (sizes_cons i23 (sizes_cons i23 sizes_nil)) rfl (cs := #[(Value.int .u64 0), (Value.int .u64 0)]) rfl) ?_
                                refine sgy (some 191) (Value.bool (!((decide (r18.1.Hi = 0)) && ((decide (r18.1.Lo = 0)) && true)))) rfl rfl rfl (y_neA (n := 2) Try.eqGuardType25 rfl rfl (eq_struct (n := 1) Try.underlying25 Try.stoodInHeld25 (efs_cons rfl (part_one Try.underlying23 rfl rfl) (part_one Try.underlying23 rfl rfl) (eq_int Try.underlying23) rfl (efs_cons rfl (part_one Try.underlying23 rfl rfl) (part_one Try.underlying23 rfl rfl) (eq_int Try.underlying23) rfl efs_nil))) rfl) ?_
                                refine sgy (some 192) (Value.bool (!((decide (r18.1.Hi = 0)) && ((decide (r18.1.Lo = 0)) && true)))) rfl rfl (by exact wTT rfl rfl hc95) (y_pickF rfl rfl rfl) ?_
                                refine sgy (some 193) (Value.bool (!((decide (r18.1.Hi = 0)) && ((decide (r18.1.Lo = 0)) && true)))) rfl rfl rfl (y_pickT rfl hc95 rfl) ?_
                                refine sgy (some 194) (Value.bool (!((decide (r18.1.Hi = 0)) && ((decide (r18.1.Lo = 0)) && true)))) rfl rfl rfl (y_pickF rfl rfl rfl) ?_
                                exact Exists.intro (!((decide (r18.1.Hi = 0)) && ((decide (r18.1.Lo = 0)) && true))) (And.intro (And.intro rfl trivial) (And.intro (bx_drop nd 0) hm))
                            · refine sgn (some 182) rfl rfl (by exact wTF rfl rfl hc95) ?_
                              refine sgn (some 183) rfl rfl (by exact wTF rfl rfl hc95) ?_
                              refine sgn (some 184) rfl rfl (by exact wTF rfl rfl hc95) ?_
                              refine sgn (some 185) rfl rfl rfl ?_
                              refine sgn (some 186) rfl rfl rfl ?_
                              refine sgn (some 187) rfl rfl (by exact wTF rfl rfl hc95) ?_
                              refine sgn (some 188) rfl rfl (by exact wTF rfl rfl hc95) ?_
                              refine sgn (some 189) rfl rfl rfl ?_
                              refine sgn (some 190) rfl rfl rfl ?_
                              refine sgn (some 191) rfl rfl rfl ?_
                              refine sgn (some 192) rfl rfl (by exact wTF rfl rfl hc95) ?_
                              refine sgy (some 193) (Value.bool false) rfl rfl rfl (y_pickF rfl hc95 rfl) ?_
                              refine sgy (some 194) (Value.bool false) rfl rfl rfl (y_pickF rfl rfl rfl) ?_
                              exact Exists.intro false (And.intro (And.intro rfl trivial) (And.intro (bx_drop nd 0) hm))
                    · refine sgn (some 162) rfl rfl (by exact wTF rfl rfl hc87) ?_
                      refine sgn (some 163) rfl rfl (by exact wTF rfl rfl hc87) ?_
                      refine sgn (some 164) rfl rfl (by exact wTF rfl rfl hc87) ?_
                      refine sgn (some 165) rfl rfl rfl ?_
                      refine sgn (some 166) rfl rfl rfl ?_
                      refine sgn (some 167) rfl rfl (by exact wTF rfl rfl hc87) ?_
                      refine sgy (some 168) (Value.bool false) rfl rfl (by exact wFF rfl rfl hc86) (y_pickF rfl hc87 rfl) ?_
                      refine sgy (some 169) (Value.bool false) rfl rfl rfl (y_pickF rfl hc86 rfl) ?_
                      refine sgy (some 170) (Value.bool false) rfl rfl rfl (y_move rfl) ?_
                      refine sgy (some 171) (Value.int .i64 r18.2) rfl rfl rfl (y_move rfl) ?_
                      refine sgy (some 172) (Value.bool (decide (r18.2 = 12))) rfl rfl rfl (y_bin rfl rfl rfl) ?_
                      refine sgy (some 173) (Value.bool (decide (r18.2 = 12))) rfl rfl rfl (y_move rfl) ?_
                      refine mIf_elim hm (fun hc98 hm => ?_) (fun hc98 hm => ?_)
                      · refine sgy (some 174) (Value.int .i64 (iSub .i64 r21 (iRem .i64 (iAdd .i64 (iAdd .i64 (iRem .i64 a2 (iAdd .i64 (s1.len : Int) 1)) (s1.len : Int)) 1) (iAdd .i64 (s1.len : Int) 1)))) rfl rfl (by exact wTT rfl rfl hc98) (y_move rfl) ?_
                        refine sgy (some 175) (Value.bool (!decide ((iSub .i64 r21 (iRem .i64 (iAdd .i64 (iAdd .i64 (iRem .i64 a2 (iAdd .i64 (s1.len : Int) 1)) (s1.len : Int)) 1) (iAdd .i64 (s1.len : Int) 1))) = 9))) rfl rfl (by exact wTT rfl rfl hc98) (y_bin rfl rfl rfl) ?_
                        refine sgy (some 176) (Value.bool (!decide ((iSub .i64 r21 (iRem .i64 (iAdd .i64 (iAdd .i64 (iRem .i64 a2 (iAdd .i64 (s1.len : Int) 1)) (s1.len : Int)) 1) (iAdd .i64 (s1.len : Int) 1))) = 9))) rfl rfl rfl (y_pickT rfl hc98 rfl) ?_
                        refine sgy (some 177) (Value.bool (!decide ((iSub .i64 r21 (iRem .i64 (iAdd .i64 (iAdd .i64 (iRem .i64 a2 (iAdd .i64 (s1.len : Int) 1)) (s1.len : Int)) 1) (iAdd .i64 (s1.len : Int) 1))) = 9))) rfl rfl rfl (y_pickF rfl rfl rfl) ?_
                        refine sgy (some 178) (Value.bool (!decide ((iSub .i64 r21 (iRem .i64 (iAdd .i64 (iAdd .i64 (iRem .i64 a2 (iAdd .i64 (s1.len : Int) 1)) (s1.len : Int)) 1) (iAdd .i64 (s1.len : Int) 1))) = 9))) rfl rfl rfl (y_move rfl) ?_
                        refine mIf_elim hm (fun hc99 hm => ?_) (fun hc99 hm => ?_)
                        · refine sgn (some 179) rfl rfl (by exact wFT rfl rfl hc99) ?_
                          refine sgn (some 180) rfl rfl (by exact wFT rfl rfl hc99) ?_
                          refine sgn (some 181) rfl rfl (by exact wFT rfl rfl hc99) ?_
                          refine sgn (some 182) rfl rfl rfl ?_
                          refine sgn (some 183) rfl rfl rfl ?_
                          refine sgn (some 184) rfl rfl rfl ?_
                          refine sgn (some 185) rfl rfl rfl ?_
                          refine sgn (some 186) rfl rfl rfl ?_
                          refine sgn (some 187) rfl rfl rfl ?_
                          refine sgn (some 188) rfl rfl rfl ?_
                          refine sgn (some 189) rfl rfl rfl ?_
                          refine sgn (some 190) rfl rfl rfl ?_
                          refine sgn (some 191) rfl rfl rfl ?_
                          refine sgn (some 192) rfl rfl rfl ?_
                          refine sgn (some 193) rfl rfl (by exact wFT rfl rfl hc99) ?_
                          refine sgy (some 194) (Value.bool true) rfl rfl rfl (y_pickT rfl hc99 rfl) ?_
                          exact Exists.intro true (And.intro (And.intro rfl trivial) (And.intro (bx_drop nd 0) hm))
                        · refine sgy (some 179) (Value.int .i64 r18.2) rfl rfl (by exact wFF rfl rfl hc99) (y_move rfl) ?_
                          refine sgy (some 180) (Value.bool (!decide (r18.2 = 0))) rfl rfl (by exact wFF rfl rfl hc99) (y_bin rfl rfl rfl) ?_
                          refine sgy (some 181) (Value.bool (!decide (r18.2 = 0))) rfl rfl (by exact wFF rfl rfl hc99) (y_move rfl) ?_
                          refine mIf_elim hm (fun hc100 hm => ?_) (fun hc100 hm => ?_)
                          · refine sgy (some 182) (Value.int .i64 r18.2) rfl rfl (by exact wTT rfl rfl hc100) (y_move rfl) ?_
                            refine sgy (some 183) (Value.bool (!decide (r18.2 = 11))) rfl rfl (by exact wTT rfl rfl hc100) (y_bin rfl rfl rfl) ?_
                            refine sgy (some 184) (Value.bool (!decide (r18.2 = 11))) rfl rfl (by exact wTT rfl rfl hc100) (y_move rfl) ?_
                            refine mIf_elim hm (fun hc101 hm => ?_) (fun hc101 hm => ?_)
                            · refine sgy (some 185) (Value.int .i64 r18.2) rfl rfl (by exact wTT rfl rfl hc101) (y_move rfl) ?_
                              refine sgy (some 186) (Value.bool (!decide (r18.2 = 12))) rfl rfl (by exact wTT rfl rfl hc101) (y_bin rfl rfl rfl) ?_
                              refine sgy (some 187) (Value.bool (!decide (r18.2 = 12))) rfl rfl (by exact wTT rfl rfl hc100) (y_pickT rfl hc101 rfl) ?_
                              refine sgy (some 188) (Value.bool (!decide (r18.2 = 12))) rfl rfl (by exact wTT rfl rfl hc100) (y_move rfl) ?_
                              refine mIf_elim hm (fun hc102 hm => ?_) (fun hc102 hm => ?_)
                              · refine sgn (some 189) rfl rfl (by exact wFT rfl rfl hc102) ?_
                                refine sgn (some 190) rfl rfl (by exact wFT rfl rfl hc102) ?_
                                refine sgn (some 191) rfl rfl (by exact wFT rfl rfl hc102) ?_
                                refine sgy (some 192) (Value.bool true) rfl rfl (by exact wTT rfl rfl hc100) (y_pickT rfl hc102 rfl) ?_
                                refine sgy (some 193) (Value.bool true) rfl rfl (by exact wFF rfl rfl hc99) (y_pickT rfl hc100 rfl) ?_
                                refine sgy (some 194) (Value.bool true) rfl rfl rfl (y_pickF rfl hc99 rfl) ?_
                                exact Exists.intro true (And.intro (And.intro rfl trivial) (And.intro (bx_drop nd 0) hm))
                              · refine sgr (some 189) (S_api_Word.val r18.1) rfl rfl (by exact wFF rfl rfl hc102) (r_loadA 0 nd rfl rfl Try.underlying25 rfl i25 rfl) ?_
                                refine sgy (some 190) (S_api_Word.val (⟨0, 0⟩ : S_api_Word)) rfl rfl (by exact wFF rfl rfl hc102) (y_build Try.underlying25 i25 rfl (sizes_cons i23 (sizes_cons i23 sizes_nil)) rfl (cs := #[(Value.int .u64 0), (Value.int .u64 0)]) rfl) ?_
                                refine sgy (some 191) (Value.bool (!((decide (r18.1.Hi = 0)) && ((decide (r18.1.Lo = 0)) && true)))) rfl rfl (by exact wFF rfl rfl hc102) (y_neA (n := 2) Try.eqGuardType25 rfl rfl (eq_struct (n := 1) Try.underlying25 Try.stoodInHeld25 (efs_cons rfl (part_one Try.underlying23 rfl rfl) (part_one Try.underlying23 rfl rfl) (eq_int Try.underlying23) rfl (efs_cons rfl (part_one Try.underlying23 rfl rfl) (part_one Try.underlying23 rfl rfl) (eq_int Try.underlying23) rfl efs_nil))) rfl) ?_
                                refine sgy (some 192) (Value.bool (!((decide (r18.1.Hi = 0)) && ((decide (r18.1.Lo = 0)) && true)))) rfl rfl (by exact wTT rfl rfl hc100) (y_pickF rfl hc102 rfl) ?_
                                refine sgy (some 193) (Value.bool (!((decide (r18.1.Hi = 0)) && ((decide (r18.1.Lo = 0)) && true)))) rfl rfl (by exact wFF rfl rfl hc99) (y_pickT rfl hc100 rfl) ?_
                                refine sgy (some 194) (Value.bool (!((decide (r18.1.Hi = 0)) && ((decide (r18.1.Lo = 0)) && true)))) rfl rfl rfl (y_pickF rfl hc99 rfl) ?_
                                exact Exists.intro (!((decide (r18.1.Hi = 0)) && ((decide (r18.1.Lo = 0)) && true))) (And.intro (And.intro rfl trivial) (And.intro (bx_drop nd 0) hm))
                            · refine sgn (some 185) rfl rfl (by exact wTF rfl rfl hc101) ?_
                              refine sgn (some 186) rfl rfl (by exact wTF rfl rfl hc101) ?_
                              refine sgy (some 187) (Value.bool false) rfl rfl (by exact wTT rfl rfl hc100) (y_pickF rfl hc101 rfl) ?_
                              refine sgy (some 188) (Value.bool false) rfl rfl (by exact wTT rfl rfl hc100) (y_move rfl) ?_
                              refine sgr (some 189) (S_api_Word.val r18.1) rfl rfl rfl (r_loadA 0 nd rfl rfl Try.underlying25 rfl i25 rfl) ?_
                              refine sgy (some 190) (S_api_Word.val (⟨0, 0⟩ : S_api_Word)) rfl rfl rfl (y_build Try.underlying25 i25 rfl (sizes_cons i23 (sizes_cons i23 sizes_nil)) rfl (cs := #[(Value.int .u64 0), (Value.int .u64 0)]) rfl) ?_
                              refine sgy (some 191) (Value.bool (!((decide (r18.1.Hi = 0)) && ((decide (r18.1.Lo = 0)) && true)))) rfl rfl rfl (y_neA (n := 2) Try.eqGuardType25 rfl rfl (eq_struct (n := 1) Try.underlying25 Try.stoodInHeld25 (efs_cons rfl (part_one Try.underlying23 rfl rfl) (part_one Try.underlying23 rfl rfl) (eq_int Try.underlying23) rfl (efs_cons rfl (part_one Try.underlying23 rfl rfl) (part_one Try.underlying23 rfl rfl) (eq_int Try.underlying23) rfl efs_nil))) rfl) ?_
                              refine sgy (some 192) (Value.bool (!((decide (r18.1.Hi = 0)) && ((decide (r18.1.Lo = 0)) && true)))) rfl rfl (by exact wTT rfl rfl hc100) (y_pickF rfl rfl rfl) ?_
                              refine sgy (some 193) (Value.bool (!((decide (r18.1.Hi = 0)) && ((decide (r18.1.Lo = 0)) && true)))) rfl rfl (by exact wFF rfl rfl hc99) (y_pickT rfl hc100 rfl) ?_
                              refine sgy (some 194) (Value.bool (!((decide (r18.1.Hi = 0)) && ((decide (r18.1.Lo = 0)) && true)))) rfl rfl rfl (y_pickF rfl hc99 rfl) ?_
                              exact Exists.intro (!((decide (r18.1.Hi = 0)) && ((decide (r18.1.Lo = 0)) && true))) (And.intro (And.intro rfl trivial) (And.intro (bx_drop nd 0) hm))
                          · refine sgn (some 182) rfl rfl (by exact wTF rfl rfl hc100) ?_
                            refine sgn (some 183) rfl rfl (by exact wTF rfl rfl hc100) ?_
                            refine sgn (some 184) rfl rfl (by exact wTF rfl rfl hc100) ?_
                            refine sgn (some 185) rfl rfl rfl ?_
                            refine sgn (some 186) rfl rfl rfl ?_
                            refine sgn (some 187) rfl rfl (by exact wTF rfl rfl hc100) ?_
                            refine sgn (some 188) rfl rfl (by exact wTF rfl rfl hc100) ?_
                            refine sgn (some 189) rfl rfl rfl ?_
                            refine sgn (some 190) rfl rfl rfl ?_
                            refine sgn (some 191) rfl rfl rfl ?_
                            refine sgn (some 192) rfl rfl (by exact wTF rfl rfl hc100) ?_
                            refine sgy (some 193) (Value.bool false) rfl rfl (by exact wFF rfl rfl hc99) (y_pickF rfl hc100 rfl) ?_
                            refine sgy (some 194) (Value.bool false) rfl rfl rfl (y_pickF rfl hc99 rfl) ?_
                            exact Exists.intro false (And.intro (And.intro rfl trivial) (And.intro (bx_drop nd 0) hm))
                      · refine sgn (some 174) rfl rfl (by exact wTF rfl rfl hc98) ?_
                        refine sgn (some 175) rfl rfl (by exact wTF rfl rfl hc98) ?_
                        refine sgy (some 176) (Value.bool false) rfl rfl rfl (y_pickF rfl hc98 rfl) ?_
                        refine sgy (some 177) (Value.bool false) rfl rfl rfl (y_pickF rfl rfl rfl) ?_
                        refine sgy (some 178) (Value.bool false) rfl rfl rfl (y_move rfl) ?_
                        refine sgy (some 179) (Value.int .i64 r18.2) rfl rfl rfl (y_move rfl) ?_
                        refine sgy (some 180) (Value.bool (!decide (r18.2 = 0))) rfl rfl rfl (y_bin rfl rfl rfl) ?_
                        refine sgy (some 181) (Value.bool (!decide (r18.2 = 0))) rfl rfl rfl (y_move rfl) ?_
                        refine mIf_elim hm (fun hc103 hm => ?_) (fun hc103 hm => ?_)
                        · refine sgy (some 182) (Value.int .i64 r18.2) rfl rfl (by exact wTT rfl rfl hc103) (y_move rfl) ?_
                          refine sgy (some 183) (Value.bool (!decide (r18.2 = 11))) rfl rfl (by exact wTT rfl rfl hc103) (y_bin rfl rfl rfl) ?_
                          refine sgy (some 184) (Value.bool (!decide (r18.2 = 11))) rfl rfl (by exact wTT rfl rfl hc103) (y_move rfl) ?_
                          refine mIf_elim hm (fun hc104 hm => ?_) (fun hc104 hm => ?_)
                          · refine sgy (some 185) (Value.int .i64 r18.2) rfl rfl (by exact wTT rfl rfl hc104) (y_move rfl) ?_
                            refine sgy (some 186) (Value.bool (!decide (r18.2 = 12))) rfl rfl (by exact wTT rfl rfl hc104) (y_bin rfl rfl rfl) ?_
                            refine sgy (some 187) (Value.bool (!decide (r18.2 = 12))) rfl rfl (by exact wTT rfl rfl hc103) (y_pickT rfl hc104 rfl) ?_
                            refine sgy (some 188) (Value.bool (!decide (r18.2 = 12))) rfl rfl (by exact wTT rfl rfl hc103) (y_move rfl) ?_
                            refine mIf_elim hm (fun hc105 hm => ?_) (fun hc105 hm => ?_)
                            · refine sgn (some 189) rfl rfl (by exact wFT rfl rfl hc105) ?_
                              refine sgn (some 190) rfl rfl (by exact wFT rfl rfl hc105) ?_
                              refine sgn (some 191) rfl rfl (by exact wFT rfl rfl hc105) ?_
                              refine sgy (some 192) (Value.bool true) rfl rfl (by exact wTT rfl rfl hc103) (y_pickT rfl hc105 rfl) ?_
                              refine sgy (some 193) (Value.bool true) rfl rfl rfl (y_pickT rfl hc103 rfl) ?_
                              refine sgy (some 194) (Value.bool true) rfl rfl rfl (y_pickF rfl rfl rfl) ?_
                              exact Exists.intro true (And.intro (And.intro rfl trivial) (And.intro (bx_drop nd 0) hm))
                            · refine sgr (some 189) (S_api_Word.val r18.1) rfl rfl (by exact wFF rfl rfl hc105) (r_loadA 0 nd rfl rfl Try.underlying25 rfl i25 rfl) ?_
                              refine sgy (some 190) (S_api_Word.val (⟨0, 0⟩ : S_api_Word)) rfl rfl (by exact wFF rfl rfl hc105) (y_build Try.underlying25 i25 rfl (sizes_cons i23 (sizes_cons i23 sizes_nil)) rfl (cs := #[(Value.int .u64 0), (Value.int .u64 0)]) rfl) ?_
                              refine sgy (some 191) (Value.bool (!((decide (r18.1.Hi = 0)) && ((decide (r18.1.Lo = 0)) && true)))) rfl rfl (by exact wFF rfl rfl hc105) (y_neA (n := 2) Try.eqGuardType25 rfl rfl (eq_struct (n := 1) Try.underlying25 Try.stoodInHeld25 (efs_cons rfl (part_one Try.underlying23 rfl rfl) (part_one Try.underlying23 rfl rfl) (eq_int Try.underlying23) rfl (efs_cons rfl (part_one Try.underlying23 rfl rfl) (part_one Try.underlying23 rfl rfl) (eq_int Try.underlying23) rfl efs_nil))) rfl) ?_
                              refine sgy (some 192) (Value.bool (!((decide (r18.1.Hi = 0)) && ((decide (r18.1.Lo = 0)) && true)))) rfl rfl (by exact wTT rfl rfl hc103) (y_pickF rfl hc105 rfl) ?_
                              refine sgy (some 193) (Value.bool (!((decide (r18.1.Hi = 0)) && ((decide (r18.1.Lo = 0)) && true)))) rfl rfl rfl (y_pickT rfl hc103 rfl) ?_
                              refine sgy (some 194) (Value.bool (!((decide (r18.1.Hi = 0)) && ((decide (r18.1.Lo = 0)) && true)))) rfl rfl rfl (y_pickF rfl rfl rfl) ?_
                              exact Exists.intro (!((decide (r18.1.Hi = 0)) && ((decide (r18.1.Lo = 0)) && true))) (And.intro (And.intro rfl trivial) (And.intro (bx_drop nd 0) hm))
                          · refine sgn (some 185) rfl rfl (by exact wTF rfl rfl hc104) ?_
                            refine sgn (some 186) rfl rfl (by exact wTF rfl rfl hc104) ?_
                            refine sgy (some 187) (Value.bool false) rfl rfl (by exact wTT rfl rfl hc103) (y_pickF rfl hc104 rfl) ?_
                            refine sgy (some 188) (Value.bool false) rfl rfl (by exact wTT rfl rfl hc103) (y_move rfl) ?_
                            refine sgr (some 189) (S_api_Word.val r18.1) rfl rfl rfl (r_loadA 0 nd rfl rfl Try.underlying25 rfl i25 rfl) ?_
                            refine sgy (some 190) (S_api_Word.val (⟨0, 0⟩ : S_api_Word)) rfl rfl rfl (y_build Try.underlying25 i25 rfl (sizes_cons i23 (sizes_cons i23 sizes_nil)) rfl (cs := #[(Value.int .u64 0), (Value.int .u64 0)]) rfl) ?_
                            refine sgy (some 191) (Value.bool (!((decide (r18.1.Hi = 0)) && ((decide (r18.1.Lo = 0)) && true)))) rfl rfl rfl (y_neA (n := 2) Try.eqGuardType25 rfl rfl (eq_struct (n := 1) Try.underlying25 Try.stoodInHeld25 (efs_cons rfl (part_one Try.underlying23 rfl rfl) (part_one Try.underlying23 rfl rfl) (eq_int Try.underlying23) rfl (efs_cons rfl (part_one Try.underlying23 rfl rfl) (part_one Try.underlying23 rfl rfl) (eq_int Try.underlying23) rfl efs_nil))) rfl) ?_
                            refine sgy (some 192) (Value.bool (!((decide (r18.1.Hi = 0)) && ((decide (r18.1.Lo = 0)) && true)))) rfl rfl (by exact wTT rfl rfl hc103) (y_pickF rfl rfl rfl) ?_
                            refine sgy (some 193) (Value.bool (!((decide (r18.1.Hi = 0)) && ((decide (r18.1.Lo = 0)) && true)))) rfl rfl rfl (y_pickT rfl hc103 rfl) ?_
                            refine sgy (some 194) (Value.bool (!((decide (r18.1.Hi = 0)) && ((decide (r18.1.Lo = 0)) && true)))) rfl rfl rfl (y_pickF rfl rfl rfl) ?_
                            exact Exists.intro (!((decide (r18.1.Hi = 0)) && ((decide (r18.1.Lo = 0)) && true))) (And.intro (And.intro rfl trivial) (And.intro (bx_drop nd 0) hm))
                        · refine sgn (some 182) rfl rfl (by exact wTF rfl rfl hc103) ?_
                          refine sgn (some 183) rfl rfl (by exact wTF rfl rfl hc103) ?_
                          refine sgn (some 184) rfl rfl (by exact wTF rfl rfl hc103) ?_
                          refine sgn (some 185) rfl rfl rfl ?_
                          refine sgn (some 186) rfl rfl rfl ?_
                          refine sgn (some 187) rfl rfl (by exact wTF rfl rfl hc103) ?_
                          refine sgn (some 188) rfl rfl (by exact wTF rfl rfl hc103) ?_
                          refine sgn (some 189) rfl rfl rfl ?_
                          refine sgn (some 190) rfl rfl rfl ?_
                          refine sgn (some 191) rfl rfl rfl ?_
                          refine sgn (some 192) rfl rfl (by exact wTF rfl rfl hc103) ?_
                          refine sgy (some 193) (Value.bool false) rfl rfl rfl (y_pickF rfl hc103 rfl) ?_
                          refine sgy (some 194) (Value.bool false) rfl rfl rfl (y_pickF rfl rfl rfl) ?_
                          exact Exists.intro false (And.intro (And.intro rfl trivial) (And.intro (bx_drop nd 0) hm))
                · refine sgn (some 155) rfl rfl (by exact wTF rfl rfl hc85) ?_
                  refine sgn (some 156) rfl rfl (by exact wTF rfl rfl hc85) ?_
                  refine sgy (some 157) (Value.bool false) rfl rfl rfl (y_pickF rfl hc85 rfl) ?_
                  refine sgy (some 158) (Value.bool false) rfl rfl rfl (y_move rfl) ?_
                  refine sgy (some 159) (Value.int .i64 r18.2) rfl rfl rfl (y_move rfl) ?_
                  refine sgy (some 160) (Value.bool (decide (r18.2 = 11))) rfl rfl rfl (y_bin rfl rfl rfl) ?_
                  refine sgy (some 161) (Value.bool (decide (r18.2 = 11))) rfl rfl rfl (y_move rfl) ?_
                  refine mIf_elim hm (fun hc106 hm => ?_) (fun hc106 hm => ?_)
                  · refine sgy (some 162) (Value.int .i64 r45) rfl rfl (by exact wTT rfl rfl hc106) (y_move rfl) ?_
                    refine sgy (some 163) (Value.bool (!decide (r45 = 0))) rfl rfl (by exact wTT rfl rfl hc106) (y_bin rfl rfl rfl) ?_
                    refine sgy (some 164) (Value.bool (!decide (r45 = 0))) rfl rfl (by exact wTT rfl rfl hc106) (y_move rfl) ?_
                    refine mIf_elim hm (fun hc107 hm => ?_) (fun hc107 hm => ?_)
                    · refine sgn (some 165) rfl rfl (by exact wFT rfl rfl hc107) ?_
                      refine sgn (some 166) rfl rfl (by exact wFT rfl rfl hc107) ?_
                      refine sgy (some 167) (Value.bool true) rfl rfl (by exact wTT rfl rfl hc106) (y_pickT rfl hc107 rfl) ?_
                      refine sgy (some 168) (Value.bool true) rfl rfl rfl (y_pickT rfl hc106 rfl) ?_
                      refine sgy (some 169) (Value.bool true) rfl rfl rfl (y_pickF rfl rfl rfl) ?_
                      refine sgy (some 170) (Value.bool true) rfl rfl rfl (y_move rfl) ?_
                      refine sgn (some 171) rfl rfl rfl ?_
                      refine sgn (some 172) rfl rfl rfl ?_
                      refine sgn (some 173) rfl rfl rfl ?_
                      refine sgn (some 174) rfl rfl rfl ?_
                      refine sgn (some 175) rfl rfl rfl ?_
                      refine sgn (some 176) rfl rfl rfl ?_
                      refine sgy (some 177) (Value.bool true) rfl rfl rfl (y_pickT rfl rfl rfl) ?_
                      refine sgy (some 178) (Value.bool true) rfl rfl rfl (y_move rfl) ?_
                      refine sgn (some 179) rfl rfl rfl ?_
                      refine sgn (some 180) rfl rfl rfl ?_
                      refine sgn (some 181) rfl rfl rfl ?_
                      refine sgn (some 182) rfl rfl rfl ?_
                      refine sgn (some 183) rfl rfl rfl ?_
                      refine sgn (some 184) rfl rfl rfl ?_
                      refine sgn (some 185) rfl rfl rfl ?_
                      refine sgn (some 186) rfl rfl rfl ?_
                      refine sgn (some 187) rfl rfl rfl ?_
                      refine sgn (some 188) rfl rfl rfl ?_
                      refine sgn (some 189) rfl rfl rfl ?_
                      refine sgn (some 190) rfl rfl rfl ?_
                      refine sgn (some 191) rfl rfl rfl ?_
                      refine sgn (some 192) rfl rfl rfl ?_
                      refine sgn (some 193) rfl rfl rfl ?_
                      refine sgy (some 194) (Value.bool true) rfl rfl rfl (y_pickT rfl rfl rfl) ?_
                      exact Exists.intro true (And.intro (And.intro rfl trivial) (And.intro (bx_drop nd 0) hm))
                    · refine sgy (some 165) (Value.int .i64 (iSub .i64 r21 (iRem .i64 (iAdd .i64 (iAdd .i64 (iRem .i64 a2 (iAdd .i64 (s1.len : Int) 1)) (s1.len : Int)) 1) (iAdd .i64 (s1.len : Int) 1)))) rfl rfl (by exact wFF rfl rfl hc107) (y_move rfl) ?_
                      refine sgy (some 166) (Value.bool (decide ((iSub .i64 r21 (iRem .i64 (iAdd .i64 (iAdd .i64 (iRem .i64 a2 (iAdd .i64 (s1.len : Int) 1)) (s1.len : Int)) 1) (iAdd .i64 (s1.len : Int) 1))) = 9))) rfl rfl (by exact wFF rfl rfl hc107) (y_bin rfl rfl rfl) ?_
                      refine sgy (some 167) (Value.bool (decide ((iSub .i64 r21 (iRem .i64 (iAdd .i64 (iAdd .i64 (iRem .i64 a2 (iAdd .i64 (s1.len : Int) 1)) (s1.len : Int)) 1) (iAdd .i64 (s1.len : Int) 1))) = 9))) rfl rfl (by exact wTT rfl rfl hc106) (y_pickF rfl hc107 rfl) ?_
                      refine sgy (some 168) (Value.bool (decide ((iSub .i64 r21 (iRem .i64 (iAdd .i64 (iAdd .i64 (iRem .i64 a2 (iAdd .i64 (s1.len : Int) 1)) (s1.len : Int)) 1) (iAdd .i64 (s1.len : Int) 1))) = 9))) rfl rfl rfl (y_pickT rfl hc106 rfl) ?_
                      refine sgy (some 169) (Value.bool (decide ((iSub .i64 r21 (iRem .i64 (iAdd .i64 (iAdd .i64 (iRem .i64 a2 (iAdd .i64 (s1.len : Int) 1)) (s1.len : Int)) 1) (iAdd .i64 (s1.len : Int) 1))) = 9))) rfl rfl rfl (y_pickF rfl rfl rfl) ?_
                      refine sgy (some 170) (Value.bool (decide ((iSub .i64 r21 (iRem .i64 (iAdd .i64 (iAdd .i64 (iRem .i64 a2 (iAdd .i64 (s1.len : Int) 1)) (s1.len : Int)) 1) (iAdd .i64 (s1.len : Int) 1))) = 9))) rfl rfl rfl (y_move rfl) ?_
                      refine mIf_elim hm (fun hc108 hm => ?_) (fun hc108 hm => ?_)
                      · refine sgn (some 171) rfl rfl (by exact wFT rfl rfl hc108) ?_
                        refine sgn (some 172) rfl rfl (by exact wFT rfl rfl hc108) ?_
                        refine sgn (some 173) rfl rfl (by exact wFT rfl rfl hc108) ?_
                        refine sgn (some 174) rfl rfl rfl ?_
                        refine sgn (some 175) rfl rfl rfl ?_
                        refine sgn (some 176) rfl rfl (by exact wFT rfl rfl hc108) ?_
                        refine sgy (some 177) (Value.bool true) rfl rfl rfl (y_pickT rfl hc108 rfl) ?_
                        refine sgy (some 178) (Value.bool true) rfl rfl rfl (y_move rfl) ?_
                        refine sgn (some 179) rfl rfl rfl ?_
                        refine sgn (some 180) rfl rfl rfl ?_
                        refine sgn (some 181) rfl rfl rfl ?_
                        refine sgn (some 182) rfl rfl rfl ?_
                        refine sgn (some 183) rfl rfl rfl ?_
                        refine sgn (some 184) rfl rfl rfl ?_
                        refine sgn (some 185) rfl rfl rfl ?_
                        refine sgn (some 186) rfl rfl rfl ?_
                        refine sgn (some 187) rfl rfl rfl ?_
                        refine sgn (some 188) rfl rfl rfl ?_
                        refine sgn (some 189) rfl rfl rfl ?_
                        refine sgn (some 190) rfl rfl rfl ?_
                        refine sgn (some 191) rfl rfl rfl ?_
                        refine sgn (some 192) rfl rfl rfl ?_
                        refine sgn (some 193) rfl rfl rfl ?_
                        refine sgy (some 194) (Value.bool true) rfl rfl rfl (y_pickT rfl rfl rfl) ?_
                        exact Exists.intro true (And.intro (And.intro rfl trivial) (And.intro (bx_drop nd 0) hm))
                      · refine sgy (some 171) (Value.int .i64 r18.2) rfl rfl (by exact wFF rfl rfl hc108) (y_move rfl) ?_
                        refine sgy (some 172) (Value.bool (decide (r18.2 = 12))) rfl rfl (by exact wFF rfl rfl hc108) (y_bin rfl rfl rfl) ?_
                        refine sgy (some 173) (Value.bool (decide (r18.2 = 12))) rfl rfl (by exact wFF rfl rfl hc108) (y_move rfl) ?_
                        refine mIf_elim hm (fun hc109 hm => ?_) (fun hc109 hm => ?_)
                        · refine sgy (some 174) (Value.int .i64 (iSub .i64 r21 (iRem .i64 (iAdd .i64 (iAdd .i64 (iRem .i64 a2 (iAdd .i64 (s1.len : Int) 1)) (s1.len : Int)) 1) (iAdd .i64 (s1.len : Int) 1)))) rfl rfl (by exact wTT rfl rfl hc109) (y_move rfl) ?_
                          refine sgy (some 175) (Value.bool (!decide ((iSub .i64 r21 (iRem .i64 (iAdd .i64 (iAdd .i64 (iRem .i64 a2 (iAdd .i64 (s1.len : Int) 1)) (s1.len : Int)) 1) (iAdd .i64 (s1.len : Int) 1))) = 9))) rfl rfl (by exact wTT rfl rfl hc109) (y_bin rfl rfl rfl) ?_
                          refine sgy (some 176) (Value.bool (!decide ((iSub .i64 r21 (iRem .i64 (iAdd .i64 (iAdd .i64 (iRem .i64 a2 (iAdd .i64 (s1.len : Int) 1)) (s1.len : Int)) 1) (iAdd .i64 (s1.len : Int) 1))) = 9))) rfl rfl (by exact wFF rfl rfl hc108) (y_pickT rfl hc109 rfl) ?_
                          refine sgy (some 177) (Value.bool (!decide ((iSub .i64 r21 (iRem .i64 (iAdd .i64 (iAdd .i64 (iRem .i64 a2 (iAdd .i64 (s1.len : Int) 1)) (s1.len : Int)) 1) (iAdd .i64 (s1.len : Int) 1))) = 9))) rfl rfl rfl (y_pickF rfl hc108 rfl) ?_
                          refine sgy (some 178) (Value.bool (!decide ((iSub .i64 r21 (iRem .i64 (iAdd .i64 (iAdd .i64 (iRem .i64 a2 (iAdd .i64 (s1.len : Int) 1)) (s1.len : Int)) 1) (iAdd .i64 (s1.len : Int) 1))) = 9))) rfl rfl rfl (y_move rfl) ?_
                          refine mIf_elim hm (fun hc110 hm => ?_) (fun hc110 hm => ?_)
                          · refine sgn (some 179) rfl rfl (by exact wFT rfl rfl hc110) ?_
                            refine sgn (some 180) rfl rfl (by exact wFT rfl rfl hc110) ?_
                            refine sgn (some 181) rfl rfl (by exact wFT rfl rfl hc110) ?_
                            refine sgn (some 182) rfl rfl rfl ?_
                            refine sgn (some 183) rfl rfl rfl ?_
                            refine sgn (some 184) rfl rfl rfl ?_
                            refine sgn (some 185) rfl rfl rfl ?_
                            refine sgn (some 186) rfl rfl rfl ?_
                            refine sgn (some 187) rfl rfl rfl ?_
                            refine sgn (some 188) rfl rfl rfl ?_
                            refine sgn (some 189) rfl rfl rfl ?_
                            refine sgn (some 190) rfl rfl rfl ?_
                            refine sgn (some 191) rfl rfl rfl ?_
                            refine sgn (some 192) rfl rfl rfl ?_
                            refine sgn (some 193) rfl rfl (by exact wFT rfl rfl hc110) ?_
                            refine sgy (some 194) (Value.bool true) rfl rfl rfl (y_pickT rfl hc110 rfl) ?_
                            exact Exists.intro true (And.intro (And.intro rfl trivial) (And.intro (bx_drop nd 0) hm))
                          · refine sgy (some 179) (Value.int .i64 r18.2) rfl rfl (by exact wFF rfl rfl hc110) (y_move rfl) ?_
                            refine sgy (some 180) (Value.bool (!decide (r18.2 = 0))) rfl rfl (by exact wFF rfl rfl hc110) (y_bin rfl rfl rfl) ?_
                            refine sgy (some 181) (Value.bool (!decide (r18.2 = 0))) rfl rfl (by exact wFF rfl rfl hc110) (y_move rfl) ?_
                            refine mIf_elim hm (fun hc111 hm => ?_) (fun hc111 hm => ?_)
                            · refine sgy (some 182) (Value.int .i64 r18.2) rfl rfl (by exact wTT rfl rfl hc111) (y_move rfl) ?_
                              refine sgy (some 183) (Value.bool (!decide (r18.2 = 11))) rfl rfl (by exact wTT rfl rfl hc111) (y_bin rfl rfl rfl) ?_
                              refine sgy (some 184) (Value.bool (!decide (r18.2 = 11))) rfl rfl (by exact wTT rfl rfl hc111) (y_move rfl) ?_
                              refine mIf_elim hm (fun hc112 hm => ?_) (fun hc112 hm => ?_)
                              · refine sgy (some 185) (Value.int .i64 r18.2) rfl rfl (by exact wTT rfl rfl hc112) (y_move rfl) ?_
                                refine sgy (some 186) (Value.bool (!decide (r18.2 = 12))) rfl rfl (by exact wTT rfl rfl hc112) (y_bin rfl rfl rfl) ?_
                                refine sgy (some 187) (Value.bool (!decide (r18.2 = 12))) rfl rfl (by exact wTT rfl rfl hc111) (y_pickT rfl hc112 rfl) ?_
                                refine sgy (some 188) (Value.bool (!decide (r18.2 = 12))) rfl rfl (by exact wTT rfl rfl hc111) (y_move rfl) ?_
                                refine mIf_elim hm (fun hc113 hm => ?_) (fun hc113 hm => ?_)
                                · refine sgn (some 189) rfl rfl (by exact wFT rfl rfl hc113) ?_
                                  refine sgn (some 190) rfl rfl (by exact wFT rfl rfl hc113) ?_
                                  refine sgn (some 191) rfl rfl (by exact wFT rfl rfl hc113) ?_
                                  refine sgy (some 192) (Value.bool true) rfl rfl (by exact wTT rfl rfl hc111) (y_pickT rfl hc113 rfl) ?_
                                  refine sgy (some 193) (Value.bool true) rfl rfl (by exact wFF rfl rfl hc110) (y_pickT rfl hc111 rfl) ?_
                                  refine sgy (some 194) (Value.bool true) rfl rfl rfl (y_pickF rfl hc110 rfl) ?_
                                  exact Exists.intro true (And.intro (And.intro rfl trivial) (And.intro (bx_drop nd 0) hm))
                                · refine sgr (some 189) (S_api_Word.val r18.1) rfl rfl (by exact wFF rfl rfl hc113) (r_loadA 0 nd rfl rfl Try.underlying25 rfl i25 rfl) ?_
                                  refine sgy (some 190) (S_api_Word.val (⟨0, 0⟩ : S_api_Word)) rfl rfl (by exact wFF rfl rfl hc113) (y_build Try.underlying25 i25 rfl (sizes_cons i23 (sizes_cons i23 sizes_nil)) rfl (cs := #[(Value.int .u64 0), (Value.int .u64 0)]) rfl) ?_
                                  refine sgy (some 191) (Value.bool (!((decide (r18.1.Hi = 0)) && ((decide (r18.1.Lo = 0)) && true)))) rfl rfl (by exact wFF rfl rfl hc113) (y_neA (n := 2) Try.eqGuardType25 rfl rfl (eq_struct (n := 1) Try.underlying25 Try.stoodInHeld25 (efs_cons rfl (part_one Try.underlying23 rfl rfl) (part_one Try.underlying23 rfl rfl) (eq_int Try.underlying23) rfl (efs_cons rfl (part_one Try.underlying23 rfl rfl) (part_one Try.underlying23 rfl rfl) (eq_int Try.underlying23) rfl efs_nil))) rfl) ?_
                                  refine sgy (some 192) (Value.bool (!((decide (r18.1.Hi = 0)) && ((decide (r18.1.Lo = 0)) && true)))) rfl rfl (by exact wTT rfl rfl hc111) (y_pickF rfl hc113 rfl) ?_
                                  refine sgy (some 193) (Value.bool (!((decide (r18.1.Hi = 0)) && ((decide (r18.1.Lo = 0)) && true)))) rfl rfl (by exact wFF rfl rfl hc110) (y_pickT rfl hc111 rfl) ?_
                                  refine sgy (some 194) (Value.bool (!((decide (r18.1.Hi = 0)) && ((decide (r18.1.Lo = 0)) && true)))) rfl rfl rfl (y_pickF rfl hc110 rfl) ?_
                                  exact Exists.intro (!((decide (r18.1.Hi = 0)) && ((decide (r18.1.Lo = 0)) && true))) (And.intro (And.intro rfl trivial) (And.intro (bx_drop nd 0) hm))
                              · refine sgn (some 185) rfl rfl (by exact wTF rfl rfl hc112) ?_
                                refine sgn (some 186) rfl rfl (by exact wTF rfl rfl hc112) ?_
                                refine sgy (some 187) (Value.bool false) rfl rfl (by exact wTT rfl rfl hc111) (y_pickF rfl hc112 rfl) ?_
                                refine sgy (some 188) (Value.bool false) rfl rfl (by exact wTT rfl rfl hc111) (y_move rfl) ?_
                                refine sgr (some 189) (S_api_Word.val r18.1) rfl rfl rfl (r_loadA 0 nd rfl rfl Try.underlying25 rfl i25 rfl) ?_
                                refine sgy (some 190) (S_api_Word.val (⟨0, 0⟩ : S_api_Word)) rfl rfl rfl (y_build Try.underlying25 i25 rfl (sizes_cons i23 (sizes_cons i23 sizes_nil)) rfl (cs := #[(Value.int .u64 0), (Value.int .u64 0)]) rfl) ?_
                                refine sgy (some 191) (Value.bool (!((decide (r18.1.Hi = 0)) && ((decide (r18.1.Lo = 0)) && true)))) rfl rfl rfl (y_neA (n := 2) Try.eqGuardType25 rfl rfl (eq_struct (n := 1) Try.underlying25 Try.stoodInHeld25 (efs_cons rfl (part_one Try.underlying23 rfl rfl) (part_one Try.underlying23 rfl rfl) (eq_int Try.underlying23) rfl (efs_cons rfl (part_one Try.underlying23 rfl rfl) (part_one Try.underlying23 rfl rfl) (eq_int Try.underlying23) rfl efs_nil))) rfl) ?_
                                refine sgy (some 192) (Value.bool (!((decide (r18.1.Hi = 0)) && ((decide (r18.1.Lo = 0)) && true)))) rfl rfl (by exact wTT rfl rfl hc111) (y_pickF rfl rfl rfl) ?_
                                refine sgy (some 193) (Value.bool (!((decide (r18.1.Hi = 0)) && ((decide (r18.1.Lo = 0)) && true)))) rfl rfl (by exact wFF rfl rfl hc110) (y_pickT rfl hc111 rfl) ?_
                                refine sgy (some 194) (Value.bool (!((decide (r18.1.Hi = 0)) && ((decide (r18.1.Lo = 0)) && true)))) rfl rfl rfl (y_pickF rfl hc110 rfl) ?_
                                exact Exists.intro (!((decide (r18.1.Hi = 0)) && ((decide (r18.1.Lo = 0)) && true))) (And.intro (And.intro rfl trivial) (And.intro (bx_drop nd 0) hm))
                            · refine sgn (some 182) rfl rfl (by exact wTF rfl rfl hc111) ?_
                              refine sgn (some 183) rfl rfl (by exact wTF rfl rfl hc111) ?_
                              refine sgn (some 184) rfl rfl (by exact wTF rfl rfl hc111) ?_
                              refine sgn (some 185) rfl rfl rfl ?_
                              refine sgn (some 186) rfl rfl rfl ?_
                              refine sgn (some 187) rfl rfl (by exact wTF rfl rfl hc111) ?_
                              refine sgn (some 188) rfl rfl (by exact wTF rfl rfl hc111) ?_
                              refine sgn (some 189) rfl rfl rfl ?_
                              refine sgn (some 190) rfl rfl rfl ?_
                              refine sgn (some 191) rfl rfl rfl ?_
                              refine sgn (some 192) rfl rfl (by exact wTF rfl rfl hc111) ?_
                              refine sgy (some 193) (Value.bool false) rfl rfl (by exact wFF rfl rfl hc110) (y_pickF rfl hc111 rfl) ?_
                              refine sgy (some 194) (Value.bool false) rfl rfl rfl (y_pickF rfl hc110 rfl) ?_
                              exact Exists.intro false (And.intro (And.intro rfl trivial) (And.intro (bx_drop nd 0) hm))
                        · refine sgn (some 174) rfl rfl (by exact wTF rfl rfl hc109) ?_
                          refine sgn (some 175) rfl rfl (by exact wTF rfl rfl hc109) ?_
                          refine sgy (some 176) (Value.bool false) rfl rfl (by exact wFF rfl rfl hc108) (y_pickF rfl hc109 rfl) ?_
                          refine sgy (some 177) (Value.bool false) rfl rfl rfl (y_pickF rfl hc108 rfl) ?_
                          refine sgy (some 178) (Value.bool false) rfl rfl rfl (y_move rfl) ?_
                          refine sgy (some 179) (Value.int .i64 r18.2) rfl rfl rfl (y_move rfl) ?_
                          refine sgy (some 180) (Value.bool (!decide (r18.2 = 0))) rfl rfl rfl (y_bin rfl rfl rfl) ?_
                          refine sgy (some 181) (Value.bool (!decide (r18.2 = 0))) rfl rfl rfl (y_move rfl) ?_
                          refine mIf_elim hm (fun hc114 hm => ?_) (fun hc114 hm => ?_)
                          · refine sgy (some 182) (Value.int .i64 r18.2) rfl rfl (by exact wTT rfl rfl hc114) (y_move rfl) ?_
                            refine sgy (some 183) (Value.bool (!decide (r18.2 = 11))) rfl rfl (by exact wTT rfl rfl hc114) (y_bin rfl rfl rfl) ?_
                            refine sgy (some 184) (Value.bool (!decide (r18.2 = 11))) rfl rfl (by exact wTT rfl rfl hc114) (y_move rfl) ?_
                            refine mIf_elim hm (fun hc115 hm => ?_) (fun hc115 hm => ?_)
                            · refine sgy (some 185) (Value.int .i64 r18.2) rfl rfl (by exact wTT rfl rfl hc115) (y_move rfl) ?_
                              refine sgy (some 186) (Value.bool (!decide (r18.2 = 12))) rfl rfl (by exact wTT rfl rfl hc115) (y_bin rfl rfl rfl) ?_
                              refine sgy (some 187) (Value.bool (!decide (r18.2 = 12))) rfl rfl (by exact wTT rfl rfl hc114) (y_pickT rfl hc115 rfl) ?_
                              refine sgy (some 188) (Value.bool (!decide (r18.2 = 12))) rfl rfl (by exact wTT rfl rfl hc114) (y_move rfl) ?_
                              refine mIf_elim hm (fun hc116 hm => ?_) (fun hc116 hm => ?_)
                              · refine sgn (some 189) rfl rfl (by exact wFT rfl rfl hc116) ?_
                                refine sgn (some 190) rfl rfl (by exact wFT rfl rfl hc116) ?_
                                refine sgn (some 191) rfl rfl (by exact wFT rfl rfl hc116) ?_
                                refine sgy (some 192) (Value.bool true) rfl rfl (by exact wTT rfl rfl hc114) (y_pickT rfl hc116 rfl) ?_
                                refine sgy (some 193) (Value.bool true) rfl rfl rfl (y_pickT rfl hc114 rfl) ?_
                                refine sgy (some 194) (Value.bool true) rfl rfl rfl (y_pickF rfl rfl rfl) ?_
                                exact Exists.intro true (And.intro (And.intro rfl trivial) (And.intro (bx_drop nd 0) hm))
                              · refine sgr (some 189) (S_api_Word.val r18.1) rfl rfl (by exact wFF rfl rfl hc116) (r_loadA 0 nd rfl rfl Try.underlying25 rfl i25 rfl) ?_
                                refine sgy (some 190) (S_api_Word.val (⟨0, 0⟩ : S_api_Word)) rfl rfl (by exact wFF rfl rfl hc116) (y_build Try.underlying25 i25 rfl (sizes_cons i23 (sizes_cons i23 sizes_nil)) rfl (cs := #[(Value.int .u64 0), (Value.int .u64 0)]) rfl) ?_
                                refine sgy (some 191) (Value.bool (!((decide (r18.1.Hi = 0)) && ((decide (r18.1.Lo = 0)) && true)))) rfl rfl (by exact wFF rfl rfl hc116) (y_neA (n := 2) Try.eqGuardType25 rfl rfl (eq_struct (n := 1) Try.underlying25 Try.stoodInHeld25 (efs_cons rfl (part_one Try.underlying23 rfl rfl) (part_one Try.underlying23 rfl rfl) (eq_int Try.underlying23) rfl (efs_cons rfl (part_one Try.underlying23 rfl rfl) (part_one Try.underlying23 rfl rfl) (eq_int Try.underlying23) rfl efs_nil))) rfl) ?_
                                refine sgy (some 192) (Value.bool (!((decide (r18.1.Hi = 0)) && ((decide (r18.1.Lo = 0)) && true)))) rfl rfl (by exact wTT rfl rfl hc114) (y_pickF rfl hc116 rfl) ?_
                                refine sgy (some 193) (Value.bool (!((decide (r18.1.Hi = 0)) && ((decide (r18.1.Lo = 0)) && true)))) rfl rfl rfl (y_pickT rfl hc114 rfl) ?_
                                refine sgy (some 194) (Value.bool (!((decide (r18.1.Hi = 0)) && ((decide (r18.1.Lo = 0)) && true)))) rfl rfl rfl (y_pickF rfl rfl rfl) ?_
                                exact Exists.intro (!((decide (r18.1.Hi = 0)) && ((decide (r18.1.Lo = 0)) && true))) (And.intro (And.intro rfl trivial) (And.intro (bx_drop nd 0) hm))
                            · refine sgn (some 185) rfl rfl (by exact wTF rfl rfl hc115) ?_
                              refine sgn (some 186) rfl rfl (by exact wTF rfl rfl hc115) ?_
                              refine sgy (some 187) (Value.bool false) rfl rfl (by exact wTT rfl rfl hc114) (y_pickF rfl hc115 rfl) ?_
                              refine sgy (some 188) (Value.bool false) rfl rfl (by exact wTT rfl rfl hc114) (y_move rfl) ?_
                              refine sgr (some 189) (S_api_Word.val r18.1) rfl rfl rfl (r_loadA 0 nd rfl rfl Try.underlying25 rfl i25 rfl) ?_
                              refine sgy (some 190) (S_api_Word.val (⟨0, 0⟩ : S_api_Word)) rfl rfl rfl (y_build Try.underlying25 i25 rfl (sizes_cons i23 (sizes_cons i23 sizes_nil)) rfl (cs := #[(Value.int .u64 0), (Value.int .u64 0)]) rfl) ?_
                              refine sgy (some 191) (Value.bool (!((decide (r18.1.Hi = 0)) && ((decide (r18.1.Lo = 0)) && true)))) rfl rfl rfl (y_neA (n := 2) Try.eqGuardType25 rfl rfl (eq_struct (n := 1) Try.underlying25 Try.stoodInHeld25 (efs_cons rfl (part_one Try.underlying23 rfl rfl) (part_one Try.underlying23 rfl rfl) (eq_int Try.underlying23) rfl (efs_cons rfl (part_one Try.underlying23 rfl rfl) (part_one Try.underlying23 rfl rfl) (eq_int Try.underlying23) rfl efs_nil))) rfl) ?_
                              refine sgy (some 192) (Value.bool (!((decide (r18.1.Hi = 0)) && ((decide (r18.1.Lo = 0)) && true)))) rfl rfl (by exact wTT rfl rfl hc114) (y_pickF rfl rfl rfl) ?_
                              refine sgy (some 193) (Value.bool (!((decide (r18.1.Hi = 0)) && ((decide (r18.1.Lo = 0)) && true)))) rfl rfl rfl (y_pickT rfl hc114 rfl) ?_
                              refine sgy (some 194) (Value.bool (!((decide (r18.1.Hi = 0)) && ((decide (r18.1.Lo = 0)) && true)))) rfl rfl rfl (y_pickF rfl rfl rfl) ?_
                              exact Exists.intro (!((decide (r18.1.Hi = 0)) && ((decide (r18.1.Lo = 0)) && true))) (And.intro (And.intro rfl trivial) (And.intro (bx_drop nd 0) hm))
                          · refine sgn (some 182) rfl rfl (by exact wTF rfl rfl hc114) ?_
                            refine sgn (some 183) rfl rfl (by exact wTF rfl rfl hc114) ?_
                            refine sgn (some 184) rfl rfl (by exact wTF rfl rfl hc114) ?_
                            refine sgn (some 185) rfl rfl rfl ?_
                            refine sgn (some 186) rfl rfl rfl ?_
                            refine sgn (some 187) rfl rfl (by exact wTF rfl rfl hc114) ?_
                            refine sgn (some 188) rfl rfl (by exact wTF rfl rfl hc114) ?_
                            refine sgn (some 189) rfl rfl rfl ?_
                            refine sgn (some 190) rfl rfl rfl ?_
                            refine sgn (some 191) rfl rfl rfl ?_
                            refine sgn (some 192) rfl rfl (by exact wTF rfl rfl hc114) ?_
                            refine sgy (some 193) (Value.bool false) rfl rfl rfl (y_pickF rfl hc114 rfl) ?_
                            refine sgy (some 194) (Value.bool false) rfl rfl rfl (y_pickF rfl rfl rfl) ?_
                            exact Exists.intro false (And.intro (And.intro rfl trivial) (And.intro (bx_drop nd 0) hm))
                  · refine sgn (some 162) rfl rfl (by exact wTF rfl rfl hc106) ?_
                    refine sgn (some 163) rfl rfl (by exact wTF rfl rfl hc106) ?_
                    refine sgn (some 164) rfl rfl (by exact wTF rfl rfl hc106) ?_
                    refine sgn (some 165) rfl rfl rfl ?_
                    refine sgn (some 166) rfl rfl rfl ?_
                    refine sgn (some 167) rfl rfl (by exact wTF rfl rfl hc106) ?_
                    refine sgy (some 168) (Value.bool false) rfl rfl rfl (y_pickF rfl hc106 rfl) ?_
                    refine sgy (some 169) (Value.bool false) rfl rfl rfl (y_pickF rfl rfl rfl) ?_
                    refine sgy (some 170) (Value.bool false) rfl rfl rfl (y_move rfl) ?_
                    refine sgy (some 171) (Value.int .i64 r18.2) rfl rfl rfl (y_move rfl) ?_
                    refine sgy (some 172) (Value.bool (decide (r18.2 = 12))) rfl rfl rfl (y_bin rfl rfl rfl) ?_
                    refine sgy (some 173) (Value.bool (decide (r18.2 = 12))) rfl rfl rfl (y_move rfl) ?_
                    refine mIf_elim hm (fun hc117 hm => ?_) (fun hc117 hm => ?_)
                    · refine sgy (some 174) (Value.int .i64 (iSub .i64 r21 (iRem .i64 (iAdd .i64 (iAdd .i64 (iRem .i64 a2 (iAdd .i64 (s1.len : Int) 1)) (s1.len : Int)) 1) (iAdd .i64 (s1.len : Int) 1)))) rfl rfl (by exact wTT rfl rfl hc117) (y_move rfl) ?_
                      refine sgy (some 175) (Value.bool (!decide ((iSub .i64 r21 (iRem .i64 (iAdd .i64 (iAdd .i64 (iRem .i64 a2 (iAdd .i64 (s1.len : Int) 1)) (s1.len : Int)) 1) (iAdd .i64 (s1.len : Int) 1))) = 9))) rfl rfl (by exact wTT rfl rfl hc117) (y_bin rfl rfl rfl) ?_
                      refine sgy (some 176) (Value.bool (!decide ((iSub .i64 r21 (iRem .i64 (iAdd .i64 (iAdd .i64 (iRem .i64 a2 (iAdd .i64 (s1.len : Int) 1)) (s1.len : Int)) 1) (iAdd .i64 (s1.len : Int) 1))) = 9))) rfl rfl rfl (y_pickT rfl hc117 rfl) ?_
                      refine sgy (some 177) (Value.bool (!decide ((iSub .i64 r21 (iRem .i64 (iAdd .i64 (iAdd .i64 (iRem .i64 a2 (iAdd .i64 (s1.len : Int) 1)) (s1.len : Int)) 1) (iAdd .i64 (s1.len : Int) 1))) = 9))) rfl rfl rfl (y_pickF rfl rfl rfl) ?_
                      refine sgy (some 178) (Value.bool (!decide ((iSub .i64 r21 (iRem .i64 (iAdd .i64 (iAdd .i64 (iRem .i64 a2 (iAdd .i64 (s1.len : Int) 1)) (s1.len : Int)) 1) (iAdd .i64 (s1.len : Int) 1))) = 9))) rfl rfl rfl (y_move rfl) ?_
                      refine mIf_elim hm (fun hc118 hm => ?_) (fun hc118 hm => ?_)
                      · refine sgn (some 179) rfl rfl (by exact wFT rfl rfl hc118) ?_
                        refine sgn (some 180) rfl rfl (by exact wFT rfl rfl hc118) ?_
                        refine sgn (some 181) rfl rfl (by exact wFT rfl rfl hc118) ?_
                        refine sgn (some 182) rfl rfl rfl ?_
                        refine sgn (some 183) rfl rfl rfl ?_
                        refine sgn (some 184) rfl rfl rfl ?_
                        refine sgn (some 185) rfl rfl rfl ?_
                        refine sgn (some 186) rfl rfl rfl ?_
                        refine sgn (some 187) rfl rfl rfl ?_
                        refine sgn (some 188) rfl rfl rfl ?_
                        refine sgn (some 189) rfl rfl rfl ?_
                        refine sgn (some 190) rfl rfl rfl ?_
                        refine sgn (some 191) rfl rfl rfl ?_
                        refine sgn (some 192) rfl rfl rfl ?_
                        refine sgn (some 193) rfl rfl (by exact wFT rfl rfl hc118) ?_
                        refine sgy (some 194) (Value.bool true) rfl rfl rfl (y_pickT rfl hc118 rfl) ?_
                        exact Exists.intro true (And.intro (And.intro rfl trivial) (And.intro (bx_drop nd 0) hm))
                      · refine sgy (some 179) (Value.int .i64 r18.2) rfl rfl (by exact wFF rfl rfl hc118) (y_move rfl) ?_
                        refine sgy (some 180) (Value.bool (!decide (r18.2 = 0))) rfl rfl (by exact wFF rfl rfl hc118) (y_bin rfl rfl rfl) ?_
                        refine sgy (some 181) (Value.bool (!decide (r18.2 = 0))) rfl rfl (by exact wFF rfl rfl hc118) (y_move rfl) ?_
                        refine mIf_elim hm (fun hc119 hm => ?_) (fun hc119 hm => ?_)
                        · refine sgy (some 182) (Value.int .i64 r18.2) rfl rfl (by exact wTT rfl rfl hc119) (y_move rfl) ?_
                          refine sgy (some 183) (Value.bool (!decide (r18.2 = 11))) rfl rfl (by exact wTT rfl rfl hc119) (y_bin rfl rfl rfl) ?_
                          refine sgy (some 184) (Value.bool (!decide (r18.2 = 11))) rfl rfl (by exact wTT rfl rfl hc119) (y_move rfl) ?_
                          refine mIf_elim hm (fun hc120 hm => ?_) (fun hc120 hm => ?_)
                          · refine sgy (some 185) (Value.int .i64 r18.2) rfl rfl (by exact wTT rfl rfl hc120) (y_move rfl) ?_
                            refine sgy (some 186) (Value.bool (!decide (r18.2 = 12))) rfl rfl (by exact wTT rfl rfl hc120) (y_bin rfl rfl rfl) ?_
                            refine sgy (some 187) (Value.bool (!decide (r18.2 = 12))) rfl rfl (by exact wTT rfl rfl hc119) (y_pickT rfl hc120 rfl) ?_
                            refine sgy (some 188) (Value.bool (!decide (r18.2 = 12))) rfl rfl (by exact wTT rfl rfl hc119) (y_move rfl) ?_
                            refine mIf_elim hm (fun hc121 hm => ?_) (fun hc121 hm => ?_)
                            · refine sgn (some 189) rfl rfl (by exact wFT rfl rfl hc121) ?_
                              refine sgn (some 190) rfl rfl (by exact wFT rfl rfl hc121) ?_
                              refine sgn (some 191) rfl rfl (by exact wFT rfl rfl hc121) ?_
                              refine sgy (some 192) (Value.bool true) rfl rfl (by exact wTT rfl rfl hc119) (y_pickT rfl hc121 rfl) ?_
                              refine sgy (some 193) (Value.bool true) rfl rfl (by exact wFF rfl rfl hc118) (y_pickT rfl hc119 rfl) ?_
                              refine sgy (some 194) (Value.bool true) rfl rfl rfl (y_pickF rfl hc118 rfl) ?_
                              exact Exists.intro true (And.intro (And.intro rfl trivial) (And.intro (bx_drop nd 0) hm))
                            · refine sgr (some 189) (S_api_Word.val r18.1) rfl rfl (by exact wFF rfl rfl hc121) (r_loadA 0 nd rfl rfl Try.underlying25 rfl i25 rfl) ?_
                              refine sgy (some 190) (S_api_Word.val (⟨0, 0⟩ : S_api_Word)) rfl rfl (by exact wFF rfl rfl hc121) (y_build Try.underlying25 i25 rfl (sizes_cons i23 (sizes_cons i23 sizes_nil)) rfl (cs := #[(Value.int .u64 0), (Value.int .u64 0)]) rfl) ?_
                              refine sgy (some 191) (Value.bool (!((decide (r18.1.Hi = 0)) && ((decide (r18.1.Lo = 0)) && true)))) rfl rfl (by exact wFF rfl rfl hc121) (y_neA (n := 2) Try.eqGuardType25 rfl rfl (eq_struct (n := 1) Try.underlying25 Try.stoodInHeld25 (efs_cons rfl (part_one Try.underlying23 rfl rfl) (part_one Try.underlying23 rfl rfl) (eq_int Try.underlying23) rfl (efs_cons rfl (part_one Try.underlying23 rfl rfl) (part_one Try.underlying23 rfl rfl) (eq_int Try.underlying23) rfl efs_nil))) rfl) ?_
                              refine sgy (some 192) (Value.bool (!((decide (r18.1.Hi = 0)) && ((decide (r18.1.Lo = 0)) && true)))) rfl rfl (by exact wTT rfl rfl hc119) (y_pickF rfl hc121 rfl) ?_
                              refine sgy (some 193) (Value.bool (!((decide (r18.1.Hi = 0)) && ((decide (r18.1.Lo = 0)) && true)))) rfl rfl (by exact wFF rfl rfl hc118) (y_pickT rfl hc119 rfl) ?_
                              refine sgy (some 194) (Value.bool (!((decide (r18.1.Hi = 0)) && ((decide (r18.1.Lo = 0)) && true)))) rfl rfl rfl (y_pickF rfl hc118 rfl) ?_
                              exact Exists.intro (!((decide (r18.1.Hi = 0)) && ((decide (r18.1.Lo = 0)) && true))) (And.intro (And.intro rfl trivial) (And.intro (bx_drop nd 0) hm))
                          · refine sgn (some 185) rfl rfl (by exact wTF rfl rfl hc120) ?_
                            refine sgn (some 186) rfl rfl (by exact wTF rfl rfl hc120) ?_
                            refine sgy (some 187) (Value.bool false) rfl rfl (by exact wTT rfl rfl hc119) (y_pickF rfl hc120 rfl) ?_
                            refine sgy (some 188) (Value.bool false) rfl rfl (by exact wTT rfl rfl hc119) (y_move rfl) ?_
                            refine sgr (some 189) (S_api_Word.val r18.1) rfl rfl rfl (r_loadA 0 nd rfl rfl Try.underlying25 rfl i25 rfl) ?_
                            refine sgy (some 190) (S_api_Word.val (⟨0, 0⟩ : S_api_Word)) rfl rfl rfl (y_build Try.underlying25 i25 rfl (sizes_cons i23 (sizes_cons i23 sizes_nil)) rfl (cs := #[(Value.int .u64 0), (Value.int .u64 0)]) rfl) ?_
                            refine sgy (some 191) (Value.bool (!((decide (r18.1.Hi = 0)) && ((decide (r18.1.Lo = 0)) && true)))) rfl rfl rfl (y_neA (n := 2) Try.eqGuardType25 rfl rfl (eq_struct (n := 1) Try.underlying25 Try.stoodInHeld25 (efs_cons rfl (part_one Try.underlying23 rfl rfl) (part_one Try.underlying23 rfl rfl) (eq_int Try.underlying23) rfl (efs_cons rfl (part_one Try.underlying23 rfl rfl) (part_one Try.underlying23 rfl rfl) (eq_int Try.underlying23) rfl efs_nil))) rfl) ?_
                            refine sgy (some 192) (Value.bool (!((decide (r18.1.Hi = 0)) && ((decide (r18.1.Lo = 0)) && true)))) rfl rfl (by exact wTT rfl rfl hc119) (y_pickF rfl rfl rfl) ?_
                            refine sgy (some 193) (Value.bool (!((decide (r18.1.Hi = 0)) && ((decide (r18.1.Lo = 0)) && true)))) rfl rfl (by exact wFF rfl rfl hc118) (y_pickT rfl hc119 rfl) ?_
                            refine sgy (some 194) (Value.bool (!((decide (r18.1.Hi = 0)) && ((decide (r18.1.Lo = 0)) && true)))) rfl rfl rfl (y_pickF rfl hc118 rfl) ?_
                            exact Exists.intro (!((decide (r18.1.Hi = 0)) && ((decide (r18.1.Lo = 0)) && true))) (And.intro (And.intro rfl trivial) (And.intro (bx_drop nd 0) hm))
                        · refine sgn (some 182) rfl rfl (by exact wTF rfl rfl hc119) ?_
                          refine sgn (some 183) rfl rfl (by exact wTF rfl rfl hc119) ?_
                          refine sgn (some 184) rfl rfl (by exact wTF rfl rfl hc119) ?_
                          refine sgn (some 185) rfl rfl rfl ?_
                          refine sgn (some 186) rfl rfl rfl ?_
                          refine sgn (some 187) rfl rfl (by exact wTF rfl rfl hc119) ?_
                          refine sgn (some 188) rfl rfl (by exact wTF rfl rfl hc119) ?_
                          refine sgn (some 189) rfl rfl rfl ?_
                          refine sgn (some 190) rfl rfl rfl ?_
                          refine sgn (some 191) rfl rfl rfl ?_
                          refine sgn (some 192) rfl rfl (by exact wTF rfl rfl hc119) ?_
                          refine sgy (some 193) (Value.bool false) rfl rfl (by exact wFF rfl rfl hc118) (y_pickF rfl hc119 rfl) ?_
                          refine sgy (some 194) (Value.bool false) rfl rfl rfl (y_pickF rfl hc118 rfl) ?_
                          exact Exists.intro false (And.intro (And.intro rfl trivial) (And.intro (bx_drop nd 0) hm))
                    · refine sgn (some 174) rfl rfl (by exact wTF rfl rfl hc117) ?_
                      refine sgn (some 175) rfl rfl (by exact wTF rfl rfl hc117) ?_
                      refine sgy (some 176) (Value.bool false) rfl rfl rfl (y_pickF rfl hc117 rfl) ?_
                      refine sgy (some 177) (Value.bool false) rfl rfl rfl (y_pickF rfl rfl rfl) ?_
                      refine sgy (some 178) (Value.bool false) rfl rfl rfl (y_move rfl) ?_
                      refine sgy (some 179) (Value.int .i64 r18.2) rfl rfl rfl (y_move rfl) ?_
                      refine sgy (some 180) (Value.bool (!decide (r18.2 = 0))) rfl rfl rfl (y_bin rfl rfl rfl) ?_
                      refine sgy (some 181) (Value.bool (!decide (r18.2 = 0))) rfl rfl rfl (y_move rfl) ?_
                      refine mIf_elim hm (fun hc122 hm => ?_) (fun hc122 hm => ?_)
                      · refine sgy (some 182) (Value.int .i64 r18.2) rfl rfl (by exact wTT rfl rfl hc122) (y_move rfl) ?_
                        refine sgy (some 183) (Value.bool (!decide (r18.2 = 11))) rfl rfl (by exact wTT rfl rfl hc122) (y_bin rfl rfl rfl) ?_
                        refine sgy (some 184) (Value.bool (!decide (r18.2 = 11))) rfl rfl (by exact wTT rfl rfl hc122) (y_move rfl) ?_
                        refine mIf_elim hm (fun hc123 hm => ?_) (fun hc123 hm => ?_)
                        · refine sgy (some 185) (Value.int .i64 r18.2) rfl rfl (by exact wTT rfl rfl hc123) (y_move rfl) ?_
                          refine sgy (some 186) (Value.bool (!decide (r18.2 = 12))) rfl rfl (by exact wTT rfl rfl hc123) (y_bin rfl rfl rfl) ?_
                          refine sgy (some 187) (Value.bool (!decide (r18.2 = 12))) rfl rfl (by exact wTT rfl rfl hc122) (y_pickT rfl hc123 rfl) ?_
                          refine sgy (some 188) (Value.bool (!decide (r18.2 = 12))) rfl rfl (by exact wTT rfl rfl hc122) (y_move rfl) ?_
                          refine mIf_elim hm (fun hc124 hm => ?_) (fun hc124 hm => ?_)
                          · refine sgn (some 189) rfl rfl (by exact wFT rfl rfl hc124) ?_
                            refine sgn (some 190) rfl rfl (by exact wFT rfl rfl hc124) ?_
                            refine sgn (some 191) rfl rfl (by exact wFT rfl rfl hc124) ?_
                            refine sgy (some 192) (Value.bool true) rfl rfl (by exact wTT rfl rfl hc122) (y_pickT rfl hc124 rfl) ?_
                            refine sgy (some 193) (Value.bool true) rfl rfl rfl (y_pickT rfl hc122 rfl) ?_
                            refine sgy (some 194) (Value.bool true) rfl rfl rfl (y_pickF rfl rfl rfl) ?_
                            exact Exists.intro true (And.intro (And.intro rfl trivial) (And.intro (bx_drop nd 0) hm))
                          · refine sgr (some 189) (S_api_Word.val r18.1) rfl rfl (by exact wFF rfl rfl hc124) (r_loadA 0 nd rfl rfl Try.underlying25 rfl i25 rfl) ?_
                            refine sgy (some 190) (S_api_Word.val (⟨0, 0⟩ : S_api_Word)) rfl rfl (by exact wFF rfl rfl hc124) (y_build Try.underlying25 i25 rfl (sizes_cons i23 (sizes_cons i23 sizes_nil)) rfl (cs := #[(Value.int .u64 0), (Value.int .u64 0)]) rfl) ?_
                            refine sgy (some 191) (Value.bool (!((decide (r18.1.Hi = 0)) && ((decide (r18.1.Lo = 0)) && true)))) rfl rfl (by exact wFF rfl rfl hc124) (y_neA (n := 2) Try.eqGuardType25 rfl rfl (eq_struct (n := 1) Try.underlying25 Try.stoodInHeld25 (efs_cons rfl (part_one Try.underlying23 rfl rfl) (part_one Try.underlying23 rfl rfl) (eq_int Try.underlying23) rfl (efs_cons rfl (part_one Try.underlying23 rfl rfl) (part_one Try.underlying23 rfl rfl) (eq_int Try.underlying23) rfl efs_nil))) rfl) ?_
                            refine sgy (some 192) (Value.bool (!((decide (r18.1.Hi = 0)) && ((decide (r18.1.Lo = 0)) && true)))) rfl rfl (by exact wTT rfl rfl hc122) (y_pickF rfl hc124 rfl) ?_
                            refine sgy (some 193) (Value.bool (!((decide (r18.1.Hi = 0)) && ((decide (r18.1.Lo = 0)) && true)))) rfl rfl rfl (y_pickT rfl hc122 rfl) ?_
                            refine sgy (some 194) (Value.bool (!((decide (r18.1.Hi = 0)) && ((decide (r18.1.Lo = 0)) && true)))) rfl rfl rfl (y_pickF rfl rfl rfl) ?_
                            exact Exists.intro (!((decide (r18.1.Hi = 0)) && ((decide (r18.1.Lo = 0)) && true))) (And.intro (And.intro rfl trivial) (And.intro (bx_drop nd 0) hm))
                        · refine sgn (some 185) rfl rfl (by exact wTF rfl rfl hc123) ?_
                          refine sgn (some 186) rfl rfl (by exact wTF rfl rfl hc123) ?_
                          refine sgy (some 187) (Value.bool false) rfl rfl (by exact wTT rfl rfl hc122) (y_pickF rfl hc123 rfl) ?_
                          refine sgy (some 188) (Value.bool false) rfl rfl (by exact wTT rfl rfl hc122) (y_move rfl) ?_
                          refine sgr (some 189) (S_api_Word.val r18.1) rfl rfl rfl (r_loadA 0 nd rfl rfl Try.underlying25 rfl i25 rfl) ?_
                          refine sgy (some 190) (S_api_Word.val (⟨0, 0⟩ : S_api_Word)) rfl rfl rfl (y_build Try.underlying25 i25 rfl (sizes_cons i23 (sizes_cons i23 sizes_nil)) rfl (cs := #[(Value.int .u64 0), (Value.int .u64 0)]) rfl) ?_
                          refine sgy (some 191) (Value.bool (!((decide (r18.1.Hi = 0)) && ((decide (r18.1.Lo = 0)) && true)))) rfl rfl rfl (y_neA (n := 2) Try.eqGuardType25 rfl rfl (eq_struct (n := 1) Try.underlying25 Try.stoodInHeld25 (efs_cons rfl (part_one Try.underlying23 rfl rfl) (part_one Try.underlying23 rfl rfl) (eq_int Try.underlying23) rfl (efs_cons rfl (part_one Try.underlying23 rfl rfl) (part_one Try.underlying23 rfl rfl) (eq_int Try.underlying23) rfl efs_nil))) rfl) ?_
                          refine sgy (some 192) (Value.bool (!((decide (r18.1.Hi = 0)) && ((decide (r18.1.Lo = 0)) && true)))) rfl rfl (by exact wTT rfl rfl hc122) (y_pickF rfl rfl rfl) ?_
                          refine sgy (some 193) (Value.bool (!((decide (r18.1.Hi = 0)) && ((decide (r18.1.Lo = 0)) && true)))) rfl rfl rfl (y_pickT rfl hc122 rfl) ?_
                          refine sgy (some 194) (Value.bool (!((decide (r18.1.Hi = 0)) && ((decide (r18.1.Lo = 0)) && true)))) rfl rfl rfl (y_pickF rfl rfl rfl) ?_
                          exact Exists.intro (!((decide (r18.1.Hi = 0)) && ((decide (r18.1.Lo = 0)) && true))) (And.intro (And.intro rfl trivial) (And.intro (bx_drop nd 0) hm))
                      · refine sgn (some 182) rfl rfl (by exact wTF rfl rfl hc122) ?_
                        refine sgn (some 183) rfl rfl (by exact wTF rfl rfl hc122) ?_
                        refine sgn (some 184) rfl rfl (by exact wTF rfl rfl hc122) ?_
                        refine sgn (some 185) rfl rfl rfl ?_
                        refine sgn (some 186) rfl rfl rfl ?_
                        refine sgn (some 187) rfl rfl (by exact wTF rfl rfl hc122) ?_
                        refine sgn (some 188) rfl rfl (by exact wTF rfl rfl hc122) ?_
                        refine sgn (some 189) rfl rfl rfl ?_
                        refine sgn (some 190) rfl rfl rfl ?_
                        refine sgn (some 191) rfl rfl rfl ?_
                        refine sgn (some 192) rfl rfl (by exact wTF rfl rfl hc122) ?_
                        refine sgy (some 193) (Value.bool false) rfl rfl rfl (y_pickF rfl hc122 rfl) ?_
                        refine sgy (some 194) (Value.bool false) rfl rfl rfl (y_pickF rfl rfl rfl) ?_
                        exact Exists.intro false (And.intro (And.intro rfl trivial) (And.intro (bx_drop nd 0) hm))
              · refine cw_ifm hm rfl (fun hc49 hm => ?_) (fun hc49 hm => ?_)
                · refine cw_seq ?_
                  refine cw_reg (l := [0]) rfl rfl ?_
                  refine sgy (some 8) (Value.bool false) rfl rfl rfl (y_assign rfl) ?_
                  refine drop.of ?_
                  refine cw_ret ?_
                  refine out_one [(Value.bool false)] (e_law13_IssueNew false) Try.results7 ?_ rfl ?_
                  · exact (And.intro (rfl) trivial)
                  · exact Exists.intro false (And.intro rfl hm)
                · refine cw_skip ?_
                  refine drop.of ?_
                  refine cw_seq ?_
                  refine cw_reg (l := [0, 1, 2]) rfl rfl ?_
                  refine sgy (some 195) (Value.pointer r3.1) rfl rfl rfl (y_move rfl) ?_
                  refine sgy (some 196) (Value.int .i64 (iRem .i64 (iAdd .i64 (iAdd .i64 (iRem .i64 a2 (iAdd .i64 (s1.len : Int) 1)) (s1.len : Int)) 1) (iAdd .i64 (s1.len : Int) 1))) rfl rfl rfl (y_move rfl) ?_
                  refine sg rfl rfl (v_call (c_draws_Draws_Skip hm) callee21 rfl (fun v h hm => ?_))
                  obtain ⟨r50, rfl, hm⟩ := hm
                  refine drop.of ?_
                  refine cw_seq ?_
                  refine cw_reg (l := [0, 1, 2, 3, 4, 5, 6, 7, 8, 9, 10, 11]) rfl rfl ?_
                  refine sgy (some 199) (Value.pointer r3.1) rfl rfl rfl (y_move rfl) ?_
                  refine sgy (some 200) (Sl.val s15) rfl rfl rfl (y_move rfl) ?_
                  refine sgy (some 201) (Sl.val a3) rfl rfl rfl (y_move rfl) ?_
                  refine sgy (some 202) (Value.int .i64 (a3.len : Int)) rfl rfl rfl (y_len (s := a3) rfl rfl Try.underlying22) ?_
                  obtain ⟨s52, hq53, hm⟩ := hm
                  refine sgy (some 203) (Sl.val s52) rfl rfl rfl (y_cut Try.underlying22 i25 (s := s15) rfl rfl ⟨_, rfl⟩ hq53) ?_
                  refine sg rfl rfl (v_call (c_issue_Draw hm) callee25 rfl (fun v h hm => ?_))
                  obtain ⟨r54, rfl, hm⟩ := hm
                  refine sgy (some 198) (Value.tuple #[(S_api_Word.val r54.1), (Value.int .i64 r54.2)]) rfl rfl rfl (y_move rfl) ?_
                  refine sgy (some 205) (S_api_Word.val r54.1) rfl rfl rfl (y_extract rfl rfl) ?_
                  refine sgy (some 206) (Value.int .i64 r54.2) rfl rfl rfl (y_extract rfl rfl) ?_
                  refine sg rfl rfl (b_alloc nd i25 rfl (c := #[(Value.int .u64 0), (Value.int .u64 0)]) rfl (fun b56 nd => ?_))
                  refine sg rfl rfl (b_store 0 nd rfl rfl rfl i25 rfl rfl rfl (c' := #[(Value.int .u64 r54.1.Hi), (Value.int .u64 r54.1.Lo)]) rfl (fun nd => ?_))
                  refine sgy (some 21) (Value.int .i64 r54.2) rfl rfl rfl (y_assign rfl) ?_
                  refine drop.of ?_
                  refine cw_seq ?_
                  refine cw_joinM hm [207, 208, 209, 210, 211, 212, 213, 214] (fun s57 => [(214, (Value.bool s57))]) (fun s57 => [(b56, Obj.cells #[(Value.int .u64 r54.1.Hi), (Value.int .u64 r54.1.Lo)] 25 (0, 0)), (b20, Obj.cells #[(Value.int .u64 r18.1.Hi), (Value.int .u64 r18.1.Lo)] 25 (0, 0)), (b14, Obj.cells #[(Value.int .u64 71), (Value.int .u64 0), (Value.int .u64 72), (Value.int .u64 0)] 25 (0, 0))]) rfl (fun _ => nd) (fun hm => ?_) (fun s57 h junk nd hm => ?_)
                  · refine cw_reg (l := [0, 1, 2, 3, 4, 5, 6, 7]) rfl rfl ?_
                    refine sgr (some 207) (S_api_Word.val r54.1) rfl rfl rfl (r_loadA 0 nd rfl rfl Try.underlying25 rfl i25 rfl) ?_
                    refine sgr (some 208) (S_api_Word.val r18.1) rfl rfl rfl (r_loadA 1 nd rfl rfl Try.underlying25 rfl i25 rfl) ?_
                    refine sgy (some 209) (Value.bool (!((decide (r54.1.Hi = r18.1.Hi)) && ((decide (r54.1.Lo = r18.1.Lo)) && true)))) rfl rfl rfl (y_neA (n := 2) Try.eqGuardType25 rfl rfl (eq_struct (n := 1) Try.underlying25 Try.stoodInHeld25 (efs_cons rfl (part_one Try.underlying23 rfl rfl) (part_one Try.underlying23 rfl rfl) (eq_int Try.underlying23) rfl (efs_cons rfl (part_one Try.underlying23 rfl rfl) (part_one Try.underlying23 rfl rfl) (eq_int Try.underlying23) rfl efs_nil))) rfl) ?_
                    refine sgy (some 210) (Value.bool (!((decide (r54.1.Hi = r18.1.Hi)) && ((decide (r54.1.Lo = r18.1.Lo)) && true)))) rfl rfl rfl (y_move rfl) ?_
                    refine mIf_elim hm (fun hc84 hm => ?_) (fun hc84 hm => ?_)
                    · refine sgn (some 211) rfl rfl (by exact wFT rfl rfl hc84) ?_
                      refine sgn (some 212) rfl rfl (by exact wFT rfl rfl hc84) ?_
                      refine sgn (some 213) rfl rfl (by exact wFT rfl rfl hc84) ?_
                      refine sgy (some 214) (Value.bool true) rfl rfl rfl (y_pickT rfl hc84 rfl) ?_
                      exact Exists.intro true (And.intro (And.intro rfl trivial) (And.intro (bx_drop nd 0) hm))
                    · refine sgy (some 211) (Value.int .i64 r54.2) rfl rfl (by exact wFF rfl rfl hc84) (y_move rfl) ?_
                      refine sgy (some 212) (Value.int .i64 r18.2) rfl rfl (by exact wFF rfl rfl hc84) (y_move rfl) ?_
                      refine sgy (some 213) (Value.bool (!decide (r54.2 = r18.2))) rfl rfl (by exact wFF rfl rfl hc84) (y_bin rfl rfl rfl) ?_
                      refine sgy (some 214) (Value.bool (!decide (r54.2 = r18.2))) rfl rfl rfl (y_pickF rfl hc84 rfl) ?_
                      exact Exists.intro (!decide (r54.2 = r18.2)) (And.intro (And.intro rfl trivial) (And.intro (bx_drop nd 0) hm))
                  · refine cw_ifm hm rfl (fun hc59 hm => ?_) (fun hc59 hm => ?_)
                    · refine cw_seq ?_
                      refine cw_reg (l := [0]) rfl rfl ?_
                      refine sgy (some 8) (Value.bool false) rfl rfl rfl (y_assign rfl) ?_
                      refine drop.of ?_
                      refine cw_ret ?_
                      refine out_one [(Value.bool false)] (e_law13_IssueNew false) Try.results7 ?_ rfl ?_
                      · exact (And.intro (rfl) trivial)
                      · exact Exists.intro false (And.intro rfl hm)
                    · refine cw_skip ?_
                      refine drop.of ?_
                      refine cw_seq ?_
                      refine cw_seq ?_
                      refine cw_reg (l := [0]) rfl rfl ?_
                      refine sgy (some 22) (Value.int .i64 0) rfl rfl rfl (y_assign rfl) ?_
                      refine drop.of ?_
                      refine cw_block ?_
                      refine cw_loop [8, 22, 215, 216, 217, 218, 219, 220, 221, 222, 223, 224, 225, 226, 227, 228, 229] (fun s60 => [(22, (Value.int .i64 s60))]) (fun s60 => [(b56, Obj.cells #[(Value.int .u64 r54.1.Hi), (Value.int .u64 r54.1.Lo)] 25 (0, 0)), (b20, Obj.cells #[(Value.int .u64 r18.1.Hi), (Value.int .u64 r18.1.Lo)] 25 (0, 0)), (b14, Obj.cells #[(Value.int .u64 71), (Value.int .u64 0), (Value.int .u64 72), (Value.int .u64 0)] 25 (0, 0))]) hm rfl (fun _ => rfl) ⟨rfl, trivial⟩ rfl (fun _ => nd) (fun rec61 s60 h junk nd hm => ?_)
                      refine cw_seq ?_
                      refine cw_seq ?_
                      refine cw_reg (l := [0, 1, 2, 3]) rfl rfl ?_
                      refine sgy (some 215) (Value.int .i64 s60) rfl rfl rfl (y_move rfl) ?_
                      refine sgy (some 216) (Sl.val a3) rfl rfl rfl (y_move rfl) ?_
                      refine sgy (some 217) (Value.int .i64 (a3.len : Int)) rfl rfl rfl (y_len (s := a3) rfl rfl Try.underlying22) ?_
                      refine sgy (some 218) (Value.bool (decide (s60 < (a3.len : Int)))) rfl rfl rfl (y_bin rfl rfl rfl) ?_
                      refine drop.of ?_
                      refine cw_ifm hm rfl (fun hc62 hm => ?_) (fun hc62 hm => ?_)
                      · refine cw_skip ?_
                        refine drop.of ?_
                        refine cw_seq ?_
                        refine cw_block ?_
                        refine cw_seq ?_
                        refine cw_draw mixed rfl ?_
                        refine tyy 0 (some 221) (Sl.val s15) rfl rfl (by kernel_rfl) (by kernel_rfl) (by kernel_rfl) rfl (y_move rfl) ?_
                        refine tyy 1 (some 222) (Value.int .i64 s60) rfl rfl (by kernel_rfl) (by kernel_rfl) (by kernel_rfl) rfl (y_move rfl) ?_
                        obtain ⟨a63, hq64, hm⟩ := hm
                        refine tyy 2 (some 223) (Value.pointer (some a63)) rfl rfl (by kernel_rfl) (by kernel_rfl) (by kernel_rfl) rfl (y_idx Try.underlying22 i25 rfl rfl hq64) ?_
                        refine tyy 4 (some 225) (Sl.val a3) rfl rfl (by kernel_rfl) (by kernel_rfl) (by kernel_rfl) rfl (y_move rfl) ?_
                        refine tyy 5 (some 226) (Value.int .i64 s60) rfl rfl (by kernel_rfl) (by kernel_rfl) (by kernel_rfl) rfl (y_move rfl) ?_
                        obtain ⟨a65, hq66, hm⟩ := hm
                        refine tyy 6 (some 227) (Value.pointer (some a65)) rfl rfl (by kernel_rfl) (by kernel_rfl) (by kernel_rfl) rfl (y_idx Try.underlying22 i25 rfl rfl hq66) ?_
                        refine tq 3 rfl (by kernel_rfl) (by kernel_rfl) (by kernel_rfl) rfl (v_loadA hm rfl Try.underlying25 rfl i25 S_api_Word.val (fun _ => ⟨rfl, rfl⟩) (fun x67 hm => ?_))
                        refine tq 7 rfl (by kernel_rfl) (by kernel_rfl) (by kernel_rfl) rfl (v_loadA hm rfl Try.underlying25 rfl i25 S_api_Word.val (fun _ => ⟨rfl, rfl⟩) (fun x68 hm => ?_))
                        refine tyy 8 (some 229) (Value.bool (!((decide (x67.Hi = x68.Hi)) && ((decide (x67.Lo = x68.Lo)) && true)))) rfl rfl (by kernel_rfl) (by kernel_rfl) (by kernel_rfl) rfl (y_neA (n := 2) Try.eqGuardType25 rfl rfl (eq_struct (n := 1) Try.underlying25 Try.stoodInHeld25 (efs_cons rfl (part_one Try.underlying23 rfl rfl) (part_one Try.underlying23 rfl rfl) (eq_int Try.underlying23) rfl (efs_cons rfl (part_one Try.underlying23 rfl rfl) (part_one Try.underlying23 rfl rfl) (eq_int Try.underlying23) rfl efs_nil))) rfl) ?_
                        refine td (by kernel_rfl) ?_
                        refine drop.of ?_
                        refine cw_ifm hm rfl (fun hc69 hm => ?_) (fun hc69 hm => ?_)
                        · refine cw_seq ?_
                          refine cw_reg (l := [0]) rfl rfl ?_
                          refine sgy (some 8) (Value.bool false) rfl rfl rfl (y_assign rfl) ?_
                          refine drop.of ?_
                          refine cw_ret ?_
                          refine out_one [(Value.bool false)] (e_law13_IssueNew false) Try.results7 ?_ rfl ?_
                          · exact (And.intro (rfl) trivial)
                          · exact Exists.intro false (And.intro rfl hm)
                        · refine cw_skip ?_
                          refine drop.of ?_
                          refine cw_reg (l := [0, 1, 2]) rfl rfl ?_
                          refine sgy (some 219) (Value.int .i64 s60) rfl rfl rfl (y_move rfl) ?_
                          refine sgy (some 220) (Value.int .i64 (iAdd .i64 s60 1)) rfl rfl rfl (y_bin rfl rfl rfl) ?_
                          refine sgy (some 22) (Value.int .i64 (iAdd .i64 s60 1)) rfl rfl rfl (y_assign rfl) ?_
                          exact Exists.intro (iAdd .i64 s60 1) (And.intro (And.intro rfl trivial) (And.intro (bx_drop nd 0) hm))
                      · refine cw_exit ?_
                        refine drop.of ?_
                        refine cw_seq ?_
                        refine cw_joinM hm [230, 231, 232, 233, 234, 235, 236] (fun s70 => [(236, (Value.bool s70))]) (fun s70 => [(b56, Obj.cells #[(Value.int .u64 r54.1.Hi), (Value.int .u64 r54.1.Lo)] 25 (0, 0)), (b20, Obj.cells #[(Value.int .u64 r18.1.Hi), (Value.int .u64 r18.1.Lo)] 25 (0, 0)), (b14, Obj.cells #[(Value.int .u64 71), (Value.int .u64 0), (Value.int .u64 72), (Value.int .u64 0)] 25 (0, 0))]) rfl (fun _ => nd) (fun hm => ?_) (fun s70 h junk nd hm => ?_)
                        · refine cw_reg (l := [0, 1, 2, 3, 4, 5, 6]) rfl rfl ?_
                          refine sgy (some 230) (Value.int .i64 r18.2) rfl rfl rfl (y_move rfl) ?_
                          refine sgy (some 231) (Value.bool (!decide (r18.2 = 0))) rfl rfl rfl (y_bin rfl rfl rfl) ?_
                          refine sgy (some 232) (Value.bool (!decide (r18.2 = 0))) rfl rfl rfl (y_move rfl) ?_
                          refine mIf_elim hm (fun hc83 hm => ?_) (fun hc83 hm => ?_)
                          · refine sgn (some 233) rfl rfl (by exact wFT rfl rfl hc83) ?_
                            refine sgn (some 234) rfl rfl (by exact wFT rfl rfl hc83) ?_
                            refine sgn (some 235) rfl rfl (by exact wFT rfl rfl hc83) ?_
                            refine sgy (some 236) (Value.bool true) rfl rfl rfl (y_pickT rfl hc83 rfl) ?_
                            exact Exists.intro true (And.intro (And.intro rfl trivial) (And.intro (bx_drop nd 0) hm))
                          · refine sgy (some 233) (Sl.val a3) rfl rfl (by exact wFF rfl rfl hc83) (y_move rfl) ?_
                            refine sgy (some 234) (Value.int .i64 (a3.len : Int)) rfl rfl (by exact wFF rfl rfl hc83) (y_len (s := a3) rfl rfl Try.underlying22) ?_
                            refine sgy (some 235) (Value.bool (decide ((a3.len : Int) = 0))) rfl rfl (by exact wFF rfl rfl hc83) (y_bin rfl rfl rfl) ?_
                            refine sgy (some 236) (Value.bool (decide ((a3.len : Int) = 0))) rfl rfl rfl (y_pickF rfl hc83 rfl) ?_
                            exact Exists.intro (decide ((a3.len : Int) = 0)) (And.intro (And.intro rfl trivial) (And.intro (bx_drop nd 0) hm))
                        · refine cw_ifm hm rfl (fun hc72 hm => ?_) (fun hc72 hm => ?_)
                          · refine cw_seq ?_
                            refine cw_reg (l := [0]) rfl rfl ?_
                            refine sgy (some 8) (Value.bool true) rfl rfl rfl (y_assign rfl) ?_
                            refine drop.of ?_
                            refine cw_ret ?_
                            refine out_one [(Value.bool true)] (e_law13_IssueNew true) Try.results7 ?_ rfl ?_
                            · exact (And.intro (rfl) trivial)
                            · exact Exists.intro true (And.intro rfl hm)
                          · refine cw_skip ?_
                            refine drop.of ?_
                            refine cw_seq ?_
                            refine cw_reg (l := [0, 1, 2, 3]) rfl rfl ?_
                            refine sgy (some 237) (Sl.val s15) rfl rfl rfl (y_move rfl) ?_
                            refine sgr (some 238) (S_api_Word.val r18.1) rfl rfl rfl (r_loadA 1 nd rfl rfl Try.underlying25 rfl i25 rfl) ?_
                            obtain ⟨a73, hq74, hm⟩ := hm
                            refine sgy (some 239) (Value.pointer (some a73)) rfl rfl rfl (y_idx Try.underlying22 i25 rfl rfl hq74) ?_
                            refine sg rfl rfl (v_store hm rfl rfl rfl i25 rfl rfl (fun h hm => ?_))
                            refine drop.of ?_
                            refine cw_seq ?_
                            refine cw_reg (l := [0, 1, 2]) rfl rfl ?_
                            refine sgy (some 240) (Value.pointer r3.1) rfl rfl rfl (y_move rfl) ?_
                            refine sgy (some 241) (Value.int .i64 (iRem .i64 (iAdd .i64 (iAdd .i64 (iRem .i64 a2 (iAdd .i64 (s1.len : Int) 1)) (s1.len : Int)) 1) (iAdd .i64 (s1.len : Int) 1))) rfl rfl rfl (y_move rfl) ?_
                            refine sg rfl rfl (v_call (c_draws_Draws_Skip hm) callee21 rfl (fun v h hm => ?_))
                            obtain ⟨r75, rfl, hm⟩ := hm
                            refine drop.of ?_
                            refine cw_seq ?_
                            refine cw_reg (l := [0, 1, 2, 3, 4, 5, 6, 7, 8, 9, 10, 11]) rfl rfl ?_
                            refine sgy (some 244) (Value.pointer r3.1) rfl rfl rfl (y_move rfl) ?_
                            refine sgy (some 245) (Sl.val s15) rfl rfl rfl (y_move rfl) ?_
                            refine sgy (some 246) (Sl.val a3) rfl rfl rfl (y_move rfl) ?_
                            refine sgy (some 247) (Value.int .i64 (a3.len : Int)) rfl rfl rfl (y_len (s := a3) rfl rfl Try.underlying22) ?_
                            obtain ⟨s77, hq78, hm⟩ := hm
                            refine sgy (some 248) (Sl.val s77) rfl rfl rfl (y_cut Try.underlying22 i25 (s := s15) rfl rfl ⟨_, rfl⟩ hq78) ?_
                            refine sg rfl rfl (v_call (c_issue_Draw hm) callee25 rfl (fun v h hm => ?_))
                            obtain ⟨r79, rfl, hm⟩ := hm
                            refine sgy (some 243) (Value.tuple #[(S_api_Word.val r79.1), (Value.int .i64 r79.2)]) rfl rfl rfl (y_move rfl) ?_
                            refine sgy (some 250) (S_api_Word.val r79.1) rfl rfl rfl (y_extract rfl rfl) ?_
                            refine sgy (some 251) (Value.int .i64 r79.2) rfl rfl rfl (y_extract rfl rfl) ?_
                            refine sg rfl rfl (b_alloc nd i25 rfl (c := #[(Value.int .u64 0), (Value.int .u64 0)]) rfl (fun b81 nd => ?_))
                            refine sg rfl rfl (b_store 0 nd rfl rfl rfl i25 rfl rfl rfl (c' := #[(Value.int .u64 r79.1.Hi), (Value.int .u64 r79.1.Lo)]) rfl (fun nd => ?_))
                            refine sgy (some 24) (Value.int .i64 r79.2) rfl rfl rfl (y_assign rfl) ?_
                            refine drop.of ?_
                            refine cw_seq ?_
                            refine cw_seq ?_
                            refine cw_reg (l := [0, 1]) rfl rfl ?_
                            refine sgy (some 252) (Value.int .i64 r79.2) rfl rfl rfl (y_move rfl) ?_
                            refine sgy (some 253) (Value.bool (!decide (r79.2 = 0))) rfl rfl rfl (y_bin rfl rfl rfl) ?_
                            refine drop.of ?_
                            refine cw_ifm hm rfl (fun hc82 hm => ?_) (fun hc82 hm => ?_)
                            · refine cw_seq ?_
                              refine cw_reg (l := [0, 1, 2, 3]) rfl rfl ?_
                              refine sgr (some 254) (S_api_Word.val r79.1) rfl rfl rfl (r_loadA 0 nd rfl rfl Try.underlying25 rfl i25 rfl) ?_
                              refine sgy (some 255) (S_api_Word.val (⟨0, 0⟩ : S_api_Word)) rfl rfl rfl (y_build Try.underlying25 i25 rfl (sizes_cons i23 (sizes_cons i23 sizes_nil)) rfl (cs := #[(Value.int .u64 0), (Value.int .u64 0)]) rfl) ?_
                              refine sgy (some 256) (Value.bool ((decide (r79.1.Hi = 0)) && ((decide (r79.1.Lo = 0)) && true))) rfl rfl rfl (y_eqA (n := 2) Try.eqGuardType25 rfl rfl (eq_struct (n := 1) Try.underlying25 Try.stoodInHeld25 (efs_cons rfl (part_one Try.underlying23 rfl rfl) (part_one Try.underlying23 rfl rfl) (eq_int Try.underlying23) rfl (efs_cons rfl (part_one Try.underlying23 rfl rfl) (part_one Try.underlying23 rfl rfl) (eq_int Try.underlying23) rfl efs_nil))) rfl) ?_
                              refine sgy (some 8) (Value.bool ((decide (r79.1.Hi = 0)) && ((decide (r79.1.Lo = 0)) && true))) rfl rfl rfl (y_assign rfl) ?_
                              refine drop.of ?_
                              refine cw_ret ?_
                              refine out_one [(Value.bool ((decide (r79.1.Hi = 0)) && ((decide (r79.1.Lo = 0)) && true)))] (e_law13_IssueNew ((decide (r79.1.Hi = 0)) && ((decide (r79.1.Lo = 0)) && true))) Try.results7 ?_ rfl ?_
                              · exact (And.intro (rfl) trivial)
                              · exact Exists.intro ((decide (r79.1.Hi = 0)) && ((decide (r79.1.Lo = 0)) && true)) (And.intro rfl hm)
                            · refine cw_skip ?_
                              refine drop.of ?_
                              refine cw_seq ?_
                              refine cw_reg (l := [0, 1, 2, 3]) rfl rfl ?_
                              refine sgr (some 257) (S_api_Word.val r79.1) rfl rfl rfl (r_loadA 0 nd rfl rfl Try.underlying25 rfl i25 rfl) ?_
                              refine sgr (some 258) (S_api_Word.val r18.1) rfl rfl rfl (r_loadA 2 nd rfl rfl Try.underlying25 rfl i25 rfl) ?_
                              refine sgy (some 259) (Value.bool (!((decide (r79.1.Hi = r18.1.Hi)) && ((decide (r79.1.Lo = r18.1.Lo)) && true)))) rfl rfl rfl (y_neA (n := 2) Try.eqGuardType25 rfl rfl (eq_struct (n := 1) Try.underlying25 Try.stoodInHeld25 (efs_cons rfl (part_one Try.underlying23 rfl rfl) (part_one Try.underlying23 rfl rfl) (eq_int Try.underlying23) rfl (efs_cons rfl (part_one Try.underlying23 rfl rfl) (part_one Try.underlying23 rfl rfl) (eq_int Try.underlying23) rfl efs_nil))) rfl) ?_
                              refine sgy (some 8) (Value.bool (!((decide (r79.1.Hi = r18.1.Hi)) && ((decide (r79.1.Lo = r18.1.Lo)) && true)))) rfl rfl rfl (y_assign rfl) ?_
                              refine drop.of ?_
                              refine cw_ret ?_
                              refine out_one [(Value.bool (!((decide (r79.1.Hi = r18.1.Hi)) && ((decide (r79.1.Lo = r18.1.Lo)) && true))))] (e_law13_IssueNew (!((decide (r79.1.Hi = r18.1.Hi)) && ((decide (r79.1.Lo = r18.1.Lo)) && true)))) Try.results7 ?_ rfl ?_
                              · exact (And.intro (rfl) trivial)
                              · exact Exists.intro (!((decide (r79.1.Hi = r18.1.Hi)) && ((decide (r79.1.Lo = r18.1.Lo)) && true))) (And.intro rfl hm)
end Go.Proofs.Ytnmaknkbdfpbkaa.K
