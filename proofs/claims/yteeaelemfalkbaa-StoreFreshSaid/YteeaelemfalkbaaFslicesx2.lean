/- Functions of the program, printed by a program of mine: slices_partitionOrdered_int, slices_pdqsortOrdered_int, slices_Sort_int_int -/
import Derived.Test.YteeaelemfalkbaaT
import Derived.Test.YteeaelemfalkbaaFbits
import Derived.Test.YteeaelemfalkbaaFcmp
import Derived.Test.YteeaelemfalkbaaFslices
namespace Go.Proofs.Yteeaelemfalkbaa.K
open Go Go.Proofs
/-! slices.partitionOrdered[int] -/
def m_slices_partitionOrdered_int (a0 : Sl) (a1 : Int) (a2 : Int) (a3 : Int) (K : (Int × Bool) → H → Prop) : H → Prop :=
  mIdx a0 a3 1 fun ad1 =>
  mIdx a0 a1 1 fun ad2 =>
  mLoad (cInt .i64) ad1 fun x3 =>
  mLoad (cInt .i64) ad2 fun x4 =>
  mIdx a0 a1 1 fun ad5 =>
  mStore ad5 [(Value.int .i64 x3)] <|
  mIdx a0 a3 1 fun ad6 =>
  mStore ad6 [(Value.int .i64 x4)] <|
  mLoop (fun (rec8 : Int → H → Prop) (s7 : Int) =>
    mJoin (fun (s14 : Bool) =>
      mIf s14 (
        rec8 (iAdd .i64 s7 1)
        ) (
        mLoop (fun (rec17 : Int → H → Prop) (s16 : Int) =>
          mJoin (fun (s23 : Bool) =>
            mIf s23 (
              rec17 (iSub .i64 s16 1)
              ) (
              mIf (decide (s16 < s7)) (
                mIdx a0 a1 1 fun ad25 =>
                mIdx a0 s16 1 fun ad26 =>
                mLoad (cInt .i64) ad25 fun x27 =>
                mLoad (cInt .i64) ad26 fun x28 =>
                mIdx a0 s16 1 fun ad29 =>
                mStore ad29 [(Value.int .i64 x27)] <|
                mIdx a0 a1 1 fun ad30 =>
                mStore ad30 [(Value.int .i64 x28)] <|
                K (s16, true)
                ) (
                mIdx a0 s16 1 fun ad31 =>
                mIdx a0 s7 1 fun ad32 =>
                mLoad (cInt .i64) ad31 fun x33 =>
                mLoad (cInt .i64) ad32 fun x34 =>
                mIdx a0 s7 1 fun ad35 =>
                mStore ad35 [(Value.int .i64 x33)] <|
                mIdx a0 s16 1 fun ad36 =>
                mStore ad36 [(Value.int .i64 x34)] <|
                mLoop (fun (rec38 : (Int × Int) → H → Prop) (s37 : Int × Int) =>
                  mLoop (fun (rec40 : Int → H → Prop) (s39 : Int) =>
                    mJoin (fun (s46 : Bool) =>
                      mIf s46 (
                        rec40 (iAdd .i64 s39 1)
                        ) (
                        mLoop (fun (rec49 : Int → H → Prop) (s48 : Int) =>
                          mJoin (fun (s55 : Bool) =>
                            mIf s55 (
                              rec49 (iSub .i64 s48 1)
                              ) (
                              mIf (decide (s48 < s39)) (
                                mIdx a0 a1 1 fun ad57 =>
                                mIdx a0 s48 1 fun ad58 =>
                                mLoad (cInt .i64) ad57 fun x59 =>
                                mLoad (cInt .i64) ad58 fun x60 =>
                                mIdx a0 s48 1 fun ad61 =>
                                mStore ad61 [(Value.int .i64 x59)] <|
                                mIdx a0 a1 1 fun ad62 =>
                                mStore ad62 [(Value.int .i64 x60)] <|
                                K (s48, false)
                                ) (
                                mIdx a0 s48 1 fun ad63 =>
                                mIdx a0 s39 1 fun ad64 =>
                                mLoad (cInt .i64) ad63 fun x65 =>
                                mLoad (cInt .i64) ad64 fun x66 =>
                                mIdx a0 s39 1 fun ad67 =>
                                mStore ad67 [(Value.int .i64 x65)] <|
                                mIdx a0 s48 1 fun ad68 =>
                                mStore ad68 [(Value.int .i64 x66)] <|
                                rec38 ((iAdd .i64 s39 1), (iSub .i64 s48 1))
                                )
                              )
                            ) (fun j56 =>
                            mIf (decide (s39 ≤ s48)) (
                              mIdx a0 s48 1 fun ad69 =>
                              mIdx a0 a1 1 fun ad70 =>
                              mLoad (cInt .i64) ad69 fun x71 =>
                              mLoad (cInt .i64) ad70 fun x72 =>
                              mPure (m_cmp_Less_int x71 x72) fun r73 =>
                              j56 (!r73)
                              ) (
                              j56 false
                              ))
                          ) s37.2
                        )
                      ) (fun j47 =>
                      mIf (decide (s39 ≤ s37.2)) (
                        mIdx a0 s39 1 fun ad74 =>
                        mIdx a0 a1 1 fun ad75 =>
                        mLoad (cInt .i64) ad74 fun x76 =>
                        mLoad (cInt .i64) ad75 fun x77 =>
                        mPure (m_cmp_Less_int x76 x77) fun r78 =>
                        j47 r78
                        ) (
                        j47 false
                        ))
                    ) s37.1
                  ) ((iAdd .i64 s7 1), (iSub .i64 s16 1))
                )
              )
            ) (fun j24 =>
            mIf (decide (s7 ≤ s16)) (
              mIdx a0 s16 1 fun ad79 =>
              mIdx a0 a1 1 fun ad80 =>
              mLoad (cInt .i64) ad79 fun x81 =>
              mLoad (cInt .i64) ad80 fun x82 =>
              mPure (m_cmp_Less_int x81 x82) fun r83 =>
              j24 (!r83)
              ) (
              j24 false
              ))
          ) (iSub .i64 a2 1)
        )
      ) (fun j15 =>
      mIf (decide (s7 ≤ (iSub .i64 a2 1))) (
        mIdx a0 s7 1 fun ad84 =>
        mIdx a0 a1 1 fun ad85 =>
        mLoad (cInt .i64) ad84 fun x86 =>
        mLoad (cInt .i64) ad85 fun x87 =>
        mPure (m_cmp_Less_int x86 x87) fun r88 =>
        j15 r88
        ) (
        j15 false
        ))
    ) (iAdd .i64 a1 1)
def x_slices_partitionOrdered_int : Cx Try.prog := ⟨tys, [s_cmp_Less_int], [], [], mixed⟩
def h_slices_partitionOrdered_int : Hint := (.seq .d (.seq (.reg (.run [0, 4, 8, 12, 16, 20, 24, 32, 36, 40, 30, 46, 48, 55, 56, 63] .nil)) (.seq .d (.seq (.blk (.loop [.slot 10 (tInt .i64)] 70367670436864 [] (.seq (.seq (.reg (.run [0, 4, 8, 12] (.join [.slot 43 tBool] 17575006175232 [] (.split 33 (.run [16, 20, 24, 32, 36, 40, 30, 46, 48, 52] .nil) (.run [16, 20, 24, 28, 32, 36, 40, 44, 48, 52] .nil)) .nil))) .d) .d))) (.seq (.blk (.loop [.slot 11 (tInt .i64)] 9223301668110600192 [] (.seq (.seq (.reg (.run [0, 4, 8, 12] (.join [.slot 60 tBool] 2304717109306851328 [] (.split 49 (.run [16, 20, 24, 32, 36, 40, 30, 46, 48, 52, 56] .nil) (.run [16, 20, 24, 28, 32, 36, 40, 44, 48, 52, 56] .nil)) .nil))) .d) .d))) (.seq (.seq .d (.cond (.seq (.reg (.run [0, 4, 8, 12, 16, 20, 24, 32, 36, 40, 30, 46, 48, 55, 56, 63] .nil)) .d) .d)) (.seq (.reg (.run [0, 4, 8, 12, 16, 20, 24, 32, 36, 40, 30, 46, 48, 55, 56, 63] .nil)) (.seq .d (.seq .d (.seq (.blk (.loop [.slot 10 (tInt .i64), .slot 11 (tInt .i64)] 11417981541647678414640987641481260342710373376 [] (.blk (.seq (.blk (.loop [.slot 10 (tInt .i64)] 41537741042978506913543222282159104 [] (.seq (.seq (.reg (.run [0, 4, 8, 12] (.join [.slot 112 tBool] 10374452512267829421849019032797184 [] (.split 102 (.run [16, 20, 24, 32, 36, 40, 30, 46, 48, 52] .nil) (.run [16, 20, 24, 28, 32, 36, 40, 44, 48, 52] .nil)) .nil))) .d) .d))) (.seq (.blk (.loop [.slot 11 (tInt .i64)] 5444476332360147136792965474937657624576 [] (.seq (.seq (.reg (.run [0, 4, 8, 12] (.join [.slot 129 tBool] 1360464853685861395917046526196932673536 [] (.split 118 (.run [16, 20, 24, 32, 36, 40, 30, 46, 48, 52, 56] .nil) (.run [16, 20, 24, 28, 32, 36, 40, 44, 48, 52, 56] .nil)) .nil))) .d) .d))) (.seq .d (.seq (.reg (.run [0, 4, 8, 12, 16, 20, 24, 32, 36, 40, 30, 46, 48, 55, 56, 63] .nil)) .d))))))) (.seq (.reg (.run [0, 4, 8, 12, 16, 20, 24, 32, 36, 40, 30, 46, 48, 55, 56, 63] .nil)) .d)))))))))))
theorem w_slices_partitionOrdered_int : ∀ (a : Den [tSl, (tInt .i64), (tInt .i64), (tInt .i64)]) (K : Den [(tInt .i64), tBool] → HP) (h : H), m_slices_partitionOrdered_int a.1 a.2.1 a.2.2.1 a.2.2.2 K h = wpF x_slices_partitionOrdered_int Try.f134 [tSl, (tInt .i64), (tInt .i64), (tInt .i64)] [(tInt .i64), tBool] h_slices_partitionOrdered_int a K h := fun a K h => by kernel_rfl
def s_slices_partitionOrdered_int : Spec Try.prog := mkSpec x_slices_partitionOrdered_int 134 Try.f134 [tSl, (tInt .i64), (tInt .i64), (tInt .i64)] [(tInt .i64), tBool] false h_slices_partitionOrdered_int (fun a => m_slices_partitionOrdered_int a.1 a.2.1 a.2.2.1 a.2.2.2) w_slices_partitionOrdered_int callee134 rfl
/-! slices.pdqsortOrdered[int] -/
def m_slices_pdqsortOrdered_int_s (self : (Sl) → (Int) → (Int) → (Int) → ((Unit) → H → Prop) → H → Prop) (a0 : Sl) (a1 : Int) (a2 : Int) (a3 : Int) (K : (Unit) → H → Prop) : H → Prop :=
  mLoop (fun (rec2 : (Int × Int × Int × Bool × Bool) → H → Prop) (s1 : Int × Int × Int × Bool × Bool) =>
    mIf (decide ((iSub .i64 s1.2.1 s1.1) ≤ 12)) (
      m_slices_insertionSortOrdered_int a0 s1.1 s1.2.1 fun _ =>
      K ()
      ) (
      mIf (decide (s1.2.2.1 = 0)) (
        m_slices_heapSortOrdered_int a0 s1.1 s1.2.1 fun _ =>
        K ()
        ) (
        mJoin (fun (s5 : Int) =>
          m_slices_choosePivotOrdered_int a0 s1.1 s1.2.1 fun r7 =>
          mJoin (fun (s8 : Int × Int) =>
            mJoin (fun (_s10 : Unit) =>
              mJoin (fun (s17 : Bool) =>
                mIf s17 (
                  m_slices_partitionEqualOrdered_int a0 s1.1 s1.2.1 s8.1 fun r19 =>
                  rec2 (r19, s1.2.1, s5, s1.2.2.2.1, s1.2.2.2.2)
                  ) (
                  m_slices_partitionOrdered_int a0 s1.1 s1.2.1 s8.1 fun r20 =>
                  mIf (decide ((iSub .i64 r20.1 s1.1) < (iSub .i64 s1.2.1 r20.1))) (
                    self a0 s1.1 r20.1 s5 fun _ =>
                    rec2 ((iAdd .i64 r20.1 1), s1.2.1, s5, (decide ((iQuo .i64 (iSub .i64 s1.2.1 s1.1) 8) ≤ (iSub .i64 r20.1 s1.1))), r20.2)
                    ) (
                    self a0 (iAdd .i64 r20.1 1) s1.2.1 s5 fun _ =>
                    rec2 (s1.1, r20.1, s5, (decide ((iQuo .i64 (iSub .i64 s1.2.1 s1.1) 8) ≤ (iSub .i64 s1.2.1 r20.1))), r20.2)
                    )
                  )
                ) (fun j18 =>
                mIf (decide (0 < s1.1)) (
                  mIdx a0 (iSub .i64 s1.1 1) 1 fun ad23 =>
                  mIdx a0 s8.1 1 fun ad24 =>
                  mLoad (cInt .i64) ad23 fun x25 =>
                  mLoad (cInt .i64) ad24 fun x26 =>
                  mPure (m_cmp_Less_int x25 x26) fun r27 =>
                  j18 (!r27)
                  ) (
                  j18 false
                  ))
              ) (fun j11 =>
              mIf ((s1.2.2.2.1 && s1.2.2.2.2) && (decide (s8.2 = 1))) (
                m_slices_partialInsertionSortOrdered_int a0 s1.1 s1.2.1 fun r28 =>
                mIf r28 (
                  K ()
                  ) (
                  j11 ()
                  )
                ) (
                j11 ()
                )
              )
            ) (fun j9 =>
            mIf (decide (r7.2 = 2)) (
              m_slices_reverseRangeOrdered_int a0 s1.1 s1.2.1 fun _ =>
              j9 ((iSub .i64 (iSub .i64 s1.2.1 1) (iSub .i64 r7.1 s1.1)), 1)
              ) (
              j9 (r7.1, r7.2)
              )
            )
          ) (fun j6 =>
          mIf (!s1.2.2.2.1) (
            m_slices_breakPatternsOrdered_int a0 s1.1 s1.2.1 fun _ =>
            j6 (iSub .i64 s1.2.2.1 1)
            ) (
            j6 s1.2.2.1
            )
          )
        )
      )
    ) (a1, a2, a3, true, true)
def m_slices_pdqsortOrdered_int_n : Nat → (Sl) → (Int) → (Int) → (Int) → ((Unit) → H → Prop) → H → Prop
  | 0 => fun _ _ _ _ _ _ => False
  | n + 1 => m_slices_pdqsortOrdered_int_s (m_slices_pdqsortOrdered_int_n n)
def m_slices_pdqsortOrdered_int (a0 : Sl) (a1 : Int) (a2 : Int) (a3 : Int) (K : (Unit) → H → Prop) : H → Prop := fun h => ∃ n, m_slices_pdqsortOrdered_int_n n a0 a1 a2 a3 K h
def r_slices_pdqsortOrdered_int (m : (Sl) → (Int) → (Int) → (Int) → ((Unit) → H → Prop) → H → Prop) (ok : ∀ (a : Den [tSl, (tInt .i64), (tInt .i64), (tInt .i64)]) (K : Den [] → HP) (h : H), m a.1 a.2.1 a.2.2.1 a.2.2.2 K h → ACall Try.prog 115 (valsD [tSl, (tInt .i64), (tInt .i64), (tInt .i64)] a).toArray h (fun v h' => ∃ r, v = outV (valsD [] r) ∧ K r h') noP) : Spec Try.prog := ⟨115, [tSl, (tInt .i64), (tInt .i64), (tInt .i64)], [], false, fun a => m a.1 a.2.1 a.2.2.1 a.2.2.2, ok, ⟨Try.f115, callee115⟩⟩
def x_slices_pdqsortOrdered_int (r : Spec Try.prog) : Cx Try.prog := ⟨tys, [r, s_slices_insertionSortOrdered_int, s_slices_heapSortOrdered_int, s_slices_breakPatternsOrdered_int, s_slices_choosePivotOrdered_int, s_slices_reverseRangeOrdered_int, s_slices_partialInsertionSortOrdered_int, s_cmp_Less_int, s_slices_partitionEqualOrdered_int, s_slices_partitionOrdered_int], [], [], mixed⟩
def h_slices_pdqsortOrdered_int : Hint := (.seq .d (.seq .d (.blk (.loop [.slot 1 (tInt .i64), .slot 2 (tInt .i64), .slot 3 (tInt .i64), .slot 8 tBool, .slot 9 tBool] 21778071482940061661655974875633165532942 [] (.blk (.seq .d (.seq .d (.seq .d (.join [.slot 3 (tInt .i64)] 4380866641928 [] .d (.seq .d (.join [.slot 11 (tInt .i64), .slot 12 (tInt .i64)] 2305280059260278784 [] .d (.join [] 9442427122730076733440 [] (.seq (.reg (.run [3, 7] (.sel 62 64 27670116110564327424 (.run [11, 15] .nil) (.run [11, 15] .nil) (.run [19] (.sel 65 68 516508834063867445248 (.run [23, 27, 31] .nil) (.run [23, 27, 31] .nil) .nil))))) .d) (.seq (.seq (.reg (.run [0, 4, 8] (.join [.slot 87 tBool] 309409451957619154401361920 [] (.split 75 (.run [12, 16, 20, 24, 32, 36, 40, 30, 46, 48, 52, 56] .nil) (.run [12, 16, 20, 24, 28, 32, 36, 40, 44, 48, 52, 56] .nil)) .nil))) .d) .d)))))))))))))
theorem w_slices_pdqsortOrdered_int (m : (Sl) → (Int) → (Int) → (Int) → ((Unit) → H → Prop) → H → Prop) (ok : ∀ (a : Den [tSl, (tInt .i64), (tInt .i64), (tInt .i64)]) (K : Den [] → HP) (h : H), m a.1 a.2.1 a.2.2.1 a.2.2.2 K h → ACall Try.prog 115 (valsD [tSl, (tInt .i64), (tInt .i64), (tInt .i64)] a).toArray h (fun v h' => ∃ r, v = outV (valsD [] r) ∧ K r h') noP) : ∀ (a : Den [tSl, (tInt .i64), (tInt .i64), (tInt .i64)]) (K : Den [] → HP) (h : H), m_slices_pdqsortOrdered_int_s m a.1 a.2.1 a.2.2.1 a.2.2.2 K h = wpF (x_slices_pdqsortOrdered_int (r_slices_pdqsortOrdered_int m ok)) Try.f115 [tSl, (tInt .i64), (tInt .i64), (tInt .i64)] [] h_slices_pdqsortOrdered_int a K h := fun a K h => by kernel_rfl
theorem k_slices_pdqsortOrdered_int : ∀ n : Nat, ∀ (a : Den [tSl, (tInt .i64), (tInt .i64), (tInt .i64)]) (K : Den [] → HP) (h : H), m_slices_pdqsortOrdered_int_n n a.1 a.2.1 a.2.2.1 a.2.2.2 K h → ACall Try.prog 115 (valsD [tSl, (tInt .i64), (tInt .i64), (tInt .i64)] a).toArray h (fun v h' => ∃ r, v = outV (valsD [] r) ∧ K r h') noP
  | 0 => fun _ _ _ x => x.elim
  | n + 1 => (mkSpec (x_slices_pdqsortOrdered_int (r_slices_pdqsortOrdered_int (m_slices_pdqsortOrdered_int_n n) (k_slices_pdqsortOrdered_int n))) 115 Try.f115 [tSl, (tInt .i64), (tInt .i64), (tInt .i64)] [] false h_slices_pdqsortOrdered_int (fun a => m_slices_pdqsortOrdered_int_s (m_slices_pdqsortOrdered_int_n n) a.1 a.2.1 a.2.2.1 a.2.2.2) (w_slices_pdqsortOrdered_int (m_slices_pdqsortOrdered_int_n n) (k_slices_pdqsortOrdered_int n)) callee115 rfl).ok
def s_slices_pdqsortOrdered_int : Spec Try.prog := ⟨115, [tSl, (tInt .i64), (tInt .i64), (tInt .i64)], [], false, fun a => m_slices_pdqsortOrdered_int a.1 a.2.1 a.2.2.1 a.2.2.2, fun a K h ⟨n, x⟩ => k_slices_pdqsortOrdered_int n a K h x, ⟨Try.f115, callee115⟩⟩
/-! slices.Sort[[]int,int] -/
def m_slices_Sort_int_int (a0 : Sl) (K : (Unit) → H → Prop) : H → Prop :=
  mPure (m_math_bits_Len (IntKind.wrap .u64 (a0.len : Int))) fun r1 =>
  m_slices_pdqsortOrdered_int a0 0 (a0.len : Int) r1 fun _ =>
  K ()
def x_slices_Sort_int_int : Cx Try.prog := ⟨tys, [s_slices_pdqsortOrdered_int, s_math_bits_Len], [], [], mixed⟩
def h_slices_Sort_int_int : Hint := .d
theorem w_slices_Sort_int_int : ∀ (a : Den [tSl]) (K : Den [] → HP) (h : H), m_slices_Sort_int_int a K h = wpF x_slices_Sort_int_int Try.f79 [tSl] [] h_slices_Sort_int_int a K h := fun a K h => by kernel_rfl
def s_slices_Sort_int_int : Spec Try.prog := mkSpec x_slices_Sort_int_int 79 Try.f79 [tSl] [] false h_slices_Sort_int_int (fun a => m_slices_Sort_int_int a) w_slices_Sort_int_int callee79 rfl
end Go.Proofs.Yteeaelemfalkbaa.K
