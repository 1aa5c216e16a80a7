/- Functions of the program, printed by a program of mine: slices_Clone_byte_byte, slices_Index_int_int, slices_Contains_int_int, slices_insertionSortOrdered_int, slices_siftDownOrdered_int, slices_heapSortOrdered_int, slices_nextPowerOfTwo, slices_xorshift_Next, slices_breakPatternsOrdered_int, slices_order2Ordered_int, slices_medianOrdered_int, slices_medianAdjacentOrdered_int, slices_choosePivotOrdered_int, slices_reverseRangeOrdered_int, slices_partialInsertionSortOrdered_int, slices_partitionEqualOrdered_int -/
import Derived.Test.YteeaelemfalkbaaT
import Derived.Test.YteeaelemfalkbaaFbits
import Derived.Test.YteeaelemfalkbaaFcmp
namespace Go.Proofs.Yteeaelemfalkbaa.K
open Go Go.Proofs
/-! slices.Clone[[]byte,byte] -/
def m_slices_Clone_byte_byte (a0 : Sl) (K : (Sl) → H → Prop) : H → Prop :=
  mIf (a0.a.isNone) (
    K Sl.nil
    ) (
    mNew 5 #[] fun ad1 =>
    mAppend 5 1 1 #[(Value.int .u8 0)] (⟨some ad1, 0, 0⟩ : Sl) a0 fun s2 =>
    K s2
    )
def x_slices_Clone_byte_byte : Cx Try.prog := ⟨tys, [], [], [], mixed⟩
def h_slices_Clone_byte_byte : Hint := .d
theorem w_slices_Clone_byte_byte : ∀ (a : Den [tSl]) (K : Den [tSl] → HP) (h : H), m_slices_Clone_byte_byte a K h = wpF x_slices_Clone_byte_byte Try.f97 [tSl] [tSl] h_slices_Clone_byte_byte a K h := fun a K h => by kernel_rfl
def s_slices_Clone_byte_byte : Spec Try.prog := mkSpec x_slices_Clone_byte_byte 97 Try.f97 [tSl] [tSl] false h_slices_Clone_byte_byte (fun a => m_slices_Clone_byte_byte a) w_slices_Clone_byte_byte callee97 rfl
/-! slices.Index[[]int,int] -/
def m_slices_Index_int_int (a0 : Sl) (a1 : Int) (K : (Int) → H → Prop) : H → Prop :=
  mLoop (fun (rec2 : Int → H → Prop) (s1 : Int) =>
    mIf (decide (s1 < (a0.len : Int))) (
      mIdx a0 s1 1 fun ad3 =>
      mLoad (cInt .i64) ad3 fun x4 =>
      mIf (decide (a1 = x4)) (
        K s1
        ) (
        rec2 (iAdd .i64 s1 1)
        )
      ) (
      K (-1)
      )
    ) 0
def x_slices_Index_int_int : Cx Try.prog := ⟨tys, [], [], [], mixed⟩
def h_slices_Index_int_int : Hint := (.seq .d (.seq (.seq .d (.blk (.loop [.slot 8 (tInt .i64)] 524080 [] .d))) .d))
theorem w_slices_Index_int_int : ∀ (a : Den [tSl, (tInt .i64)]) (K : Den [(tInt .i64)] → HP) (h : H), m_slices_Index_int_int a.1 a.2 K h = wpF x_slices_Index_int_int Try.f125 [tSl, (tInt .i64)] [(tInt .i64)] h_slices_Index_int_int a K h := fun a K h => by kernel_rfl
def s_slices_Index_int_int : Spec Try.prog := mkSpec x_slices_Index_int_int 125 Try.f125 [tSl, (tInt .i64)] [(tInt .i64)] false h_slices_Index_int_int (fun a => m_slices_Index_int_int a.1 a.2) w_slices_Index_int_int callee125 rfl
/-! slices.Contains[[]int,int] -/
def m_slices_Contains_int_int (a0 : Sl) (a1 : Int) (K : (Bool) → H → Prop) : H → Prop :=
  m_slices_Index_int_int a0 a1 fun r1 =>
  K (decide (0 ≤ r1))
def x_slices_Contains_int_int : Cx Try.prog := ⟨tys, [s_slices_Index_int_int], [], [], mixed⟩
def h_slices_Contains_int_int : Hint := .d
theorem w_slices_Contains_int_int : ∀ (a : Den [tSl, (tInt .i64)]) (K : Den [tBool] → HP) (h : H), m_slices_Contains_int_int a.1 a.2 K h = wpF x_slices_Contains_int_int Try.f114 [tSl, (tInt .i64)] [tBool] h_slices_Contains_int_int a K h := fun a K h => by kernel_rfl
def s_slices_Contains_int_int : Spec Try.prog := mkSpec x_slices_Contains_int_int 114 Try.f114 [tSl, (tInt .i64)] [tBool] false h_slices_Contains_int_int (fun a => m_slices_Contains_int_int a.1 a.2) w_slices_Contains_int_int callee114 rfl
/-! slices.insertionSortOrdered[int] -/
def m_slices_insertionSortOrdered_int (a0 : Sl) (a1 : Int) (a2 : Int) (K : (Unit) → H → Prop) : H → Prop :=
  mLoop (fun (rec2 : Int → H → Prop) (s1 : Int) =>
    mIf (decide (s1 < a2)) (
      mLoop (fun (rec4 : Int → H → Prop) (s3 : Int) =>
        mJoin (fun (s10 : Bool) =>
          mIf s10 (
            mIdx a0 (iSub .i64 s3 1) 1 fun ad12 =>
            mIdx a0 s3 1 fun ad13 =>
            mLoad (cInt .i64) ad12 fun x14 =>
            mLoad (cInt .i64) ad13 fun x15 =>
            mIdx a0 s3 1 fun ad16 =>
            mStore ad16 [(Value.int .i64 x14)] <|
            mIdx a0 (iSub .i64 s3 1) 1 fun ad17 =>
            mStore ad17 [(Value.int .i64 x15)] <|
            rec4 (iSub .i64 s3 1)
            ) (
            rec2 (iAdd .i64 s1 1)
            )
          ) (fun j11 =>
          mIf (decide (a1 < s3)) (
            mIdx a0 s3 1 fun ad18 =>
            mIdx a0 (iSub .i64 s3 1) 1 fun ad19 =>
            mLoad (cInt .i64) ad18 fun x20 =>
            mLoad (cInt .i64) ad19 fun x21 =>
            mPure (m_cmp_Less_int x20 x21) fun r22 =>
            j11 r22
            ) (
            j11 false
            ))
        ) s1
      ) (
      K ()
      )
    ) (iAdd .i64 a1 1)
def x_slices_insertionSortOrdered_int : Cx Try.prog := ⟨tys, [s_cmp_Less_int], [], [], mixed⟩
def h_slices_insertionSortOrdered_int : Hint := (.seq .d (.blk (.loop [.slot 6 (tInt .i64)] 562949953420480 [] (.seq .d (.seq (.blk (.seq .d (.blk (.loop [.slot 7 (tInt .i64)] 562949953355904 [] (.seq (.seq (.reg (.run [0, 4, 8, 12] (.join [.slot 30 tBool] 2146435072 [] (.split 19 (.run [16, 20, 24, 32, 36, 40, 44, 30, 50, 52, 56] .nil) (.run [16, 20, 24, 28, 32, 36, 40, 44, 48, 52, 56] .nil)) .nil))) .d) (.seq (.blk (.reg (.run [0, 4, 8, 12, 16, 20, 24, 28, 32, 40, 44, 48, 38, 54, 56, 63, 64, 71] .nil))) .d)))))) .d)))))
theorem w_slices_insertionSortOrdered_int : ∀ (a : Den [tSl, (tInt .i64), (tInt .i64)]) (K : Den [] → HP) (h : H), m_slices_insertionSortOrdered_int a.1 a.2.1 a.2.2 K h = wpF x_slices_insertionSortOrdered_int Try.f126 [tSl, (tInt .i64), (tInt .i64)] [] h_slices_insertionSortOrdered_int a K h := fun a K h => by kernel_rfl
def s_slices_insertionSortOrdered_int : Spec Try.prog := mkSpec x_slices_insertionSortOrdered_int 126 Try.f126 [tSl, (tInt .i64), (tInt .i64)] [] false h_slices_insertionSortOrdered_int (fun a => m_slices_insertionSortOrdered_int a.1 a.2.1 a.2.2) w_slices_insertionSortOrdered_int callee126 rfl
/-! slices.siftDownOrdered[int] -/
def m_slices_siftDownOrdered_int (a0 : Sl) (a1 : Int) (a2 : Int) (a3 : Int) (K : (Unit) → H → Prop) : H → Prop :=
  mLoop (fun (rec2 : Int → H → Prop) (s1 : Int) =>
    mIf (decide (a2 ≤ (iAdd .i64 (iMul .i64 2 s1) 1))) (
      K ()
      ) (
      mJoin (fun (s3 : Int) =>
        mIdx a0 (iAdd .i64 a3 s1) 1 fun ad5 =>
        mIdx a0 (iAdd .i64 a3 s3) 1 fun ad6 =>
        mLoad (cInt .i64) ad5 fun x7 =>
        mLoad (cInt .i64) ad6 fun x8 =>
        mPure (m_cmp_Less_int x7 x8) fun r9 =>
        mIf (!r9) (
          K ()
          ) (
          mIdx a0 (iAdd .i64 a3 s3) 1 fun ad10 =>
          mIdx a0 (iAdd .i64 a3 s1) 1 fun ad11 =>
          mLoad (cInt .i64) ad10 fun x12 =>
          mLoad (cInt .i64) ad11 fun x13 =>
          mIdx a0 (iAdd .i64 a3 s1) 1 fun ad14 =>
          mStore ad14 [(Value.int .i64 x12)] <|
          mIdx a0 (iAdd .i64 a3 s3) 1 fun ad15 =>
          mStore ad15 [(Value.int .i64 x13)] <|
          rec2 s3
          )
        ) (fun j4 =>
        mJoin (fun (s21 : Bool) =>
          mIf s21 (
            j4 (iAdd .i64 (iAdd .i64 (iMul .i64 2 s1) 1) 1)
            ) (
            j4 (iAdd .i64 (iMul .i64 2 s1) 1)
            )
          ) (fun j22 =>
          mIf (decide ((iAdd .i64 (iAdd .i64 (iMul .i64 2 s1) 1) 1) < a2)) (
            mIdx a0 (iAdd .i64 a3 (iAdd .i64 (iMul .i64 2 s1) 1)) 1 fun ad23 =>
            mIdx a0 (iAdd .i64 (iAdd .i64 a3 (iAdd .i64 (iMul .i64 2 s1) 1)) 1) 1 fun ad24 =>
            mLoad (cInt .i64) ad23 fun x25 =>
            mLoad (cInt .i64) ad24 fun x26 =>
            mPure (m_cmp_Less_int x25 x26) fun r27 =>
            j22 r27
            ) (
            j22 false
            ))
        )
      )
    ) a1
def x_slices_siftDownOrdered_int : Cx Try.prog := ⟨tys, [s_cmp_Less_int], [], [], mixed⟩
def h_slices_siftDownOrdered_int : Hint := (.seq .d (.blk (.loop [.slot 8 (tInt .i64)] 75557863725914323417856 [] (.blk (.seq .d (.seq .d (.join [.slot 9 (tInt .i64)] 549755683328 [] (.seq (.reg (.run [0, 4, 8, 12, 16] (.join [.slot 36 tBool] 137434759168 [] (.split 21 (.run [20, 24, 28, 32, 36, 44, 48, 52, 56, 60, 64, 42, 70, 72, 76] .nil) (.run [20, 24, 28, 32, 36, 40, 44, 48, 52, 56, 60, 64, 68, 72, 76] .nil)) .nil))) .d) (.seq (.seq (.reg (.run [0, 4, 8, 12, 16, 24, 28, 32, 36, 40, 22, 46, 48, 52] .nil)) .d) (.seq (.reg (.run [0, 4, 8, 12, 16, 20, 24, 28, 32, 36, 40, 44, 48, 56, 60, 64, 68, 72, 54, 78, 80, 87, 88, 95] .nil)) .d)))))))))
theorem w_slices_siftDownOrdered_int : ∀ (a : Den [tSl, (tInt .i64), (tInt .i64), (tInt .i64)]) (K : Den [] → HP) (h : H), m_slices_siftDownOrdered_int a.1 a.2.1 a.2.2.1 a.2.2.2 K h = wpF x_slices_siftDownOrdered_int Try.f140 [tSl, (tInt .i64), (tInt .i64), (tInt .i64)] [] h_slices_siftDownOrdered_int a K h := fun a K h => by kernel_rfl
def s_slices_siftDownOrdered_int : Spec Try.prog := mkSpec x_slices_siftDownOrdered_int 140 Try.f140 [tSl, (tInt .i64), (tInt .i64), (tInt .i64)] [] false h_slices_siftDownOrdered_int (fun a => m_slices_siftDownOrdered_int a.1 a.2.1 a.2.2.1 a.2.2.2) w_slices_siftDownOrdered_int callee140 rfl
/-! slices.heapSortOrdered[int] -/
def m_slices_heapSortOrdered_int (a0 : Sl) (a1 : Int) (a2 : Int) (K : (Unit) → H → Prop) : H → Prop :=
  mLoop (fun (rec2 : Int → H → Prop) (s1 : Int) =>
    mIf (decide (0 ≤ s1)) (
      m_slices_siftDownOrdered_int a0 s1 (iSub .i64 a2 a1) a1 fun _ =>
      rec2 (iSub .i64 s1 1)
      ) (
      mLoop (fun (rec5 : Int → H → Prop) (s4 : Int) =>
        mIf (decide (0 ≤ s4)) (
          mIdx a0 (iAdd .i64 a1 s4) 1 fun ad6 =>
          mIdx a0 a1 1 fun ad7 =>
          mLoad (cInt .i64) ad6 fun x8 =>
          mLoad (cInt .i64) ad7 fun x9 =>
          mIdx a0 a1 1 fun ad10 =>
          mStore ad10 [(Value.int .i64 x8)] <|
          mIdx a0 (iAdd .i64 a1 s4) 1 fun ad11 =>
          mStore ad11 [(Value.int .i64 x9)] <|
          m_slices_siftDownOrdered_int a0 0 s4 a1 fun _ =>
          rec5 (iSub .i64 s4 1)
          ) (
          K ()
          )
        ) (iSub .i64 (iSub .i64 a2 a1) 1)
      )
    ) (iQuo .i64 (iSub .i64 (iSub .i64 a2 a1) 1) 2)
def x_slices_heapSortOrdered_int : Cx Try.prog := ⟨tys, [s_slices_siftDownOrdered_int], [], [], mixed⟩
def h_slices_heapSortOrdered_int : Hint := (.seq .d (.seq .d (.seq .d (.seq (.seq .d (.blk (.loop [.slot 9 (tInt .i64)] 133956096 [] .d))) (.seq .d (.blk (.loop [.slot 10 (tInt .i64)] 72057593501058048 [] (.seq .d (.seq (.blk (.seq (.reg (.run [0, 4, 8, 12, 16, 20, 24, 28, 32, 36, 40, 48, 52, 56, 46, 62, 64, 71, 72, 79] .nil)) .d)) .d)))))))))
theorem w_slices_heapSortOrdered_int : ∀ (a : Den [tSl, (tInt .i64), (tInt .i64)]) (K : Den [] → HP) (h : H), m_slices_heapSortOrdered_int a.1 a.2.1 a.2.2 K h = wpF x_slices_heapSortOrdered_int Try.f127 [tSl, (tInt .i64), (tInt .i64)] [] h_slices_heapSortOrdered_int a K h := fun a K h => by kernel_rfl
def s_slices_heapSortOrdered_int : Spec Try.prog := mkSpec x_slices_heapSortOrdered_int 127 Try.f127 [tSl, (tInt .i64), (tInt .i64)] [] false h_slices_heapSortOrdered_int (fun a => m_slices_heapSortOrdered_int a.1 a.2.1 a.2.2) w_slices_heapSortOrdered_int callee127 rfl
/-! slices.nextPowerOfTwo -/
def m_slices_nextPowerOfTwo (a0 : Int) (K : (Int) → H → Prop) : H → Prop :=
  mPure (m_math_bits_Len (IntKind.wrap .u64 a0)) fun r1 =>
  mNN r1 <|
  K (iShl .u64 1 r1)
def x_slices_nextPowerOfTwo : Cx Try.prog := ⟨tys, [s_math_bits_Len], [], [], mixed⟩
def h_slices_nextPowerOfTwo : Hint := .d
theorem w_slices_nextPowerOfTwo : ∀ (a : Den [(tInt .i64)]) (K : Den [(tInt .u64)] → HP) (h : H), m_slices_nextPowerOfTwo a K h = wpF x_slices_nextPowerOfTwo Try.f141 [(tInt .i64)] [(tInt .u64)] h_slices_nextPowerOfTwo a K h := fun a K h => by kernel_rfl
def s_slices_nextPowerOfTwo : Spec Try.prog := mkSpec x_slices_nextPowerOfTwo 141 Try.f141 [(tInt .i64)] [(tInt .u64)] true h_slices_nextPowerOfTwo (fun a => m_slices_nextPowerOfTwo a) w_slices_nextPowerOfTwo callee141 rfl
/-! (*slices.xorshift).Next -/
def m_slices_xorshift_Next (a0 : Option Addr) (K : (Int) → H → Prop) : H → Prop :=
  mDeref a0 fun ad1 =>
  mDeref a0 fun ad2 =>
  mLoad (cInt .u64) ad1 fun x3 =>
  mLoad (cInt .u64) ad2 fun x4 =>
  mDeref a0 fun ad5 =>
  mStore ad5 [(Value.int .u64 (iXor .u64 x3 (iShl .u64 x4 13)))] <|
  mDeref a0 fun ad6 =>
  mDeref a0 fun ad7 =>
  mLoad (cInt .u64) ad6 fun x8 =>
  mLoad (cInt .u64) ad7 fun x9 =>
  mDeref a0 fun ad10 =>
  mStore ad10 [(Value.int .u64 (iXor .u64 x8 (iShr .u64 x9 7)))] <|
  mDeref a0 fun ad11 =>
  mDeref a0 fun ad12 =>
  mLoad (cInt .u64) ad11 fun x13 =>
  mLoad (cInt .u64) ad12 fun x14 =>
  mDeref a0 fun ad15 =>
  mStore ad15 [(Value.int .u64 (iXor .u64 x13 (iShl .u64 x14 17)))] <|
  mDeref a0 fun ad16 =>
  mLoad (cInt .u64) ad16 fun x17 =>
  K x17
def x_slices_xorshift_Next : Cx Try.prog := ⟨tys, [], [], [], mixed⟩
def h_slices_xorshift_Next : Hint := (.seq .d (.seq (.reg (.run [0, 4, 12, 16, 10, 22, 24, 28, 32, 39] .nil)) (.seq (.reg (.run [0, 4, 12, 16, 10, 22, 24, 28, 32, 39] .nil)) (.seq (.reg (.run [0, 4, 12, 16, 10, 22, 24, 28, 32, 39] .nil)) .d))))
theorem w_slices_xorshift_Next : ∀ (a : Den [tPtr]) (K : Den [(tInt .u64)] → HP) (h : H), m_slices_xorshift_Next a K h = wpF x_slices_xorshift_Next Try.f142 [tPtr] [(tInt .u64)] h_slices_xorshift_Next a K h := fun a K h => by kernel_rfl
def s_slices_xorshift_Next : Spec Try.prog := mkSpec x_slices_xorshift_Next 142 Try.f142 [tPtr] [(tInt .u64)] false h_slices_xorshift_Next (fun a => m_slices_xorshift_Next a) w_slices_xorshift_Next callee142 rfl
/-! slices.breakPatternsOrdered[int] -/
def m_slices_breakPatternsOrdered_int (a0 : Sl) (a1 : Int) (a2 : Int) (K : (Unit) → H → Prop) : H → Prop :=
  mIf (decide (8 ≤ (iSub .i64 a2 a1))) (
    mNew 192 #[(Value.int .u64 0)] fun ad1 =>
    mStore ad1 [(Value.int .u64 (IntKind.wrap .u64 (iSub .i64 a2 a1)))] <|
    mPure (m_slices_nextPowerOfTwo (iSub .i64 a2 a1)) fun r2 =>
    mLoop (fun (rec4 : Int → H → Prop) (s3 : Int) =>
      mIf (decide (s3 ≤ (iAdd .i64 (iAdd .i64 a1 (iMul .i64 (iQuo .i64 (iSub .i64 a2 a1) 4) 2)) 1))) (
        m_slices_xorshift_Next (some ad1) fun r5 =>
        mJoin (fun (s6 : Int) =>
          mIdx a0 (iAdd .i64 a1 s6) 1 fun ad8 =>
          mIdx a0 s3 1 fun ad9 =>
          mLoad (cInt .i64) ad8 fun x10 =>
          mLoad (cInt .i64) ad9 fun x11 =>
          mIdx a0 s3 1 fun ad12 =>
          mStore ad12 [(Value.int .i64 x10)] <|
          mIdx a0 (iAdd .i64 a1 s6) 1 fun ad13 =>
          mStore ad13 [(Value.int .i64 x11)] <|
          rec4 (iAdd .i64 s3 1)
          ) (fun j7 =>
          mIf (decide ((iSub .i64 a2 a1) ≤ (IntKind.wrap .i64 (iAnd .u64 r5 (iSub .u64 r2 1))))) (
            j7 (iSub .i64 (IntKind.wrap .i64 (iAnd .u64 r5 (iSub .u64 r2 1))) (iSub .i64 a2 a1))
            ) (
            j7 (IntKind.wrap .i64 (iAnd .u64 r5 (iSub .u64 r2 1)))
            )
          )
        ) (
        K ()
        )
      ) (iSub .i64 (iAdd .i64 a1 (iMul .i64 (iQuo .i64 (iSub .i64 a2 a1) 4) 2)) 1)
    ) (
    K ()
    )
def x_slices_breakPatternsOrdered_int : Cx Try.prog := ⟨tys, [s_slices_nextPowerOfTwo, s_slices_xorshift_Next], [], [], mixed⟩
def h_slices_breakPatternsOrdered_int : Hint := (.seq .d (.seq .d (.cond (.seq .d (.seq .d (.seq .d (.blk (.loop [.slot 9 (tInt .i64)] 36893488147351995904 [] (.seq .d (.seq (.blk (.seq .d (.join [.slot 10 (tInt .i64)] 138538465100800 [] .d (.reg (.run [0, 4, 8, 12, 16, 20, 24, 28, 32, 36, 40, 48, 52, 56, 46, 62, 64, 71, 72, 79] .nil))))) .d))))))) .d)))
theorem w_slices_breakPatternsOrdered_int : ∀ (a : Den [tSl, (tInt .i64), (tInt .i64)]) (K : Den [] → HP) (h : H), m_slices_breakPatternsOrdered_int a.1 a.2.1 a.2.2 K h = wpF x_slices_breakPatternsOrdered_int Try.f128 [tSl, (tInt .i64), (tInt .i64)] [] h_slices_breakPatternsOrdered_int a K h := fun a K h => by kernel_rfl
def s_slices_breakPatternsOrdered_int : Spec Try.prog := mkSpec x_slices_breakPatternsOrdered_int 128 Try.f128 [tSl, (tInt .i64), (tInt .i64)] [] false h_slices_breakPatternsOrdered_int (fun a => m_slices_breakPatternsOrdered_int a.1 a.2.1 a.2.2) w_slices_breakPatternsOrdered_int callee128 rfl
/-! slices.order2Ordered[int] -/
def m_slices_order2Ordered_int (a0 : Sl) (a1 : Int) (a2 : Int) (a3 : Option Addr) (K : (Int × Int) → H → Prop) : H → Prop :=
  mIdx a0 a2 1 fun ad1 =>
  mIdx a0 a1 1 fun ad2 =>
  mLoad (cInt .i64) ad1 fun x3 =>
  mLoad (cInt .i64) ad2 fun x4 =>
  mPure (m_cmp_Less_int x3 x4) fun r5 =>
  mIf r5 (
    mDeref a3 fun ad6 =>
    mLoad (cInt .i64) ad6 fun x7 =>
    mDeref a3 fun ad8 =>
    mStore ad8 [(Value.int .i64 (iAdd .i64 x7 1))] <|
    K (a2, a1)
    ) (
    K (a1, a2)
    )
def x_slices_order2Ordered_int : Cx Try.prog := ⟨tys, [s_cmp_Less_int], [], [], mixed⟩
def h_slices_order2Ordered_int : Hint := (.seq .d (.seq (.seq (.reg (.run [0, 4, 8, 16, 20, 24, 14, 30, 32] .nil)) .d) .d))
theorem w_slices_order2Ordered_int : ∀ (a : Den [tSl, (tInt .i64), (tInt .i64), tPtr]) (K : Den [(tInt .i64), (tInt .i64)] → HP) (h : H), m_slices_order2Ordered_int a.1 a.2.1 a.2.2.1 a.2.2.2 K h = wpF x_slices_order2Ordered_int Try.f147 [tSl, (tInt .i64), (tInt .i64), tPtr] [(tInt .i64), (tInt .i64)] h_slices_order2Ordered_int a K h := fun a K h => by kernel_rfl
def s_slices_order2Ordered_int : Spec Try.prog := mkSpec x_slices_order2Ordered_int 147 Try.f147 [tSl, (tInt .i64), (tInt .i64), tPtr] [(tInt .i64), (tInt .i64)] false h_slices_order2Ordered_int (fun a => m_slices_order2Ordered_int a.1 a.2.1 a.2.2.1 a.2.2.2) w_slices_order2Ordered_int callee147 rfl
/-! slices.medianOrdered[int] -/
def m_slices_medianOrdered_int (a0 : Sl) (a1 : Int) (a2 : Int) (a3 : Int) (a4 : Option Addr) (K : (Int) → H → Prop) : H → Prop :=
  m_slices_order2Ordered_int a0 a1 a2 a4 fun r1 =>
  m_slices_order2Ordered_int a0 r1.2 a3 a4 fun r2 =>
  m_slices_order2Ordered_int a0 r1.1 r2.1 a4 fun r3 =>
  K r3.2
def x_slices_medianOrdered_int : Cx Try.prog := ⟨tys, [s_slices_order2Ordered_int], [], [], mixed⟩
def h_slices_medianOrdered_int : Hint := .d
theorem w_slices_medianOrdered_int : ∀ (a : Den [tSl, (tInt .i64), (tInt .i64), (tInt .i64), tPtr]) (K : Den [(tInt .i64)] → HP) (h : H), m_slices_medianOrdered_int a.1 a.2.1 a.2.2.1 a.2.2.2.1 a.2.2.2.2 K h = wpF x_slices_medianOrdered_int Try.f144 [tSl, (tInt .i64), (tInt .i64), (tInt .i64), tPtr] [(tInt .i64)] h_slices_medianOrdered_int a K h := fun a K h => by kernel_rfl
def s_slices_medianOrdered_int : Spec Try.prog := mkSpec x_slices_medianOrdered_int 144 Try.f144 [tSl, (tInt .i64), (tInt .i64), (tInt .i64), tPtr] [(tInt .i64)] false h_slices_medianOrdered_int (fun a => m_slices_medianOrdered_int a.1 a.2.1 a.2.2.1 a.2.2.2.1 a.2.2.2.2) w_slices_medianOrdered_int callee144 rfl
/-! slices.medianAdjacentOrdered[int] -/
def m_slices_medianAdjacentOrdered_int (a0 : Sl) (a1 : Int) (a2 : Option Addr) (K : (Int) → H → Prop) : H → Prop :=
  m_slices_medianOrdered_int a0 (iSub .i64 a1 1) a1 (iAdd .i64 a1 1) a2 fun r1 =>
  K r1
def x_slices_medianAdjacentOrdered_int : Cx Try.prog := ⟨tys, [s_slices_medianOrdered_int], [], [], mixed⟩
def h_slices_medianAdjacentOrdered_int : Hint := .d
theorem w_slices_medianAdjacentOrdered_int : ∀ (a : Den [tSl, (tInt .i64), tPtr]) (K : Den [(tInt .i64)] → HP) (h : H), m_slices_medianAdjacentOrdered_int a.1 a.2.1 a.2.2 K h = wpF x_slices_medianAdjacentOrdered_int Try.f143 [tSl, (tInt .i64), tPtr] [(tInt .i64)] h_slices_medianAdjacentOrdered_int a K h := fun a K h => by kernel_rfl
def s_slices_medianAdjacentOrdered_int : Spec Try.prog := mkSpec x_slices_medianAdjacentOrdered_int 143 Try.f143 [tSl, (tInt .i64), tPtr] [(tInt .i64)] false h_slices_medianAdjacentOrdered_int (fun a => m_slices_medianAdjacentOrdered_int a.1 a.2.1 a.2.2) w_slices_medianAdjacentOrdered_int callee143 rfl
/-! slices.choosePivotOrdered[int] -/
def m_slices_choosePivotOrdered_int (a0 : Sl) (a1 : Int) (a2 : Int) (K : (Int × Int) → H → Prop) : H → Prop :=
  mNew 3 #[(Value.int .i64 0)] fun ad1 =>
  mJoin (fun (s2 : Int) =>
    mLoad (cInt .i64) ad1 fun x4 =>
    mIf (decide (x4 = 0)) (
      K (s2, 1)
      ) (
      mIf (decide (x4 = 12)) (
        K (s2, 2)
        ) (
        K (s2, 0)
        )
      )
    ) (fun j3 =>
    mIf (decide (8 ≤ (iSub .i64 a2 a1))) (
      mJoin (fun (s5 : Int × Int × Int) =>
        m_slices_medianOrdered_int a0 s5.1 s5.2.1 s5.2.2 (some ad1) fun r7 =>
        j3 r7
        ) (fun j6 =>
        mIf (decide (50 ≤ (iSub .i64 a2 a1))) (
          m_slices_medianAdjacentOrdered_int a0 (iAdd .i64 a1 (iMul .i64 (iQuo .i64 (iSub .i64 a2 a1) 4) 1)) (some ad1) fun r8 =>
          m_slices_medianAdjacentOrdered_int a0 (iAdd .i64 a1 (iMul .i64 (iQuo .i64 (iSub .i64 a2 a1) 4) 2)) (some ad1) fun r9 =>
          m_slices_medianAdjacentOrdered_int a0 (iAdd .i64 a1 (iMul .i64 (iQuo .i64 (iSub .i64 a2 a1) 4) 3)) (some ad1) fun r10 =>
          j6 (r8, r9, r10)
          ) (
          j6 ((iAdd .i64 a1 (iMul .i64 (iQuo .i64 (iSub .i64 a2 a1) 4) 1)), (iAdd .i64 a1 (iMul .i64 (iQuo .i64 (iSub .i64 a2 a1) 4) 2)), (iAdd .i64 a1 (iMul .i64 (iQuo .i64 (iSub .i64 a2 a1) 4) 3)))
          )
        )
      ) (
      j3 (iAdd .i64 a1 (iMul .i64 (iQuo .i64 (iSub .i64 a2 a1) 4) 2))
      )
    )
def x_slices_choosePivotOrdered_int : Cx Try.prog := ⟨tys, [s_slices_medianAdjacentOrdered_int, s_slices_medianOrdered_int], [], [], mixed⟩
def h_slices_choosePivotOrdered_int : Hint := (.seq .d (.seq .d (.seq .d (.seq .d (.seq .d (.seq .d (.join [.slot 11 (tInt .i64)] 562947805944832 [] (.seq .d (.cond (.join [.slot 10 (tInt .i64), .slot 11 (tInt .i64), .slot 12 (tInt .i64)] 17583596116992 [] .d .d) .d)) .d)))))))
theorem w_slices_choosePivotOrdered_int : ∀ (a : Den [tSl, (tInt .i64), (tInt .i64)]) (K : Den [(tInt .i64), (tInt .i64)] → HP) (h : H), m_slices_choosePivotOrdered_int a.1 a.2.1 a.2.2 K h = wpF x_slices_choosePivotOrdered_int Try.f129 [tSl, (tInt .i64), (tInt .i64)] [(tInt .i64), (tInt .i64)] h_slices_choosePivotOrdered_int a K h := fun a K h => by kernel_rfl
def s_slices_choosePivotOrdered_int : Spec Try.prog := mkSpec x_slices_choosePivotOrdered_int 129 Try.f129 [tSl, (tInt .i64), (tInt .i64)] [(tInt .i64), (tInt .i64)] false h_slices_choosePivotOrdered_int (fun a => m_slices_choosePivotOrdered_int a.1 a.2.1 a.2.2) w_slices_choosePivotOrdered_int callee129 rfl
/-! slices.reverseRangeOrdered[int] -/
def m_slices_reverseRangeOrdered_int (a0 : Sl) (a1 : Int) (a2 : Int) (K : (Unit) → H → Prop) : H → Prop :=
  mLoop (fun (rec2 : (Int × Int) → H → Prop) (s1 : Int × Int) =>
    mIf (decide (s1.1 < s1.2)) (
      mIdx a0 s1.2 1 fun ad3 =>
      mIdx a0 s1.1 1 fun ad4 =>
      mLoad (cInt .i64) ad3 fun x5 =>
      mLoad (cInt .i64) ad4 fun x6 =>
      mIdx a0 s1.1 1 fun ad7 =>
      mStore ad7 [(Value.int .i64 x5)] <|
      mIdx a0 s1.2 1 fun ad8 =>
      mStore ad8 [(Value.int .i64 x6)] <|
      rec2 ((iAdd .i64 s1.1 1), (iSub .i64 s1.2 1))
      ) (
      K ()
      )
    ) (a1, (iSub .i64 a2 1))
def x_slices_reverseRangeOrdered_int : Cx Try.prog := ⟨tys, [], [], [], mixed⟩
def h_slices_reverseRangeOrdered_int : Hint := (.seq .d (.seq .d (.blk (.loop [.slot 6 (tInt .i64), .slot 7 (tInt .i64)] 4294965440 [] (.seq .d (.blk (.seq (.reg (.run [0, 4, 8, 12, 16, 20, 24, 32, 36, 40, 30, 46, 48, 55, 56, 63] .nil)) .d)))))))
theorem w_slices_reverseRangeOrdered_int : ∀ (a : Den [tSl, (tInt .i64), (tInt .i64)]) (K : Den [] → HP) (h : H), m_slices_reverseRangeOrdered_int a.1 a.2.1 a.2.2 K h = wpF x_slices_reverseRangeOrdered_int Try.f130 [tSl, (tInt .i64), (tInt .i64)] [] h_slices_reverseRangeOrdered_int a K h := fun a K h => by kernel_rfl
def s_slices_reverseRangeOrdered_int : Spec Try.prog := mkSpec x_slices_reverseRangeOrdered_int 130 Try.f130 [tSl, (tInt .i64), (tInt .i64)] [] false h_slices_reverseRangeOrdered_int (fun a => m_slices_reverseRangeOrdered_int a.1 a.2.1 a.2.2) w_slices_reverseRangeOrdered_int callee130 rfl
/-! slices.partialInsertionSortOrdered[int] -/
def m_slices_partialInsertionSortOrdered_int (a0 : Sl) (a1 : Int) (a2 : Int) (K : (Bool) → H → Prop) : H → Prop :=
  mLoop (fun (rec2 : (Int × Int) → H → Prop) (s1 : Int × Int) =>
    mIf (decide (s1.2 < 5)) (
      mLoop (fun (rec4 : Int → H → Prop) (s3 : Int) =>
        mJoin (fun (s10 : Bool) =>
          mIf s10 (
            rec4 (iAdd .i64 s3 1)
            ) (
            mIf (decide (s3 = a2)) (
              K true
              ) (
              mIf (decide ((iSub .i64 a2 a1) < 50)) (
                K false
                ) (
                mIdx a0 (iSub .i64 s3 1) 1 fun ad12 =>
                mIdx a0 s3 1 fun ad13 =>
                mLoad (cInt .i64) ad12 fun x14 =>
                mLoad (cInt .i64) ad13 fun x15 =>
                mIdx a0 s3 1 fun ad16 =>
                mStore ad16 [(Value.int .i64 x14)] <|
                mIdx a0 (iSub .i64 s3 1) 1 fun ad17 =>
                mStore ad17 [(Value.int .i64 x15)] <|
                mJoin (fun (_s18 : Unit) =>
                  mIf (decide (2 ≤ (iSub .i64 a2 s3))) (
                    mLoop (fun (rec21 : Int → H → Prop) (s20 : Int) =>
                      mIf (decide (s20 < a2)) (
                        mIdx a0 s20 1 fun ad22 =>
                        mIdx a0 (iSub .i64 s20 1) 1 fun ad23 =>
                        mLoad (cInt .i64) ad22 fun x24 =>
                        mLoad (cInt .i64) ad23 fun x25 =>
                        mPure (m_cmp_Less_int x24 x25) fun r26 =>
                        mIf (!r26) (
                          rec2 (s3, (iAdd .i64 s1.2 1))
                          ) (
                          mIdx a0 (iSub .i64 s20 1) 1 fun ad27 =>
                          mIdx a0 s20 1 fun ad28 =>
                          mLoad (cInt .i64) ad27 fun x29 =>
                          mLoad (cInt .i64) ad28 fun x30 =>
                          mIdx a0 s20 1 fun ad31 =>
                          mStore ad31 [(Value.int .i64 x29)] <|
                          mIdx a0 (iSub .i64 s20 1) 1 fun ad32 =>
                          mStore ad32 [(Value.int .i64 x30)] <|
                          rec21 (iAdd .i64 s20 1)
                          )
                        ) (
                        rec2 (s3, (iAdd .i64 s1.2 1))
                        )
                      ) (iAdd .i64 s3 1)
                    ) (
                    rec2 (s3, (iAdd .i64 s1.2 1))
                    )
                  ) (fun j19 =>
                  mIf (decide (2 ≤ (iSub .i64 s3 a1))) (
                    mLoop (fun (rec34 : Int → H → Prop) (s33 : Int) =>
                      mIf (decide (1 ≤ s33)) (
                        mIdx a0 s33 1 fun ad35 =>
                        mIdx a0 (iSub .i64 s33 1) 1 fun ad36 =>
                        mLoad (cInt .i64) ad35 fun x37 =>
                        mLoad (cInt .i64) ad36 fun x38 =>
                        mPure (m_cmp_Less_int x37 x38) fun r39 =>
                        mIf (!r39) (
                          j19 ()
                          ) (
                          mIdx a0 (iSub .i64 s33 1) 1 fun ad40 =>
                          mIdx a0 s33 1 fun ad41 =>
                          mLoad (cInt .i64) ad40 fun x42 =>
                          mLoad (cInt .i64) ad41 fun x43 =>
                          mIdx a0 s33 1 fun ad44 =>
                          mStore ad44 [(Value.int .i64 x42)] <|
                          mIdx a0 (iSub .i64 s33 1) 1 fun ad45 =>
                          mStore ad45 [(Value.int .i64 x43)] <|
                          rec34 (iSub .i64 s33 1)
                          )
                        ) (
                        j19 ()
                        )
                      ) (iSub .i64 s3 1)
                    ) (
                    j19 ()
                    )
                  )
                )
              )
            )
          ) (fun j11 =>
          mIf (decide (s3 < a2)) (
            mIdx a0 s3 1 fun ad46 =>
            mIdx a0 (iSub .i64 s3 1) 1 fun ad47 =>
            mLoad (cInt .i64) ad46 fun x48 =>
            mLoad (cInt .i64) ad47 fun x49 =>
            mPure (m_cmp_Less_int x48 x49) fun r50 =>
            j11 (!r50)
            ) (
            j11 false
            ))
        ) s1.1
      ) (
      K false
      )
    ) ((iAdd .i64 a1 1), 0)
def x_slices_partialInsertionSortOrdered_int : Cx Try.prog := ⟨tys, [s_cmp_Less_int], [], [], mixed⟩
def h_slices_partialInsertionSortOrdered_int : Hint := (.seq .d (.seq .d (.seq (.seq .d (.blk (.loop [.slot 7 (tInt .i64), .slot 8 (tInt .i64)] 10889035741470030830827987437816582760384 [] (.seq .d (.seq (.blk (.seq (.blk (.loop [.slot 7 (tInt .i64)] 34359607424 [] (.seq (.seq (.reg (.run [0, 4, 8, 12] (.join [.slot 32 tBool] 8587837440 [] (.split 20 (.run [16, 20, 24, 32, 36, 40, 44, 30, 50, 52, 56, 60] .nil) (.run [16, 20, 24, 28, 32, 36, 40, 44, 48, 52, 56, 60] .nil)) .nil))) .d) .d))) (.seq .d (.seq .d (.seq (.reg (.run [0, 4, 8, 12, 16, 20, 24, 28, 32, 40, 44, 48, 38, 54, 56, 63, 64, 71] .nil)) (.join [] 39614081256843938420620263936 [] (.seq .d (.cond (.seq .d (.blk (.loop [.slot 9 (tInt .i64)] 39614081238685424723062424064 [] (.seq .d (.seq (.blk (.seq (.seq (.reg (.run [0, 4, 8, 16, 20, 24, 28, 14, 34, 36, 40] .nil)) .d) (.reg (.run [0, 4, 8, 12, 16, 20, 24, 28, 32, 40, 44, 48, 38, 54, 56, 63, 64, 71] .nil)))) .d))))) .d)) (.seq .d (.cond (.seq .d (.blk (.loop [.slot 10 (tInt .i64)] 10889035738934729630371528634823176356864 [] (.seq .d (.seq (.blk (.seq (.seq (.reg (.run [0, 4, 8, 16, 20, 24, 28, 14, 34, 36, 40] .nil)) .d) (.reg (.run [0, 4, 8, 12, 16, 20, 24, 28, 32, 40, 44, 48, 38, 54, 56, 63, 64, 71] .nil)))) .d))))) .d)))))))) .d))))) .d)))
theorem w_slices_partialInsertionSortOrdered_int : ∀ (a : Den [tSl, (tInt .i64), (tInt .i64)]) (K : Den [tBool] → HP) (h : H), m_slices_partialInsertionSortOrdered_int a.1 a.2.1 a.2.2 K h = wpF x_slices_partialInsertionSortOrdered_int Try.f131 [tSl, (tInt .i64), (tInt .i64)] [tBool] h_slices_partialInsertionSortOrdered_int a K h := fun a K h => by kernel_rfl
def s_slices_partialInsertionSortOrdered_int : Spec Try.prog := mkSpec x_slices_partialInsertionSortOrdered_int 131 Try.f131 [tSl, (tInt .i64), (tInt .i64)] [tBool] false h_slices_partialInsertionSortOrdered_int (fun a => m_slices_partialInsertionSortOrdered_int a.1 a.2.1 a.2.2) w_slices_partialInsertionSortOrdered_int callee131 rfl
/-! slices.partitionEqualOrdered[int] -/
def m_slices_partitionEqualOrdered_int (a0 : Sl) (a1 : Int) (a2 : Int) (a3 : Int) (K : (Int) → H → Prop) : H → Prop :=
  mIdx a0 a3 1 fun ad1 =>
  mIdx a0 a1 1 fun ad2 =>
  mLoad (cInt .i64) ad1 fun x3 =>
  mLoad (cInt .i64) ad2 fun x4 =>
  mIdx a0 a1 1 fun ad5 =>
  mStore ad5 [(Value.int .i64 x3)] <|
  mIdx a0 a3 1 fun ad6 =>
  mStore ad6 [(Value.int .i64 x4)] <|
  mLoop (fun (rec8 : (Int × Int) → H → Prop) (s7 : Int × Int) =>
    mLoop (fun (rec10 : Int → H → Prop) (s9 : Int) =>
      mJoin (fun (s16 : Bool) =>
        mIf s16 (
          rec10 (iAdd .i64 s9 1)
          ) (
          mLoop (fun (rec19 : Int → H → Prop) (s18 : Int) =>
            mJoin (fun (s25 : Bool) =>
              mIf s25 (
                rec19 (iSub .i64 s18 1)
                ) (
                mIf (decide (s18 < s9)) (
                  K s9
                  ) (
                  mIdx a0 s18 1 fun ad27 =>
                  mIdx a0 s9 1 fun ad28 =>
                  mLoad (cInt .i64) ad27 fun x29 =>
                  mLoad (cInt .i64) ad28 fun x30 =>
                  mIdx a0 s9 1 fun ad31 =>
                  mStore ad31 [(Value.int .i64 x29)] <|
                  mIdx a0 s18 1 fun ad32 =>
                  mStore ad32 [(Value.int .i64 x30)] <|
                  rec8 ((iAdd .i64 s9 1), (iSub .i64 s18 1))
                  )
                )
              ) (fun j26 =>
              mIf (decide (s9 ≤ s18)) (
                mIdx a0 a1 1 fun ad33 =>
                mIdx a0 s18 1 fun ad34 =>
                mLoad (cInt .i64) ad33 fun x35 =>
                mLoad (cInt .i64) ad34 fun x36 =>
                mPure (m_cmp_Less_int x35 x36) fun r37 =>
                j26 r37
                ) (
                j26 false
                ))
            ) s7.2
          )
        ) (fun j17 =>
        mIf (decide (s9 ≤ s7.2)) (
          mIdx a0 a1 1 fun ad38 =>
          mIdx a0 s9 1 fun ad39 =>
          mLoad (cInt .i64) ad38 fun x40 =>
          mLoad (cInt .i64) ad39 fun x41 =>
          mPure (m_cmp_Less_int x40 x41) fun r42 =>
          j17 (!r42)
          ) (
          j17 false
          ))
      ) s7.1
    ) ((iAdd .i64 a1 1), (iSub .i64 a2 1))
def x_slices_partitionEqualOrdered_int : Cx Try.prog := ⟨tys, [s_cmp_Less_int], [], [], mixed⟩
def h_slices_partitionEqualOrdered_int : Hint := (.seq .d (.seq (.reg (.run [0, 4, 8, 12, 16, 20, 24, 32, 36, 40, 30, 46, 48, 55, 56, 63] .nil)) (.seq .d (.seq (.blk (.loop [.slot 9 (tInt .i64), .slot 10 (tInt .i64)] 9671406556917032860780032 [] (.blk (.seq (.blk (.loop [.slot 9 (tInt .i64)] 70368207307264 [] (.seq (.seq (.reg (.run [0, 4, 8, 12] (.join [.slot 43 tBool] 17583596109824 [] (.split 32 (.run [16, 20, 24, 32, 36, 40, 30, 46, 48, 52, 56] .nil) (.run [16, 20, 24, 28, 32, 36, 40, 44, 48, 52, 56] .nil)) .nil))) .d) .d))) (.seq (.blk (.loop [.slot 10 (tInt .i64)] 4611615649683211264 [] (.seq (.seq (.reg (.run [0, 4, 8, 12] (.join [.slot 59 tBool] 1151795604700004352 [] (.split 49 (.run [16, 20, 24, 32, 36, 40, 30, 46, 48, 52] .nil) (.run [16, 20, 24, 28, 32, 36, 40, 44, 48, 52] .nil)) .nil))) .d) .d))) (.seq .d (.seq (.reg (.run [0, 4, 8, 12, 16, 20, 24, 32, 36, 40, 30, 46, 48, 55, 56, 63] .nil)) .d))))))) .d))))
theorem w_slices_partitionEqualOrdered_int : ∀ (a : Den [tSl, (tInt .i64), (tInt .i64), (tInt .i64)]) (K : Den [(tInt .i64)] → HP) (h : H), m_slices_partitionEqualOrdered_int a.1 a.2.1 a.2.2.1 a.2.2.2 K h = wpF x_slices_partitionEqualOrdered_int Try.f133 [tSl, (tInt .i64), (tInt .i64), (tInt .i64)] [(tInt .i64)] h_slices_partitionEqualOrdered_int a K h := fun a K h => by kernel_rfl
def s_slices_partitionEqualOrdered_int : Spec Try.prog := mkSpec x_slices_partitionEqualOrdered_int 133 Try.f133 [tSl, (tInt .i64), (tInt .i64), (tInt .i64)] [(tInt .i64)] false h_slices_partitionEqualOrdered_int (fun a => m_slices_partitionEqualOrdered_int a.1 a.2.1 a.2.2.1 a.2.2.2) w_slices_partitionEqualOrdered_int callee133 rfl
end Go.Proofs.Yteeaelemfalkbaa.K
