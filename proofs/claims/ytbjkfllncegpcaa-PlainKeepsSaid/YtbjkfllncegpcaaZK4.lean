/- plainKeeps: true at every input, the arguments as they were: no condition. Part 4 of 6. -/
import Derived.Test.YtbjkfllncegpcaaZK3
namespace Go.Proofs.Ytbjkfllncegpcaa.K
open Go Go.Proofs
def m_plain_within (a0 : Int) (a1 : Int) (a2 : Int) (K : (Bool) → H → Prop) : H → Prop :=
 K ((decide (a1 ≤ a0)) && (decide (a0 ≤ a2)))
def x_plain_within : Cx Try.prog := ⟨tys, [], [], [], mixed⟩
def h_plain_within : Hint := (.seq .d (.seq (.reg (.run [3, 7, 11, 15] (.sel 10 14 30720 (.run [19, 23, 27, 31] .nil) (.run [19, 23, 27, 31] .nil) (.run [35] .nil)))) .d))
def s_plain_within : Spec Try.prog := mkSpec x_plain_within 170 Try.f170 [(tInt .i64), (tInt .i64), (tInt .i64)] [tBool] true h_plain_within (fun a => m_plain_within a.1 a.2.1 a.2.2) (fun a K h => by kernel_rfl) callee170 rfl
def m_plain_may (a0 : S_api_Config) (K : (Bool) → H → Prop) : H → Prop :=
 mPure (m_plain_within a0.Width 1 128) fun r1 =>
 mJoin (fun (s3 : Bool) =>
 mJoin (fun (s6 : Bool) =>
 mJoin (fun (s9 : Bool) =>
 mJoin (fun (s12 : Bool) =>
 mJoin (fun (s15 : Bool) =>
 mJoin (fun (s18 : Bool) =>
 mJoin (fun (s21 : Bool) =>
 mJoin (fun (s24 : Bool) =>
 mIf s24 (
 mPure (m_plain_within a0.Knob 0 64) fun r27 =>
 K r27
 ) (
 K false
 )
 ) (fun j25 =>
 mIf s21 (
 mPure (m_plain_within a0.Ways 1 4) fun r28 =>
 j25 r28
 ) (
 j25 false
 ))
 ) (fun j22 =>
 mIf s18 (
 mPure (m_plain_within a0.Sets 0 16) fun r29 =>
 j22 r29
 ) (
 j22 false
 ))
 ) (fun j19 =>
 mIf s15 (
 mPure (m_plain_within a0.List 1 32) fun r30 =>
 j19 r30
 ) (
 j19 false
 ))
 ) (fun j16 =>
 mIf s12 (
 mPure (m_plain_within a0.Procs 1 32) fun r31 =>
 j16 r31
 ) (
 j16 false
 ))
 ) (fun j13 =>
 mIf s9 (
 mPure (m_plain_within a0.Quota 1 256) fun r32 =>
 j13 r32
 ) (
 j13 false
 ))
 ) (fun j10 =>
 mIf s6 (
 mPure (m_plain_within a0.Entries 1 256) fun r33 =>
 j10 r33
 ) (
 j10 false
 ))
 ) (fun j7 =>
 mIf s3 (
 mPure (m_plain_within a0.Pages 1 256) fun r34 =>
 j7 r34
 ) (
 j7 false
 ))
 ) (fun j4 =>
 mIf r1 (
 mPure (m_plain_within a0.Objects 1 64) fun r35 =>
 j4 r35
 ) (
 j4 false
 ))
def x_plain_may : Cx Try.prog := ⟨tys, [s_plain_within], [1], [], mixed⟩
def h_plain_may : Hint := (.seq .d (.seq (.reg (.run [3, 7, 11, 15] (.join [.slot 10 tBool] 1920 [] (.split 6 (.run [19, 23, 27, 31] .nil) (.run [19, 23, 27, 31] .nil)) (.run [35] (.join [.slot 15 tBool] 61440 [] (.split 11 (.run [39, 43, 47, 51] .nil) (.run [39, 43, 47, 51] .nil)) (.run [55] (.join [.slot 20 tBool] 1966080 [] (.split 16 (.run [59, 63, 67, 71] .nil) (.run [59, 63, 67, 71] .nil)) (.run [75] (.join [.slot 25 tBool] 62914560 [] (.split 21 (.run [79, 83, 87, 91] .nil) (.run [79, 83, 87, 91] .nil)) (.run [95] (.join [.slot 30 tBool] 2013265920 [] (.split 26 (.run [99, 103, 107, 111] .nil) (.run [99, 103, 107, 111] .nil)) (.run [115] (.join [.slot 35 tBool] 64424509440 [] (.split 31 (.run [119, 123, 127, 131] .nil) (.run [119, 123, 127, 131] .nil)) (.run [135] (.join [.slot 40 tBool] 2061584302080 [] (.split 36 (.run [139, 143, 147, 151] .nil) (.run [139, 143, 147, 151] .nil)) (.run [155] (.join [.slot 45 tBool] 65970697666560 [] (.split 41 (.run [159, 163, 167, 171] .nil) (.run [159, 163, 167, 171] .nil)) (.run [175] (.split 46 (.run [179, 183, 187, 191, 195] .nil) (.run [179, 183, 187, 191, 195] .nil)))))))))))))))))))) .d))
def s_plain_may : Spec Try.prog := mkSpec x_plain_may 107 Try.f107 [S_api_Config.ty] [tBool] true h_plain_may (fun a => m_plain_may a) (fun a K h => by kernel_rfl) callee107 rfl
def m_plain_New (a0 : S_api_Config) (a1 : Sl) (K : (Option Addr × Int) → H → Prop) : H → Prop :=
 mPure (m_plain_may a0) fun r1 =>
 mIf (!r1) (
 K (none, 16)
 ) (
 mIf (decide (4096 < (a1.len : Int))) (
 K (none, 23)
 ) (
 mJoin (fun (s2 : Sl × Option Nat × Option Nat) =>
 mNew 173 #[(Value.int .i64 a0.Width), (Value.int .i64 a0.Objects), (Value.int .i64 a0.Pages), (Value.int .i64 a0.Entries), (Value.int .i64 a0.Quota), (Value.int .i64 a0.Procs), (Value.int .i64 a0.List), (Value.int .i64 a0.Sets), (Value.int .i64 a0.Ways), (Value.int .i64 a0.Knob), (Sl.val s2.1), (Value.int .i64 0), (Value.map s2.2.1), (Sl.val Sl.nil), (Value.int .i64 0), (Value.map s2.2.2), (Value.int .i64 1), (Value.int .i64 1)] fun ad25 =>
 K ((some ad25), 0)
 ) (fun j3 =>
 mBoth (
 m_slices_Clone_api_Word_api_Word a1 fun r4 =>
 mMakeMap fun m5 =>
 mBoth (
 mMakeMap fun m6 =>
 mMapSet (eqV Try.prog 40 3) m5 (Value.int .i64 0) (Sl.val Sl.nil) <|
 j3 (r4, m6, m5)
 ) (
 mMapSet (eqV Try.prog 40 3) m5 (Value.int .i64 0) (Sl.val Sl.nil) <|
 mMakeMap fun m7 =>
 j3 (r4, m7, m5)
 )
 ) (
 mBoth (
 mMakeMap fun m8 =>
 mBoth (
 m_slices_Clone_api_Word_api_Word a1 fun r9 =>
 mMakeMap fun m10 =>
 mMapSet (eqV Try.prog 40 3) m10 (Value.int .i64 0) (Sl.val Sl.nil) <|
 j3 (r9, m8, m10)
 ) (
 mMakeMap fun m11 =>
 mBoth (
 m_slices_Clone_api_Word_api_Word a1 fun r12 =>
 mMapSet (eqV Try.prog 40 3) m11 (Value.int .i64 0) (Sl.val Sl.nil) <|
 j3 (r12, m8, m11)
 ) (
 mMapSet (eqV Try.prog 40 3) m11 (Value.int .i64 0) (Sl.val Sl.nil) <|
 m_slices_Clone_api_Word_api_Word a1 fun r13 =>
 j3 (r13, m8, m11)
 )
 )
 ) (
 mMakeMap fun m14 =>
 mBoth (
 m_slices_Clone_api_Word_api_Word a1 fun r15 =>
 mBoth (
 mMakeMap fun m16 =>
 mMapSet (eqV Try.prog 40 3) m14 (Value.int .i64 0) (Sl.val Sl.nil) <|
 j3 (r15, m16, m14)
 ) (
 mMapSet (eqV Try.prog 40 3) m14 (Value.int .i64 0) (Sl.val Sl.nil) <|
 mMakeMap fun m17 =>
 j3 (r15, m17, m14)
 )
 ) (
 mBoth (
 mMakeMap fun m18 =>
 mBoth (
 m_slices_Clone_api_Word_api_Word a1 fun r19 =>
 mMapSet (eqV Try.prog 40 3) m14 (Value.int .i64 0) (Sl.val Sl.nil) <|
 j3 (r19, m18, m14)
 ) (
 mMapSet (eqV Try.prog 40 3) m14 (Value.int .i64 0) (Sl.val Sl.nil) <|
 m_slices_Clone_api_Word_api_Word a1 fun r20 =>
 j3 (r20, m18, m14)
 )
 ) (
 mMapSet (eqV Try.prog 40 3) m14 (Value.int .i64 0) (Sl.val Sl.nil) <|
 mBoth (
 m_slices_Clone_api_Word_api_Word a1 fun r21 =>
 mMakeMap fun m22 =>
 j3 (r21, m22, m14)
 ) (
 mMakeMap fun m23 =>
 m_slices_Clone_api_Word_api_Word a1 fun r24 =>
 j3 (r24, m23, m14)
 )
 )
 )
 )
 ))
 )
 )
def x_plain_New : Cx Try.prog := ⟨tys, [s_plain_may, s_slices_Clone_api_Word_api_Word], [2], [], mixed⟩
def h_plain_New : Hint := (.seq .d (.seq .d (.seq (.reg (.run [4, 1] (.join [.slot 16 tSl, .slot 17 tMap, .slot 19 tMap] 983040 [] (.alt 2 (.run [18] (.both 3 5 (.run [23, 24] .nil) (.run [24, 14] .nil))) (.both 3 4 (.both 2 4 (.run [18, 23, 24] .nil) (.both 2 5 (.run [23, 24] .nil) (.run [24, 11] .nil))) (.alt 2 (.both 3 5 (.run [23, 24] .nil) (.run [24, 14] .nil)) (.both 3 5 (.both 2 5 (.run [23, 24] .nil) (.run [24, 11] .nil)) (.run [24] (.both 2 3 (.run [14] .nil) (.run [11] .nil))))))) (.run [28, 34, 36, 40] .nil)))) .d)))
def s_plain_New : Spec Try.prog := mkSpec x_plain_New 33 Try.f33 [S_api_Config.ty, tSl] [tPtr, (tInt .i64)] false h_plain_New (fun a => m_plain_New a.1 a.2) (fun a K h => by kernel_rfl) callee33 rfl
def m_plain_used (a0 : S_api_Call) (K : (S_api_Call) → H → Prop) : H → Prop :=
 mJoin (fun (s1 : Int × Int × Int × Int × Int × Int × Bool × Int × Int × Int × Sl × Int × Sl) =>
 K (⟨s1.1, s1.2.1, s1.2.2.1, ⟨s1.2.2.2.1, ⟨s1.2.2.2.2.1, s1.2.2.2.2.2.1⟩⟩, s1.2.2.2.2.2.2.1, s1.2.2.2.2.2.2.2.1, s1.2.2.2.2.2.2.2.2.1, s1.2.2.2.2.2.2.2.2.2.1, s1.2.2.2.2.2.2.2.2.2.2.1, s1.2.2.2.2.2.2.2.2.2.2.2.1, s1.2.2.2.2.2.2.2.2.2.2.2.2⟩ : S_api_Call)
 ) (fun j2 =>
 mIf (decide (a0.Op = 1)) (
 j2 (a0.Op, a0.By, a0.Size, 0, 0, 0, false, 0, 0, 0, Sl.nil, 0, Sl.nil)
 ) (
 mJoin (fun (s3 : Bool) =>
 mIf s3 (
 j2 (a0.Op, a0.By, 0, a0.Cap.Obj, a0.Cap.Pass.Hi, a0.Cap.Pass.Lo, false, 0, 0, 0, Sl.nil, 0, Sl.nil)
 ) (
 mIf (decide (a0.Op = 3)) (
 mJoin (fun (s5 : Int × Int × Int × Int × Int × Int × Int × Bool × Int × Int × Int × Sl × Int × Sl) =>
 j2 (s5.2.1, s5.2.2.1, s5.2.2.2.1, s5.2.2.2.2.1, s5.2.2.2.2.2.1, s5.2.2.2.2.2.2.1, s5.2.2.2.2.2.2.2.1, s5.1, s5.2.2.2.2.2.2.2.2.2.1, s5.2.2.2.2.2.2.2.2.2.2.1, s5.2.2.2.2.2.2.2.2.2.2.2.1, s5.2.2.2.2.2.2.2.2.2.2.2.2.1, s5.2.2.2.2.2.2.2.2.2.2.2.2.2)
 ) (fun j6 =>
 mBoth (
 j6 (a0.Rights, a0.Op, a0.By, 0, a0.Cap.Obj, a0.Cap.Pass.Hi, a0.Cap.Pass.Lo, false, 0, 0, 0, Sl.nil, 0, Sl.nil)
 ) (
 j6 (a0.Rights, a0.Op, a0.By, 0, a0.Cap.Obj, a0.Cap.Pass.Hi, a0.Cap.Pass.Lo, false, 0, 0, 0, Sl.nil, 0, Sl.nil)
 ))
 ) (
 mIf (decide (a0.Op = 5)) (
 mJoin (fun (s7 : Int × Int × Int × Int × Int × Int × Int × Bool × Int × Int × Int × Sl × Int × Sl) =>
 j2 (s7.2.1, s7.2.2.1, s7.2.2.2.1, s7.2.2.2.2.1, s7.2.2.2.2.2.1, s7.2.2.2.2.2.2.1, s7.2.2.2.2.2.2.2.1, s7.2.2.2.2.2.2.2.2.1, s7.2.2.2.2.2.2.2.2.2.1, s7.1, s7.2.2.2.2.2.2.2.2.2.2.2.1, s7.2.2.2.2.2.2.2.2.2.2.2.2.1, s7.2.2.2.2.2.2.2.2.2.2.2.2.2)
 ) (fun j8 =>
 mBoth (
 mBoth (
 mBoth (
 j8 (a0.N, a0.Op, a0.By, 0, a0.Cap.Obj, a0.Cap.Pass.Hi, a0.Cap.Pass.Lo, a0.Given, 0, a0.Off, 0, Sl.nil, 0, Sl.nil)
 ) (
 mBoth (
 j8 (a0.N, a0.Op, a0.By, 0, a0.Cap.Obj, a0.Cap.Pass.Hi, a0.Cap.Pass.Lo, a0.Given, 0, a0.Off, 0, Sl.nil, 0, Sl.nil)
 ) (
 mBoth (
 j8 (a0.N, a0.Op, a0.By, 0, a0.Cap.Obj, a0.Cap.Pass.Hi, a0.Cap.Pass.Lo, a0.Given, 0, a0.Off, 0, Sl.nil, 0, Sl.nil)
 ) (
 j8 (a0.N, a0.Op, a0.By, 0, a0.Cap.Obj, a0.Cap.Pass.Hi, a0.Cap.Pass.Lo, a0.Given, 0, a0.Off, 0, Sl.nil, 0, Sl.nil)
 )
 )
 )
 ) (
 mBoth (
 mBoth (
 j8 (a0.N, a0.Op, a0.By, 0, a0.Cap.Obj, a0.Cap.Pass.Hi, a0.Cap.Pass.Lo, a0.Given, 0, a0.Off, 0, Sl.nil, 0, Sl.nil)
 ) (
 mBoth (
 j8 (a0.N, a0.Op, a0.By, 0, a0.Cap.Obj, a0.Cap.Pass.Hi, a0.Cap.Pass.Lo, a0.Given, 0, a0.Off, 0, Sl.nil, 0, Sl.nil)
 ) (
 j8 (a0.N, a0.Op, a0.By, 0, a0.Cap.Obj, a0.Cap.Pass.Hi, a0.Cap.Pass.Lo, a0.Given, 0, a0.Off, 0, Sl.nil, 0, Sl.nil)
 )
 )
 ) (
 mBoth (
 mBoth (
 j8 (a0.N, a0.Op, a0.By, 0, a0.Cap.Obj, a0.Cap.Pass.Hi, a0.Cap.Pass.Lo, a0.Given, 0, a0.Off, 0, Sl.nil, 0, Sl.nil)
 ) (
 mBoth (
 j8 (a0.N, a0.Op, a0.By, 0, a0.Cap.Obj, a0.Cap.Pass.Hi, a0.Cap.Pass.Lo, a0.Given, 0, a0.Off, 0, Sl.nil, 0, Sl.nil)
 ) (
 j8 (a0.N, a0.Op, a0.By, 0, a0.Cap.Obj, a0.Cap.Pass.Hi, a0.Cap.Pass.Lo, a0.Given, 0, a0.Off, 0, Sl.nil, 0, Sl.nil)
 )
 )
 ) (
 mBoth (
 mBoth (
 j8 (a0.N, a0.Op, a0.By, 0, a0.Cap.Obj, a0.Cap.Pass.Hi, a0.Cap.Pass.Lo, a0.Given, 0, a0.Off, 0, Sl.nil, 0, Sl.nil)
 ) (
 j8 (a0.N, a0.Op, a0.By, 0, a0.Cap.Obj, a0.Cap.Pass.Hi, a0.Cap.Pass.Lo, a0.Given, 0, a0.Off, 0, Sl.nil, 0, Sl.nil)
 )
 ) (
 mBoth (
 j8 (a0.N, a0.Op, a0.By, 0, a0.Cap.Obj, a0.Cap.Pass.Hi, a0.Cap.Pass.Lo, a0.Given, 0, a0.Off, 0, Sl.nil, 0, Sl.nil)
 ) (
 j8 (a0.N, a0.Op, a0.By, 0, a0.Cap.Obj, a0.Cap.Pass.Hi, a0.Cap.Pass.Lo, a0.Given, 0, a0.Off, 0, Sl.nil, 0, Sl.nil)
 )
 )
 )
 )
 )
 ) (
 mBoth (
 mBoth (
 mBoth (
 j8 (a0.N, a0.Op, a0.By, 0, a0.Cap.Obj, a0.Cap.Pass.Hi, a0.Cap.Pass.Lo, a0.Given, 0, a0.Off, 0, Sl.nil, 0, Sl.nil)
 ) (
 mBoth (
 j8 (a0.N, a0.Op, a0.By, 0, a0.Cap.Obj, a0.Cap.Pass.Hi, a0.Cap.Pass.Lo, a0.Given, 0, a0.Off, 0, Sl.nil, 0, Sl.nil)
 ) (
 mBoth (
 j8 (a0.N, a0.Op, a0.By, 0, a0.Cap.Obj, a0.Cap.Pass.Hi, a0.Cap.Pass.Lo, a0.Given, 0, a0.Off, 0, Sl.nil, 0, Sl.nil)
 ) (
 j8 (a0.N, a0.Op, a0.By, 0, a0.Cap.Obj, a0.Cap.Pass.Hi, a0.Cap.Pass.Lo, a0.Given, 0, a0.Off, 0, Sl.nil, 0, Sl.nil)
 )
 )
 )
 ) (
 mBoth (
 mBoth (
 j8 (a0.N, a0.Op, a0.By, 0, a0.Cap.Obj, a0.Cap.Pass.Hi, a0.Cap.Pass.Lo, a0.Given, 0, a0.Off, 0, Sl.nil, 0, Sl.nil)
 ) (
 j8 (a0.N, a0.Op, a0.By, 0, a0.Cap.Obj, a0.Cap.Pass.Hi, a0.Cap.Pass.Lo, a0.Given, 0, a0.Off, 0, Sl.nil, 0, Sl.nil)
 )
 ) (
 mBoth (
 j8 (a0.N, a0.Op, a0.By, 0, a0.Cap.Obj, a0.Cap.Pass.Hi, a0.Cap.Pass.Lo, a0.Given, 0, a0.Off, 0, Sl.nil, 0, Sl.nil)
 ) (
 mBoth (
 j8 (a0.N, a0.Op, a0.By, 0, a0.Cap.Obj, a0.Cap.Pass.Hi, a0.Cap.Pass.Lo, a0.Given, 0, a0.Off, 0, Sl.nil, 0, Sl.nil)
 ) (
 j8 (a0.N, a0.Op, a0.By, 0, a0.Cap.Obj, a0.Cap.Pass.Hi, a0.Cap.Pass.Lo, a0.Given, 0, a0.Off, 0, Sl.nil, 0, Sl.nil)
 )
 )
 )
 )
 ) (
 mBoth (
 mBoth (
 mBoth (
 j8 (a0.N, a0.Op, a0.By, 0, a0.Cap.Obj, a0.Cap.Pass.Hi, a0.Cap.Pass.Lo, a0.Given, 0, a0.Off, 0, Sl.nil, 0, Sl.nil)
 ) (
 mBoth (
 j8 (a0.N, a0.Op, a0.By, 0, a0.Cap.Obj, a0.Cap.Pass.Hi, a0.Cap.Pass.Lo, a0.Given, 0, a0.Off, 0, Sl.nil, 0, Sl.nil)
 ) (
 j8 (a0.N, a0.Op, a0.By, 0, a0.Cap.Obj, a0.Cap.Pass.Hi, a0.Cap.Pass.Lo, a0.Given, 0, a0.Off, 0, Sl.nil, 0, Sl.nil)
 )
 )
 ) (
 mBoth (
 mBoth (
 j8 (a0.N, a0.Op, a0.By, 0, a0.Cap.Obj, a0.Cap.Pass.Hi, a0.Cap.Pass.Lo, a0.Given, 0, a0.Off, 0, Sl.nil, 0, Sl.nil)
 ) (
 j8 (a0.N, a0.Op, a0.By, 0, a0.Cap.Obj, a0.Cap.Pass.Hi, a0.Cap.Pass.Lo, a0.Given, 0, a0.Off, 0, Sl.nil, 0, Sl.nil)
 )
 ) (
 mBoth (
 j8 (a0.N, a0.Op, a0.By, 0, a0.Cap.Obj, a0.Cap.Pass.Hi, a0.Cap.Pass.Lo, a0.Given, 0, a0.Off, 0, Sl.nil, 0, Sl.nil)
 ) (
 j8 (a0.N, a0.Op, a0.By, 0, a0.Cap.Obj, a0.Cap.Pass.Hi, a0.Cap.Pass.Lo, a0.Given, 0, a0.Off, 0, Sl.nil, 0, Sl.nil)
 )
 )
 )
 ) (
 mBoth (
 mBoth (
 j8 (a0.N, a0.Op, a0.By, 0, a0.Cap.Obj, a0.Cap.Pass.Hi, a0.Cap.Pass.Lo, a0.Given, 0, a0.Off, 0, Sl.nil, 0, Sl.nil)
 ) (
 mBoth (
 j8 (a0.N, a0.Op, a0.By, 0, a0.Cap.Obj, a0.Cap.Pass.Hi, a0.Cap.Pass.Lo, a0.Given, 0, a0.Off, 0, Sl.nil, 0, Sl.nil)
 ) (
 j8 (a0.N, a0.Op, a0.By, 0, a0.Cap.Obj, a0.Cap.Pass.Hi, a0.Cap.Pass.Lo, a0.Given, 0, a0.Off, 0, Sl.nil, 0, Sl.nil)
 )
 )
 ) (
 mBoth (
 mBoth (
 j8 (a0.N, a0.Op, a0.By, 0, a0.Cap.Obj, a0.Cap.Pass.Hi, a0.Cap.Pass.Lo, a0.Given, 0, a0.Off, 0, Sl.nil, 0, Sl.nil)
 ) (
 j8 (a0.N, a0.Op, a0.By, 0, a0.Cap.Obj, a0.Cap.Pass.Hi, a0.Cap.Pass.Lo, a0.Given, 0, a0.Off, 0, Sl.nil, 0, Sl.nil)
 )
 ) (
 mBoth (
 j8 (a0.N, a0.Op, a0.By, 0, a0.Cap.Obj, a0.Cap.Pass.Hi, a0.Cap.Pass.Lo, a0.Given, 0, a0.Off, 0, Sl.nil, 0, Sl.nil)
 ) (
 j8 (a0.N, a0.Op, a0.By, 0, a0.Cap.Obj, a0.Cap.Pass.Hi, a0.Cap.Pass.Lo, a0.Given, 0, a0.Off, 0, Sl.nil, 0, Sl.nil)
 )
 )
 )
 )
 )
 ))
 ) (
 mIf (decide (a0.Op = 6)) (
 mJoin (fun (s9 : Sl × Int × Int × Int × Int × Int × Int × Bool × Int × Int × Int × Sl × Int × Sl) =>
 j2 (s9.2.1, s9.2.2.1, s9.2.2.2.1, s9.2.2.2.2.1, s9.2.2.2.2.2.1, s9.2.2.2.2.2.2.1, s9.2.2.2.2.2.2.2.1, s9.2.2.2.2.2.2.2.2.1, s9.2.2.2.2.2.2.2.2.2.1, s9.2.2.2.2.2.2.2.2.2.2.1, s9.1, s9.2.2.2.2.2.2.2.2.2.2.2.2.1, s9.2.2.2.2.2.2.2.2.2.2.2.2.2)
 ) (fun j10 =>
 mBoth (
 mBoth (
 mBoth (
 j10 (a0.Data, a0.Op, a0.By, 0, a0.Cap.Obj, a0.Cap.Pass.Hi, a0.Cap.Pass.Lo, a0.Given, 0, a0.Off, 0, Sl.nil, 0, Sl.nil)
 ) (
 mBoth (
 j10 (a0.Data, a0.Op, a0.By, 0, a0.Cap.Obj, a0.Cap.Pass.Hi, a0.Cap.Pass.Lo, a0.Given, 0, a0.Off, 0, Sl.nil, 0, Sl.nil)
 ) (
 mBoth (
 j10 (a0.Data, a0.Op, a0.By, 0, a0.Cap.Obj, a0.Cap.Pass.Hi, a0.Cap.Pass.Lo, a0.Given, 0, a0.Off, 0, Sl.nil, 0, Sl.nil)
 ) (
 j10 (a0.Data, a0.Op, a0.By, 0, a0.Cap.Obj, a0.Cap.Pass.Hi, a0.Cap.Pass.Lo, a0.Given, 0, a0.Off, 0, Sl.nil, 0, Sl.nil)
 )
 )
 )
 ) (
 mBoth (
 mBoth (
 j10 (a0.Data, a0.Op, a0.By, 0, a0.Cap.Obj, a0.Cap.Pass.Hi, a0.Cap.Pass.Lo, a0.Given, 0, a0.Off, 0, Sl.nil, 0, Sl.nil)
 ) (
 mBoth (
 j10 (a0.Data, a0.Op, a0.By, 0, a0.Cap.Obj, a0.Cap.Pass.Hi, a0.Cap.Pass.Lo, a0.Given, 0, a0.Off, 0, Sl.nil, 0, Sl.nil)
 ) (
 j10 (a0.Data, a0.Op, a0.By, 0, a0.Cap.Obj, a0.Cap.Pass.Hi, a0.Cap.Pass.Lo, a0.Given, 0, a0.Off, 0, Sl.nil, 0, Sl.nil)
 )
 )
 ) (
 mBoth (
 mBoth (
 j10 (a0.Data, a0.Op, a0.By, 0, a0.Cap.Obj, a0.Cap.Pass.Hi, a0.Cap.Pass.Lo, a0.Given, 0, a0.Off, 0, Sl.nil, 0, Sl.nil)
 ) (
 mBoth (
 j10 (a0.Data, a0.Op, a0.By, 0, a0.Cap.Obj, a0.Cap.Pass.Hi, a0.Cap.Pass.Lo, a0.Given, 0, a0.Off, 0, Sl.nil, 0, Sl.nil)
 ) (
 j10 (a0.Data, a0.Op, a0.By, 0, a0.Cap.Obj, a0.Cap.Pass.Hi, a0.Cap.Pass.Lo, a0.Given, 0, a0.Off, 0, Sl.nil, 0, Sl.nil)
 )
 )
 ) (
 mBoth (
 mBoth (
 j10 (a0.Data, a0.Op, a0.By, 0, a0.Cap.Obj, a0.Cap.Pass.Hi, a0.Cap.Pass.Lo, a0.Given, 0, a0.Off, 0, Sl.nil, 0, Sl.nil)
 ) (
 j10 (a0.Data, a0.Op, a0.By, 0, a0.Cap.Obj, a0.Cap.Pass.Hi, a0.Cap.Pass.Lo, a0.Given, 0, a0.Off, 0, Sl.nil, 0, Sl.nil)
 )
 ) (
 mBoth (
 j10 (a0.Data, a0.Op, a0.By, 0, a0.Cap.Obj, a0.Cap.Pass.Hi, a0.Cap.Pass.Lo, a0.Given, 0, a0.Off, 0, Sl.nil, 0, Sl.nil)
 ) (
 j10 (a0.Data, a0.Op, a0.By, 0, a0.Cap.Obj, a0.Cap.Pass.Hi, a0.Cap.Pass.Lo, a0.Given, 0, a0.Off, 0, Sl.nil, 0, Sl.nil)
 )
 )
 )
 )
 )
 ) (
 mBoth (
 mBoth (
 mBoth (
 j10 (a0.Data, a0.Op, a0.By, 0, a0.Cap.Obj, a0.Cap.Pass.Hi, a0.Cap.Pass.Lo, a0.Given, 0, a0.Off, 0, Sl.nil, 0, Sl.nil)
 ) (
 mBoth (
 j10 (a0.Data, a0.Op, a0.By, 0, a0.Cap.Obj, a0.Cap.Pass.Hi, a0.Cap.Pass.Lo, a0.Given, 0, a0.Off, 0, Sl.nil, 0, Sl.nil)
 ) (
 mBoth (
 j10 (a0.Data, a0.Op, a0.By, 0, a0.Cap.Obj, a0.Cap.Pass.Hi, a0.Cap.Pass.Lo, a0.Given, 0, a0.Off, 0, Sl.nil, 0, Sl.nil)
 ) (
 j10 (a0.Data, a0.Op, a0.By, 0, a0.Cap.Obj, a0.Cap.Pass.Hi, a0.Cap.Pass.Lo, a0.Given, 0, a0.Off, 0, Sl.nil, 0, Sl.nil)
 )
 )
 )
 ) (
 mBoth (
 mBoth (
 j10 (a0.Data, a0.Op, a0.By, 0, a0.Cap.Obj, a0.Cap.Pass.Hi, a0.Cap.Pass.Lo, a0.Given, 0, a0.Off, 0, Sl.nil, 0, Sl.nil)
 ) (
 j10 (a0.Data, a0.Op, a0.By, 0, a0.Cap.Obj, a0.Cap.Pass.Hi, a0.Cap.Pass.Lo, a0.Given, 0, a0.Off, 0, Sl.nil, 0, Sl.nil)
 )
 ) (
 mBoth (
 j10 (a0.Data, a0.Op, a0.By, 0, a0.Cap.Obj, a0.Cap.Pass.Hi, a0.Cap.Pass.Lo, a0.Given, 0, a0.Off, 0, Sl.nil, 0, Sl.nil)
 ) (
 mBoth (
 j10 (a0.Data, a0.Op, a0.By, 0, a0.Cap.Obj, a0.Cap.Pass.Hi, a0.Cap.Pass.Lo, a0.Given, 0, a0.Off, 0, Sl.nil, 0, Sl.nil)
 ) (
 j10 (a0.Data, a0.Op, a0.By, 0, a0.Cap.Obj, a0.Cap.Pass.Hi, a0.Cap.Pass.Lo, a0.Given, 0, a0.Off, 0, Sl.nil, 0, Sl.nil)
 )
 )
 )
 )
 ) (
 mBoth (
 mBoth (
 mBoth (
 j10 (a0.Data, a0.Op, a0.By, 0, a0.Cap.Obj, a0.Cap.Pass.Hi, a0.Cap.Pass.Lo, a0.Given, 0, a0.Off, 0, Sl.nil, 0, Sl.nil)
 ) (
 mBoth (
 j10 (a0.Data, a0.Op, a0.By, 0, a0.Cap.Obj, a0.Cap.Pass.Hi, a0.Cap.Pass.Lo, a0.Given, 0, a0.Off, 0, Sl.nil, 0, Sl.nil)
 ) (
 j10 (a0.Data, a0.Op, a0.By, 0, a0.Cap.Obj, a0.Cap.Pass.Hi, a0.Cap.Pass.Lo, a0.Given, 0, a0.Off, 0, Sl.nil, 0, Sl.nil)
 )
 )
 ) (
 mBoth (
 mBoth (
 j10 (a0.Data, a0.Op, a0.By, 0, a0.Cap.Obj, a0.Cap.Pass.Hi, a0.Cap.Pass.Lo, a0.Given, 0, a0.Off, 0, Sl.nil, 0, Sl.nil)
 ) (
 j10 (a0.Data, a0.Op, a0.By, 0, a0.Cap.Obj, a0.Cap.Pass.Hi, a0.Cap.Pass.Lo, a0.Given, 0, a0.Off, 0, Sl.nil, 0, Sl.nil)
 )
 ) (
 mBoth (
 j10 (a0.Data, a0.Op, a0.By, 0, a0.Cap.Obj, a0.Cap.Pass.Hi, a0.Cap.Pass.Lo, a0.Given, 0, a0.Off, 0, Sl.nil, 0, Sl.nil)
 ) (
 j10 (a0.Data, a0.Op, a0.By, 0, a0.Cap.Obj, a0.Cap.Pass.Hi, a0.Cap.Pass.Lo, a0.Given, 0, a0.Off, 0, Sl.nil, 0, Sl.nil)
 )
 )
 )
 ) (
 mBoth (
 mBoth (
 j10 (a0.Data, a0.Op, a0.By, 0, a0.Cap.Obj, a0.Cap.Pass.Hi, a0.Cap.Pass.Lo, a0.Given, 0, a0.Off, 0, Sl.nil, 0, Sl.nil)
 ) (
 mBoth (
 j10 (a0.Data, a0.Op, a0.By, 0, a0.Cap.Obj, a0.Cap.Pass.Hi, a0.Cap.Pass.Lo, a0.Given, 0, a0.Off, 0, Sl.nil, 0, Sl.nil)
 ) (
 j10 (a0.Data, a0.Op, a0.By, 0, a0.Cap.Obj, a0.Cap.Pass.Hi, a0.Cap.Pass.Lo, a0.Given, 0, a0.Off, 0, Sl.nil, 0, Sl.nil)
 )
 )
 ) (
 mBoth (
 mBoth (
 j10 (a0.Data, a0.Op, a0.By, 0, a0.Cap.Obj, a0.Cap.Pass.Hi, a0.Cap.Pass.Lo, a0.Given, 0, a0.Off, 0, Sl.nil, 0, Sl.nil)
 ) (
 j10 (a0.Data, a0.Op, a0.By, 0, a0.Cap.Obj, a0.Cap.Pass.Hi, a0.Cap.Pass.Lo, a0.Given, 0, a0.Off, 0, Sl.nil, 0, Sl.nil)
 )
 ) (
 mBoth (
 j10 (a0.Data, a0.Op, a0.By, 0, a0.Cap.Obj, a0.Cap.Pass.Hi, a0.Cap.Pass.Lo, a0.Given, 0, a0.Off, 0, Sl.nil, 0, Sl.nil)
 ) (
 j10 (a0.Data, a0.Op, a0.By, 0, a0.Cap.Obj, a0.Cap.Pass.Hi, a0.Cap.Pass.Lo, a0.Given, 0, a0.Off, 0, Sl.nil, 0, Sl.nil)
 )
 )
 )
 )
 )
 ))
 ) (
 mIf (decide (a0.Op = 8)) (
 j2 (a0.Op, a0.By, 0, 0, 0, 0, false, 0, 0, 0, Sl.nil, a0.Index, Sl.nil)
 ) (
 mIf (decide (a0.Op = 9)) (
 j2 (a0.Op, a0.By, 0, 0, 0, 0, false, 0, 0, 0, Sl.nil, 0, a0.Gifts)
 ) (
 j2 (a0.Op, a0.By, 0, 0, 0, 0, false, 0, 0, 0, Sl.nil, 0, Sl.nil)
 )
 )
 )
 )
 )
 )
 ) (fun j4 =>
 mIf (decide (a0.Op = 2)) (
 j4 (decide (a0.Op = 2))
 ) (
 mIf (decide (a0.Op = 4)) (
 j4 (decide (a0.Op = 4))
 ) (
 j4 (decide (a0.Op = 7))
 )
 )
 )
 )
 )
def x_plain_used : Cx Try.prog := ⟨tys, [], [1, 2, 3], [], mixed⟩
def h_plain_used : Hint := (.seq .d (.seq .d (.join [.cell 3 0 (tInt .i64), .cell 3 1 (tInt .i64), .cell 3 2 (tInt .i64), .cell 3 3 (tInt .i64), .cell 3 4 (tInt .u64), .cell 3 5 (tInt .u64), .cell 3 6 tBool, .cell 3 7 (tInt .i64), .cell 3 8 (tInt .i64), .cell 3 9 (tInt .i64), .cell 3 10 tSl, .cell 3 11 (tInt .i64), .cell 3 12 tSl] 590295810358705651200 [3] (.seq .d (.blk (.seq .d (.cond .d (.join [.slot 16 tBool] 983040 [] .d (.cond .d (.seq .d (.cond (.reg (.run [0, 8, 5, 16] (.join [.slot 28 (tInt .i64), .cell 3 0 (tInt .i64), .cell 3 1 (tInt .i64), .cell 3 2 (tInt .i64), .cell 3 3 (tInt .i64), .cell 3 4 (tInt .u64), .cell 3 5 (tInt .u64), .cell 3 6 tBool, .cell 3 7 (tInt .i64), .cell 3 8 (tInt .i64), .cell 3 9 (tInt .i64), .cell 3 10 tSl, .cell 3 11 (tInt .i64), .cell 3 12 tSl] 268435456 [3] (.both 3 5 (.run [23] .nil) (.run [13] .nil)) (.run [24, 31] .nil)))) (.seq .d (.cond (.reg (.run [0, 8, 16, 24, 5, 32] (.join [.slot 40 (tInt .i64), .cell 3 0 (tInt .i64), .cell 3 1 (tInt .i64), .cell 3 2 (tInt .i64), .cell 3 3 (tInt .i64), .cell 3 4 (tInt .u64), .cell 3 5 (tInt .u64), .cell 3 6 tBool, .cell 3 7 (tInt .i64), .cell 3 8 (tInt .i64), .cell 3 9 (tInt .i64), .cell 3 10 tSl, .cell 3 11 (tInt .i64), .cell 3 12 tSl] 14637248544768 [3] (.alt 3 (.alt 5 (.both 7 9 (.run [39, 40, 47, 48, 55] .nil) (.run [40] (.both 7 11 (.run [47, 48, 55] .nil) (.run [48] (.both 7 13 (.run [55] .nil) (.run [29] .nil)))))) (.both 7 9 (.both 5 9 (.run [39, 40, 47, 48, 55] .nil) (.run [40] (.both 5 11 (.run [47, 48, 55] .nil) (.run [21, 48, 55] .nil)))) (.run [40] (.alt 5 (.both 7 11 (.run [47, 48, 55] .nil) (.run [48] (.both 7 13 (.run [55] .nil) (.run [29] .nil)))) (.both 7 11 (.both 5 11 (.run [47, 48, 55] .nil) (.run [21, 48, 55] .nil)) (.run [21, 48] (.both 7 13 (.run [55] .nil) (.run [29] .nil)))))))) (.alt 5 (.alt 3 (.both 7 9 (.run [39, 40, 47, 48, 55] .nil) (.run [40] (.both 7 11 (.run [47, 48, 55] .nil) (.run [48] (.both 7 13 (.run [55] .nil) (.run [29] .nil)))))) (.both 7 9 (.both 3 9 (.run [39, 40, 47, 48, 55] .nil) (.run [13, 40, 47, 48, 55] .nil)) (.run [13, 40] (.both 7 11 (.run [47, 48, 55] .nil) (.run [48] (.both 7 13 (.run [55] .nil) (.run [29] .nil))))))) (.both 7 9 (.alt 3 (.both 5 9 (.run [39, 40, 47, 48, 55] .nil) (.run [40] (.both 5 11 (.run [47, 48, 55] .nil) (.run [21, 48, 55] .nil)))) (.both 5 9 (.both 3 9 (.run [39, 40, 47, 48, 55] .nil) (.run [13, 40, 47, 48, 55] .nil)) (.run [13, 40] (.both 5 11 (.run [47, 48, 55] .nil) (.run [21, 48, 55] .nil))))) (.run [13, 40] (.alt 5 (.both 7 11 (.run [47, 48, 55] .nil) (.run [48] (.both 7 13 (.run [55] .nil) (.run [29] .nil)))) (.both 7 11 (.both 5 11 (.run [47, 48, 55] .nil) (.run [21, 48, 55] .nil)) (.run [21, 48] (.both 7 13 (.run [55] .nil) (.run [29] .nil))))))))) (.run [56, 63] .nil)))) (.seq .d (.cond (.reg (.run [0, 8, 16, 24, 5, 32] (.join [.slot 54 tSl, .cell 3 0 (tInt .i64), .cell 3 1 (tInt .i64), .cell 3 2 (tInt .i64), .cell 3 3 (tInt .i64), .cell 3 4 (tInt .u64), .cell 3 5 (tInt .u64), .cell 3 6 tBool, .cell 3 7 (tInt .i64), .cell 3 8 (tInt .i64), .cell 3 9 (tInt .i64), .cell 3 10 tSl, .cell 3 11 (tInt .i64), .cell 3 12 tSl] 239816680157478912 [3] (.alt 3 (.alt 5 (.both 7 9 (.run [39, 40, 47, 48, 55] .nil) (.run [40] (.both 7 11 (.run [47, 48, 55] .nil) (.run [48] (.both 7 13 (.run [55] .nil) (.run [29] .nil)))))) (.both 7 9 (.both 5 9 (.run [39, 40, 47, 48, 55] .nil) (.run [40] (.both 5 11 (.run [47, 48, 55] .nil) (.run [21, 48, 55] .nil)))) (.run [40] (.alt 5 (.both 7 11 (.run [47, 48, 55] .nil) (.run [48] (.both 7 13 (.run [55] .nil) (.run [29] .nil)))) (.both 7 11 (.both 5 11 (.run [47, 48, 55] .nil) (.run [21, 48, 55] .nil)) (.run [21, 48] (.both 7 13 (.run [55] .nil) (.run [29] .nil)))))))) (.alt 5 (.alt 3 (.both 7 9 (.run [39, 40, 47, 48, 55] .nil) (.run [40] (.both 7 11 (.run [47, 48, 55] .nil) (.run [48] (.both 7 13 (.run [55] .nil) (.run [29] .nil)))))) (.both 7 9 (.both 3 9 (.run [39, 40, 47, 48, 55] .nil) (.run [13, 40, 47, 48, 55] .nil)) (.run [13, 40] (.both 7 11 (.run [47, 48, 55] .nil) (.run [48] (.both 7 13 (.run [55] .nil) (.run [29] .nil))))))) (.both 7 9 (.alt 3 (.both 5 9 (.run [39, 40, 47, 48, 55] .nil) (.run [40] (.both 5 11 (.run [47, 48, 55] .nil) (.run [21, 48, 55] .nil)))) (.both 5 9 (.both 3 9 (.run [39, 40, 47, 48, 55] .nil) (.run [13, 40, 47, 48, 55] .nil)) (.run [13, 40] (.both 5 11 (.run [47, 48, 55] .nil) (.run [21, 48, 55] .nil))))) (.run [13, 40] (.alt 5 (.both 7 11 (.run [47, 48, 55] .nil) (.run [48] (.both 7 13 (.run [55] .nil) (.run [29] .nil)))) (.both 7 11 (.both 5 11 (.run [47, 48, 55] .nil) (.run [21, 48, 55] .nil)) (.run [21, 48] (.both 7 13 (.run [55] .nil) (.run [29] .nil))))))))) (.run [56, 63] .nil)))) .d)))))))))))) .d)))
def s_plain_used : Spec Try.prog := mkSpec x_plain_used 171 Try.f171 [S_api_Call.ty] [S_api_Call.ty] true h_plain_used (fun a => m_plain_used a) (fun a K h => by kernel_rfl) callee171 rfl
def m_plain_formed_1 (a0 : Int) (K : (Bool) → H → Prop) : H → Prop :=
 mPure (m_plain_within a0 (-2147483648) 2147483647) fun r1 =>
 K r1
def x_plain_formed_1 : Cx Try.prog := ⟨tys, [s_plain_within], [], [], mixed⟩
def h_plain_formed_1 : Hint := .d
def s_plain_formed_1 : Spec Try.prog := mkSpec x_plain_formed_1 172 Try.f172 [(tInt .i64)] [tBool] true h_plain_formed_1 (fun a => m_plain_formed_1 a) (fun a K h => by kernel_rfl) callee172 rfl
def m_plain_formed_2 (a0 : Int) (K : (Bool) → H → Prop) : H → Prop :=
 mPure (m_plain_within a0 0 65535) fun r1 =>
 K (!r1)
def x_plain_formed_2 : Cx Try.prog := ⟨tys, [s_plain_within], [], [], mixed⟩
def h_plain_formed_2 : Hint := .d
def s_plain_formed_2 : Spec Try.prog := mkSpec x_plain_formed_2 173 Try.f173 [(tInt .i64)] [tBool] true h_plain_formed_2 (fun a => m_plain_formed_2 a) (fun a K h => by kernel_rfl) callee173 rfl
def m_plain_formed (a0 : S_api_Call) (K : (Bool) → H → Prop) : H → Prop :=
 mPure (m_plain_used a0) fun r1 =>
 mJoin (fun (s3 : Bool) =>
 mJoin (fun (s6 : Bool) =>
 mJoin (fun (s9 : Bool) =>
 mJoin (fun (s12 : Bool) =>
 mJoin (fun (s15 : Bool) =>
 mJoin (fun (s18 : Bool) =>
 mJoin (fun (s21 : Bool) =>
 mJoin (fun (s24 : Bool) =>
 mIf ((s24 && (decide ((a0.Data.len : Int) ≤ 1025))) && (decide ((a0.Gifts.len : Int) ≤ 255))) (
 m_slices_ContainsFunc_int_int a0.Gifts (⟨Value.func (Fn.func 173) #[] #[], rfl, rfl⟩ : PV) fun r27 =>
 K ((!r27) && (!((((decide (a0.Op = 5)) || (decide (a0.Op = 6))) && (!a0.Given)) && (!((decide (a0.Cap.Pass.Hi = 0)) && ((decide (a0.Cap.Pass.Lo = 0)) && true))))))
 ) (
 K false
 )
 ) (fun j25 =>
 mIf s21 (
 mPure (m_plain_within a0.Rights 0 255) fun r28 =>
 j25 r28
 ) (
 j25 false
 ))
 ) (fun j22 =>
 mIf s18 (
 mPure (m_plain_within a0.Cap.Obj 0 4611686018427387904) fun r29 =>
 j22 r29
 ) (
 j22 false
 ))
 ) (fun j19 =>
 mIf s15 (
 mCallV (T := Bool) Try.prog (fun r => (Value.bool r)) (Value.func (Fn.func 172) #[] #[]) [(Value.int .i64 a0.N)] fun r30 =>
 j19 r30
 ) (
 j19 false
 ))
 ) (fun j16 =>
 mIf s12 (
 mCallV (T := Bool) Try.prog (fun r => (Value.bool r)) (Value.func (Fn.func 172) #[] #[]) [(Value.int .i64 a0.Off)] fun r31 =>
 j16 r31
 ) (
 j16 false
 ))
 ) (fun j13 =>
 mIf s9 (
 mCallV (T := Bool) Try.prog (fun r => (Value.bool r)) (Value.func (Fn.func 172) #[] #[]) [(Value.int .i64 a0.Size)] fun r32 =>
 j13 r32
 ) (
 j13 false
 ))
 ) (fun j10 =>
 mIf s6 (
 mCallV (T := Bool) Try.prog (fun r => (Value.bool r)) (Value.func (Fn.func 173) #[] #[]) [(Value.int .i64 a0.Index)] fun r33 =>
 j10 (!r33)
 ) (
 j10 false
 ))
 ) (fun j7 =>
 mIf s3 (
 mCallV (T := Bool) Try.prog (fun r => (Value.bool r)) (Value.func (Fn.func 173) #[] #[]) [(Value.int .i64 a0.By)] fun r34 =>
 j7 (!r34)
 ) (
 j7 false
 ))
 ) (fun j4 =>
 mIf (((((((((decide (r1.Size = a0.Size)) && ((decide (r1.Cap.Obj = a0.Cap.Obj)) && (((decide (r1.Cap.Pass.Hi = a0.Cap.Pass.Hi)) && ((decide (r1.Cap.Pass.Lo = a0.Cap.Pass.Lo)) && true)) && true))) && (r1.Given == a0.Given)) && (decide (r1.Rights = a0.Rights))) && (decide (r1.Off = a0.Off))) && (decide (r1.N = a0.N))) && (decide ((r1.Data.len : Int) = (a0.Data.len : Int)))) && (decide (r1.Index = a0.Index))) && (decide ((r1.Gifts.len : Int) = (a0.Gifts.len : Int)))) (
 mPure (m_plain_within a0.Op 1 10) fun r35 =>
 j4 r35
 ) (
 j4 false
 ))
def x_plain_formed : Cx Try.prog := ⟨tys, [s_plain_within, s_plain_used, s_slices_ContainsFunc_int_int], [1, 3], [], mixed⟩
def h_plain_formed : Hint := (.seq .d (.seq .d (.seq (.reg (.run [3, 7, 11, 15] (.sel 13 17 245760 (.run [19, 23, 27, 31] .nil) (.run [19, 23, 27, 31] .nil) (.run [35] (.sel 18 22 7864320 (.run [39, 43, 47, 51] .nil) (.run [39, 43, 47, 51] .nil) (.run [55] .nil)))))) (.seq (.reg (.run [3, 7, 11, 15, 19, 23] (.sel 28 34 33822867456 (.run [27, 31, 35, 39, 43, 47] .nil) (.run [27, 31, 35, 39, 43, 47] .nil) (.run [51] (.sel 35 41 4329327034368 (.run [55, 59, 63, 67, 71, 75] .nil) (.run [55, 59, 63, 67, 71, 75] .nil) (.run [79] (.sel 42 48 554153860399104 (.run [83, 87, 91, 95, 99, 103] .nil) (.run [83, 87, 91, 95, 99, 103] .nil) (.run [107] (.sel 49 55 70931694131085312 (.run [111, 115, 119, 123, 127, 131] .nil) (.run [111, 115, 119, 123, 127, 131] .nil) (.run [135] (.sel 56 62 9079256848778919936 (.run [139, 143, 147, 151, 155, 159] .nil) (.run [139, 143, 147, 151, 155, 159] .nil) (.run [163] (.sel 63 71 4703919738795935662080 (.run [167, 171, 175, 179, 183, 187, 191, 195] .nil) (.run [167, 171, 175, 179, 183, 187, 191, 195] .nil) (.run [199] (.sel 72 78 595018176841575296925696 (.run [203, 207, 211, 215, 219, 223] .nil) (.run [203, 207, 211, 215, 219, 223] .nil) (.run [227] (.sel 79 87 308276084001730439550074880 (.run [231, 235, 239, 243, 247, 251, 255, 259] .nil) (.run [231, 235, 239, 243, 247, 251, 255, 259] .nil) (.run [263] .nil)))))))))))))))))) (.seq .d (.seq .d (.seq (.reg (.run [3, 7] (.join [.slot 93 tBool] 18569100589280704123486863360 [] (.split 89 (.run [11, 15, 19, 23] .nil) (.run [11, 15, 19, 23] .nil)) (.run [27] (.join [.slot 100 tBool] 2495687119199326634196634435584 [] (.split 94 (.run [31, 35, 39, 43, 47, 51] .nil) (.run [31, 35, 39, 43, 47, 51] .nil)) (.run [55] (.join [.slot 107 tBool] 319447951257513809177169207754752 [] (.split 101 (.run [59, 63, 67, 71, 75, 79] .nil) (.run [59, 63, 67, 71, 75, 79] .nil)) (.run [83] (.join [.slot 113 tBool] 20120150326822457060555673275727872 [] (.split 108 (.run [87, 91, 95, 99, 103] .nil) (.run [87, 91, 95, 99, 103] .nil)) (.run [107] (.join [.slot 119 tBool] 1287689620916637251875563089646583808 [] (.split 114 (.run [111, 115, 119, 123, 127] .nil) (.run [111, 115, 119, 123, 127] .nil)) (.run [131] (.join [.slot 125 tBool] 82412135738664784120036037737381363712 [] (.split 120 (.run [135, 139, 143, 147, 151] .nil) (.run [135, 139, 143, 147, 151] .nil)) (.run [155] (.join [.slot 131 tBool] 5274376687274546183682306415192407277568 [] (.split 126 (.run [159, 163, 167, 171, 175] .nil) (.run [159, 163, 167, 171, 175] .nil)) (.run [179] (.join [.slot 136 tBool] 163335536122050462462419811567248741498880 [] (.split 132 (.run [183, 187, 191, 195] .nil) (.run [183, 187, 191, 195] .nil)) (.run [199] (.sel 137 142 10801923455538270584181363538314050104459264 (.run [203, 207, 211, 215, 219] .nil) (.run [203, 207, 211, 215, 219] .nil) (.run [223] (.sel 143 148 691323101154449317387607266452099206685392896 (.run [227, 231, 235, 239, 243] .nil) (.run [227, 231, 235, 239, 243] .nil) (.run [247] (.split 149 (.run [251, 255, 259, 263, 267, 271, 275] (.sel 156 166 186889521873689210665296197983594691138502373933056 (.run [279, 283] (.sel 158 164 46037301575923441923416072230562915119161875103744 (.run [287, 291, 295, 299, 303, 307] .nil) (.run [287, 291, 295, 299, 303, 307] .nil) (.run [311, 315] .nil))) (.run [279, 283, 287, 291, 295, 299, 303, 307, 311, 315] .nil) (.run [319] .nil))) (.run [251, 255, 259, 263, 267, 271, 275, 279, 283, 287, 291, 295, 299, 303, 307, 311, 315, 319] .nil)))))))))))))))))))))))) .d)))))))
def s_plain_formed : Spec Try.prog := mkSpec x_plain_formed 110 Try.f110 [S_api_Call.ty] [tBool] false h_plain_formed (fun a => m_plain_formed a) (fun a K h => by kernel_rfl) callee110 rfl
def m_plain_refused (a0 : Int) (K : (S_api_Reply) → H → Prop) : H → Prop :=
 K (⟨a0, ⟨0, ⟨0, 0⟩⟩, Sl.nil, 0⟩ : S_api_Reply)
def x_plain_refused : Cx Try.prog := ⟨tys, [], [2], [], mixed⟩
def h_plain_refused : Hint := .d
def s_plain_refused : Spec Try.prog := mkSpec x_plain_refused 111 Try.f111 [(tInt .i64)] [S_api_Reply.ty] true h_plain_refused (fun a => m_plain_refused a) (fun a K h => by kernel_rfl) callee111 rfl
def m_plain_pages (a0 : Int) (K : (Int) → H → Prop) : H → Prop :=
 K (iQuo .i64 (iSub .i64 (iAdd .i64 a0 64) 1) 64)
def x_plain_pages : Cx Try.prog := ⟨tys, [], [], [], mixed⟩
def h_plain_pages : Hint := .d
def s_plain_pages : Spec Try.prog := mkSpec x_plain_pages 175 Try.f175 [(tInt .i64)] [(tInt .i64)] true h_plain_pages (fun a => m_plain_pages a) (fun a K h => by kernel_rfl) callee175 rfl
def m_plain_Model_draw (a0 : Option Addr) (K : (S_api_Word × Int) → H → Prop) : H → Prop :=
 mDeref a0 fun ad1 =>
 mDeref a0 fun ad2 =>
 mLoad (cInt .i64) (ad1.add 11) fun x3 =>
 mLoad cSl (ad2.add 10) fun x4 =>
 mIf (decide (x3 = (x4.len : Int))) (
 K ((⟨0, 0⟩ : S_api_Word), 11)
 ) (
 mDeref a0 fun ad5 =>
 mLoad (cInt .i64) (ad5.add 11) fun x6 =>
 mDeref a0 fun ad7 =>
 mStore (ad7.add 11) [(Value.int .i64 (iAdd .i64 x6 1))] <|
 mDeref a0 fun ad8 =>
 mDeref a0 fun ad9 =>
 mDeref a0 fun ad10 =>
 mLoad cSl (ad8.add 10) fun x11 =>
 mLoad (cInt .i64) (ad9.add 11) fun x12 =>
 mIdx x11 (iSub .i64 x12 1) 2 fun ad13 =>
 mLoad S_api_Word.cells ad13 fun x14 =>
 mLoad (cInt .i64) ((ad10.add 0).add 0) fun x15 =>
 mPure (m_wide_Cut x14 x15) fun r16 =>
 K (r16, 0)
 )
def x_plain_Model_draw : Cx Try.prog := ⟨tys, [s_wide_Cut], [2], [], mixed⟩
def h_plain_Model_draw : Hint := (.seq .d (.seq (.seq (.reg (.run [0, 4, 8, 16, 20, 24, 14, 30, 32, 36] .nil)) .d) (.seq .d (.seq (.reg (.run [0, 4, 8, 16, 20, 24, 44, 48, 52, 56, 14, 30, 32, 36, 42, 62, 64, 71, 72] .nil)) .d))))
def s_plain_Model_draw : Spec Try.prog := mkSpec x_plain_Model_draw 176 Try.f176 [tPtr] [S_api_Word.ty, (tInt .i64)] false h_plain_Model_draw (fun a => m_plain_Model_draw a) (fun a K h => by kernel_rfl) callee176 rfl
def m_plain_Model_issue (a0 : Option Addr) (a1 : S_api_Cap) (a2 : Int) (a3 : Int) (K : (S_api_Reply) → H → Prop) : H → Prop :=
 mDeref a0 fun ad1 =>
 mLoad (cInt .i64) (ad1.add 14) fun x2 =>
 mDeref a0 fun ad3 =>
 mStore (ad3.add 14) [(Value.int .i64 (iAdd .i64 x2 1))] <|
 mDeref a0 fun ad4 =>
 mDeref a0 fun ad5 =>
 mLoad cSl (ad4.add 13) fun x6 =>
 mLoad (cInt .i64) (ad5.add 14) fun x7 =>
 mApp 230 6 48 #[(Value.int .i64 0), (Value.int .u64 0), (Value.int .u64 0), (Value.int .i64 0), (Value.int .i64 0), (Value.int .i64 0)] 1 [(Value.int .i64 a1.Obj), (Value.int .u64 a1.Pass.Hi), (Value.int .u64 a1.Pass.Lo), (Value.int .i64 a2), (Value.int .i64 x7), (Value.int .i64 a3)] x6 fun s8 =>
 mDeref a0 fun ad9 =>
 mStore (ad9.add 13) [(Sl.val s8)] <|
 K (⟨0, ⟨a1.Obj, ⟨a1.Pass.Hi, a1.Pass.Lo⟩⟩, Sl.nil, 0⟩ : S_api_Reply)
def x_plain_Model_issue : Cx Try.prog := ⟨tys, [], [5, 8, 29], [], mixed⟩
def h_plain_Model_issue : Hint := (.seq .d (.seq .d (.seq (.reg (.run [0, 4, 8, 12, 24, 28, 32, 36, 44, 21, 18, 42, 48, 54, 59, 60, 64, 71] .nil)) .d)))
def s_plain_Model_issue : Spec Try.prog := mkSpec x_plain_Model_issue 177 Try.f177 [tPtr, S_api_Cap.ty, (tInt .i64), (tInt .i64)] [S_api_Reply.ty] false h_plain_Model_issue (fun a => m_plain_Model_issue a.1 a.2.1 a.2.2.1 a.2.2.2) (fun a K h => by kernel_rfl) callee177 rfl
def m_plain_Model_create (a0 : Option Addr) (a1 : S_api_Call) (K : (S_api_Reply) → H → Prop) : H → Prop :=
 mDeref a0 fun ad1 =>
 mLoad cMap (ad1.add 12) fun x2 =>
 mRange x2 fun it3 =>
 mLoop (fun (rec5 : Int → H → Prop) (s4 : Int) =>
 mNext it3 fun n6 =>
 mIf n6.1 (
 mEntry (Value.int .i64) Sl.val it3 fun e7 =>
 mPure (m_plain_pages (e7.2.len : Int)) fun r8 =>
 rec5 (iAdd .i64 s4 r8)
 ) (
 mIf ((decide (a1.Size < 0)) || (decide (4096 < a1.Size))) (
 mPure (m_plain_refused 6) fun r9 =>
 K r9
 ) (
 mDeref a0 fun ad10 =>
 mDeref a0 fun ad11 =>
 mLoad cMap (ad10.add 12) fun x12 =>
 mMapLen x12 fun n13 =>
 mLoad (cInt .i64) ((ad11.add 0).add 1) fun x14 =>
 mJoin (fun (s17 : Bool) =>
 mIf s17 (
 mPure (m_plain_refused 7) fun r19 =>
 K r19
 ) (
 mDeref a0 fun ad20 =>
 mPure (m_plain_pages a1.Size) fun r21 =>
 mLoad (cInt .i64) ((ad20.add 0).add 2) fun x22 =>
 mIf (decide (x22 < (iAdd .i64 s4 r21))) (
 mPure (m_plain_refused 8) fun r23 =>
 K r23
 ) (
 mDeref a0 fun ad24 =>
 mDeref a0 fun ad25 =>
 mLoad cSl (ad24.add 13) fun x26 =>
 mLoad (cInt .i64) ((ad25.add 0).add 3) fun x27 =>
 mIf (decide (x27 ≤ (x26.len : Int))) (
 mPure (m_plain_refused 10) fun r28 =>
 K r28
 ) (
 m_plain_Model_draw a0 fun r29 =>
 mIf (!decide (r29.2 = 0)) (
 mPure (m_plain_refused r29.2) fun r30 =>
 K r30
 ) (
 mDeref a0 fun ad31 =>
 mLoad (cInt .i64) (ad31.add 16) fun x32 =>
 mDeref a0 fun ad33 =>
 mLoad (cInt .i64) (ad33.add 16) fun x34 =>
 mDeref a0 fun ad35 =>
 mStore (ad35.add 16) [(Value.int .i64 (iAdd .i64 x34 1))] <|
 mDeref a0 fun ad36 =>
 mJoin (fun (s37 : Option Nat × Sl) =>
 mMapSet (eqV Try.prog 40 3) s37.1 (Value.int .i64 x32) (Sl.val s37.2) <|
 m_plain_Model_issue a0 (⟨x32, ⟨r29.1.Hi, r29.1.Lo⟩⟩ : S_api_Cap) 31 0 fun r43 =>
 K r43
 ) (fun j38 =>
 mBoth (
 mLoad cMap (ad36.add 12) fun x39 =>
 mMake 5 1 #[(Value.int .u8 0)] a1.Size a1.Size fun s40 =>
 j38 (x39, s40)
 ) (
 mMake 5 1 #[(Value.int .u8 0)] a1.Size a1.Size fun s41 =>
 mLoad cMap (ad36.add 12) fun x42 =>
 j38 (x42, s41)
 ))
 )
 )
 )
 )
 ) (fun j18 =>
 mIf (decide (x14 ≤ n13)) (
 j18 true
 ) (
 mDeref a0 fun ad44 =>
 mLoad (cInt .i64) (ad44.add 16) fun x45 =>
 j18 (decide (4611686018427387904 < x45))
 ))
 )
 )
 ) 0
def x_plain_Model_create : Cx Try.prog := ⟨tys, [s_plain_refused, s_plain_pages, s_plain_Model_draw, s_plain_Model_issue], [3, 4, 8], [(18, 3, 40)], mixed⟩
def h_plain_Model_create : Hint := (.seq .d (.seq .d (.seq (.seq .d (.blk (.loop [.slot 5 (tInt .i64)] 33489056 [] .d))) (.seq (.blk (.seq (.reg (.run [3, 7, 11, 15] (.sel 29 33 16106127360 (.run [19, 23, 27, 31] .nil) (.run [19, 23, 27, 31] .nil) (.run [35] .nil)))) (.cond .d (.seq (.reg (.run [0, 4, 8, 20, 24, 28, 32, 14, 18, 38, 40, 44] (.join [.slot 53 tBool] 17732923532771328 [] (.split 47 (.run [48, 52, 56, 60, 64, 68] .nil) (.run [48, 52, 56, 62, 64, 68] .nil)) (.run [72] .nil)))) (.cond .d (.seq (.reg (.run [0, 4, 20, 24, 28, 32, 9, 12, 16, 38, 40, 44] .nil)) (.cond .d (.seq (.reg (.run [0, 4, 8, 20, 24, 28, 32, 14, 16, 38, 40, 44] .nil)) .d)))))))) (.seq .d (.seq .d (.seq .d (.seq .d (.seq (.reg (.run [0, 4, 8, 16, 20, 25] (.join [.slot 104 tMap, .slot 108 tSl] 344800963262078397207103271862272 [] (.both 3 7 (.run [31] .nil) (.run [14] .nil)) (.run [35] .nil)))) .d)))))))))
def s_plain_Model_create : Spec Try.prog := mkSpec x_plain_Model_create 112 Try.f112 [tPtr, S_api_Call.ty] [S_api_Reply.ty] false h_plain_Model_create (fun a => m_plain_Model_create a.1 a.2) (fun a K h => by kernel_rfl) callee112 rfl
def m_plain_Model_find_1 (a0 : S_plain_token) (a1 : Addr) (K : (Bool) → H → Prop) : H → Prop :=
 mLoad S_api_Cap.cells a1 fun x1 =>
 K ((decide (a0.xcap.Obj = x1.Obj)) && (((decide (a0.xcap.Pass.Hi = x1.Pass.Hi)) && ((decide (a0.xcap.Pass.Lo = x1.Pass.Lo)) && true)) && true))
def x_plain_Model_find_1 : Cx Try.prog := ⟨tys, [], [2], [], mixed⟩
def h_plain_Model_find_1 : Hint := .d
def s_plain_Model_find_1 : Spec Try.prog := mkSpec x_plain_Model_find_1 208 Try.f208 [S_plain_token.ty, tAdr] [tBool] false h_plain_Model_find_1 (fun a => m_plain_Model_find_1 a.1 a.2) (fun a K h => by kernel_rfl) callee208 rfl
def m_plain_Model_find (a0 : Option Addr) (a1 : S_api_Cap) (K : (S_plain_token × Bool) → H → Prop) : H → Prop :=
 mNew 39 #[(Value.int .i64 a1.Obj), (Value.int .u64 a1.Pass.Hi), (Value.int .u64 a1.Pass.Lo)] fun ad1 =>
 mDeref a0 fun ad2 =>
 mLoad cSl (ad2.add 13) fun x3 =>
 m_slices_IndexFunc_plain_token_plain_token x3 (⟨Value.func (.func 208) #[] #[(Value.pointer (some ad1))], rfl, rfl⟩ : PV) fun r4 =>
 mIf (decide (r4 < 0)) (
 K ((⟨⟨0, ⟨0, 0⟩⟩, 0, 0, 0⟩ : S_plain_token), false)
 ) (
 mDeref a0 fun ad5 =>
 mLoad cSl (ad5.add 13) fun x6 =>
 mIdx x6 r4 6 fun ad7 =>
 mLoad S_plain_token.cells ad7 fun x8 =>
 K (x8, true)
 )
def x_plain_Model_find : Cx Try.prog := ⟨tys, [s_slices_IndexFunc_plain_token_plain_token], [4], [], mixed⟩
def h_plain_Model_find : Hint := .d
def s_plain_Model_find : Spec Try.prog := mkSpec x_plain_Model_find 181 Try.f181 [tPtr, S_api_Cap.ty] [S_plain_token.ty, tBool] false h_plain_Model_find (fun a => m_plain_Model_find a.1 a.2) (fun a K h => by kernel_rfl) callee181 rfl
def m_plain_Model_given (a0 : Option Addr) (a1 : S_api_Cap) (a2 : Int) (K : (S_plain_token × Int) → H → Prop) : H → Prop :=
 m_plain_Model_find a0 a1 fun r1 =>
 mIf (!r1.2) (
 K ((⟨⟨0, ⟨0, 0⟩⟩, 0, 0, 0⟩ : S_plain_token), 3)
 ) (
 mPure (m_mask_Has r1.1.xrights a2) fun r2 =>
 mIf (!r2) (
 K ((⟨⟨0, ⟨0, 0⟩⟩, 0, 0, 0⟩ : S_plain_token), 4)
 ) (
 K (r1.1, 0)
 )
 )
def x_plain_Model_given : Cx Try.prog := ⟨tys, [s_plain_Model_find, s_mask_Has], [4, 6, 8], [], mixed⟩
def h_plain_Model_given : Hint := .d
def s_plain_Model_given : Spec Try.prog := mkSpec x_plain_Model_given 178 Try.f178 [tPtr, S_api_Cap.ty, (tInt .i64)] [S_plain_token.ty, (tInt .i64)] false h_plain_Model_given (fun a => m_plain_Model_given a.1 a.2.1 a.2.2) (fun a K h => by kernel_rfl) callee178 rfl
def m_plain_Model_gone_1 (a0 : S_plain_token) (a1 : Addr) (K : (Bool) → H → Prop) : H → Prop :=
 mLoad (cInt .i64) a1 fun x1 =>
 K (decide (a0.xcap.Obj = x1))
def x_plain_Model_gone_1 : Cx Try.prog := ⟨tys, [], [2], [], mixed⟩
def h_plain_Model_gone_1 : Hint := .d
def s_plain_Model_gone_1 : Spec Try.prog := mkSpec x_plain_Model_gone_1 206 Try.f206 [S_plain_token.ty, tAdr] [tBool] false h_plain_Model_gone_1 (fun a => m_plain_Model_gone_1 a.1 a.2) (fun a K h => by kernel_rfl) callee206 rfl
def m_plain_Model_gone (a0 : Option Addr) (a1 : Int) (K : (S_api_Reply) → H → Prop) : H → Prop :=
 mNew 3 #[(Value.int .i64 a1)] fun ad1 =>
 mDeref a0 fun ad2 =>
 mLoad cMap (ad2.add 12) fun x3 =>
 mLoad (cInt .i64) ad1 fun x4 =>
 mMapDel (eqV Try.prog 40 3) x3 (Value.int .i64 x4) <|
 mDeref a0 fun ad5 =>
 mLoad cSl (ad5.add 13) fun x6 =>
 m_slices_DeleteFunc_plain_token_plain_token x6 (⟨Value.func (.func 206) #[] #[(Value.pointer (some ad1))], rfl, rfl⟩ : PV) fun r7 =>
 mDeref a0 fun ad8 =>
 mStore (ad8.add 13) [(Sl.val r7)] <|
 K (⟨0, ⟨0, ⟨0, 0⟩⟩, Sl.nil, 0⟩ : S_api_Reply)
def x_plain_Model_gone : Cx Try.prog := ⟨tys, [s_slices_DeleteFunc_plain_token_plain_token], [4], [], mixed⟩
def h_plain_Model_gone : Hint := (.seq .d (.seq (.reg (.run [0, 4, 8, 14, 18, 23] .nil)) .d))
def s_plain_Model_gone : Spec Try.prog := mkSpec x_plain_Model_gone 179 Try.f179 [tPtr, (tInt .i64)] [S_api_Reply.ty] false h_plain_Model_gone (fun a => m_plain_Model_gone a.1 a.2) (fun a K h => by kernel_rfl) callee179 rfl
def m_plain_Model_destroy (a0 : Option Addr) (a1 : S_api_Call) (K : (S_api_Reply) → H → Prop) : H → Prop :=
 m_plain_Model_given a0 a1.Cap 16 fun r1 =>
 mIf (!decide (r1.2 = 0)) (
 mPure (m_plain_refused r1.2) fun r2 =>
 K r2
 ) (
 m_plain_Model_gone a0 r1.1.xcap.Obj fun r3 =>
 K r3
 )
def x_plain_Model_destroy : Cx Try.prog := ⟨tys, [s_plain_refused, s_plain_Model_given, s_plain_Model_gone], [3, 4, 5], [], mixed⟩
def h_plain_Model_destroy : Hint := .d
def s_plain_Model_destroy : Spec Try.prog := mkSpec x_plain_Model_destroy 113 Try.f113 [tPtr, S_api_Call.ty] [S_api_Reply.ty] false h_plain_Model_destroy (fun a => m_plain_Model_destroy a.1 a.2) (fun a K h => by kernel_rfl) callee113 rfl
def m_plain_Model_of (a0 : Option Addr) (a1 : Int) (K : (Int) → H → Prop) : H → Prop :=
 mDeref a0 fun ad1 =>
 mLoad cSl (ad1.add 13) fun x2 =>
 mLoop (fun (rec4 : (Int × Int) → H → Prop) (s3 : Int × Int) =>
 mIf (decide (s3.2 < (x2.len : Int))) (
 mIdx x2 s3.2 6 fun ad5 =>
 mLoad S_plain_token.cells ad5 fun x6 =>
 mIf (decide (x6.xcap.Obj = a1)) (
 rec4 ((iAdd .i64 s3.1 1), (iAdd .i64 s3.2 1))
 ) (
 rec4 (s3.1, (iAdd .i64 s3.2 1))
 )
 ) (
 K s3.1
 )
 ) (0, 0)
def x_plain_Model_of : Cx Try.prog := ⟨tys, [], [7], [], mixed⟩
def h_plain_Model_of : Hint := (.seq .d (.seq .d (.seq (.seq .d (.blk (.loop [.slot 5 (tInt .i64), .slot 13 (tInt .i64)] 33546400 [] .d))) .d)))
def s_plain_Model_of : Spec Try.prog := mkSpec x_plain_Model_of 180 Try.f180 [tPtr, (tInt .i64)] [(tInt .i64)] false h_plain_Model_of (fun a => m_plain_Model_of a.1 a.2) (fun a K h => by kernel_rfl) callee180 rfl
def m_plain_Model_derive (a0 : Option Addr) (a1 : S_api_Call) (K : (S_api_Reply) → H → Prop) : H → Prop :=
 m_plain_Model_given a0 a1.Cap 4 fun r1 =>
 mIf (!decide (r1.2 = 0)) (
 mPure (m_plain_refused r1.2) fun r2 =>
 K r2
 ) (
 mPure (m_mask_Part a1.Rights r1.1.xrights) fun r3 =>
 mIf (!r3) (
 mPure (m_plain_refused 4) fun r4 =>
 K r4
 ) (
 mDeref a0 fun ad5 =>
 mJoin (fun (s6 : Int × Int) =>
 mIf (decide (s6.2 ≤ s6.1)) (
 mPure (m_plain_refused 9) fun r12 =>
 K r12
 ) (
 mDeref a0 fun ad13 =>
 mDeref a0 fun ad14 =>
 mLoad cSl (ad13.add 13) fun x15 =>
 mLoad (cInt .i64) ((ad14.add 0).add 3) fun x16 =>
 mIf (decide (x16 ≤ (x15.len : Int))) (
 mPure (m_plain_refused 10) fun r17 =>
 K r17
 ) (
 mLoop (fun (rec19 : Int → H → Prop) (s18 : Int) =>
 mIf (decide (s18 < 9)) (
 m_plain_Model_draw a0 fun r20 =>
 mIf (!decide (r20.2 = 0)) (
 mPure (m_plain_refused r20.2) fun r21 =>
 K r21
 ) (
 m_plain_Model_find a0 (⟨a1.Cap.Obj, ⟨r20.1.Hi, r20.1.Lo⟩⟩ : S_api_Cap) fun r22 =>
 mIf (!r22.2) (
 m_plain_Model_issue a0 (⟨a1.Cap.Obj, ⟨r20.1.Hi, r20.1.Lo⟩⟩ : S_api_Cap) a1.Rights r1.1.xname fun r23 =>
 K r23
 ) (
 rec19 (iAdd .i64 s18 1)
 )
 )
 ) (
 mPure (m_plain_refused 12) fun r24 =>
 K r24
 )
 ) 0
 )
 )
 ) (fun j7 =>
 mBoth (
 m_plain_Model_of a0 a1.Cap.Obj fun r8 =>
 mLoad (cInt .i64) ((ad5.add 0).add 4) fun x9 =>
 j7 (r8, x9)
 ) (
 mLoad (cInt .i64) ((ad5.add 0).add 4) fun x10 =>
 m_plain_Model_of a0 a1.Cap.Obj fun r11 =>
 j7 (r11, x10)
 ))
 )
 )
def x_plain_Model_derive : Cx Try.prog := ⟨tys, [s_plain_refused, s_mask_Part, s_plain_Model_draw, s_plain_Model_issue, s_plain_Model_given, s_plain_Model_of, s_plain_Model_find], [3, 4, 5, 7, 9, 10], [], mixed⟩
def h_plain_Model_derive : Hint := (.seq .d (.seq .d (.seq (.blk (.seq .d (.cond .d (.seq .d (.cond .d (.seq (.reg (.run [0, 4, 8, 20, 24, 28, 32, 13] (.join [.slot 37 (tInt .i64), .slot 42 (tInt .i64)] 4535485464576 [] (.both 4 9 (.run [38] .nil) (.run [19] .nil)) (.run [40, 44] .nil)))) (.cond .d (.seq (.reg (.run [0, 4, 8, 20, 24, 28, 32, 14, 16, 38, 40, 44] .nil)) .d)))))))) (.seq (.seq .d (.blk (.loop [.slot 58 (tInt .i64)] 1237940038997149898747416448 [] .d))) .d))))
def s_plain_Model_derive : Spec Try.prog := mkSpec x_plain_Model_derive 114 Try.f114 [tPtr, S_api_Call.ty] [S_api_Reply.ty] false h_plain_Model_derive (fun a => m_plain_Model_derive a.1 a.2) (fun a K h => by kernel_rfl) callee114 rfl
def m_plain_Model_revoke_1 (a0 : S_plain_token) (a1 : Addr) (K : (Bool) → H → Prop) : H → Prop :=
 mLoad cSl a1 fun x1 =>
 m_slices_Contains_int_int x1 a0.xname fun r2 =>
 K r2
def x_plain_Model_revoke_1 : Cx Try.prog := ⟨tys, [s_slices_Contains_int_int], [2], [], mixed⟩
def h_plain_Model_revoke_1 : Hint := .d
def s_plain_Model_revoke_1 : Spec Try.prog := mkSpec x_plain_Model_revoke_1 184 Try.f184 [S_plain_token.ty, tAdr] [tBool] false h_plain_Model_revoke_1 (fun a => m_plain_Model_revoke_1 a.1 a.2) (fun a K h => by kernel_rfl) callee184 rfl
def m_plain_Model_revoke (a0 : Option Addr) (a1 : S_api_Call) (K : (S_api_Reply) → H → Prop) : H → Prop :=
 m_plain_Model_given a0 a1.Cap 8 fun r1 =>
 mIf (!decide (r1.2 = 0)) (
 mPure (m_plain_refused r1.2) fun r2 =>
 K r2
 ) (
 mIf (decide (r1.1.xparent = 0)) (
 m_plain_Model_gone a0 r1.1.xcap.Obj fun r3 =>
 K r3
 ) (
 mNew 3 #[(Value.int .i64 r1.1.xname)] fun ad4 =>
 mNew 41 #[(Sl.val Sl.nil)] fun ad5 =>
 mStore ad5 [(Sl.val (⟨some ad4, 1, 1⟩ : Sl))] <|
 mDeref a0 fun ad6 =>
 mLoad cSl (ad6.add 13) fun x7 =>
 mLoop (fun (rec9 : Int → H → Prop) (s8 : Int) =>
 mIf (decide (s8 < (x7.len : Int))) (
 mIdx x7 s8 6 fun ad10 =>
 mLoad S_plain_token.cells ad10 fun x11 =>
 mLoad cSl ad5 fun x12 =>
 m_slices_Contains_int_int x12 x11.xparent fun r13 =>
 mIf r13 (
 mLoad cSl ad5 fun x14 =>
 mApp 3 1 8 #[(Value.int .i64 0)] 1 [(Value.int .i64 x11.xname)] x14 fun s15 =>
 mStore ad5 [(Sl.val s15)] <|
 rec9 (iAdd .i64 s8 1)
 ) (
 rec9 (iAdd .i64 s8 1)
 )
 ) (
 mDeref a0 fun ad16 =>
 mLoad cSl (ad16.add 13) fun x17 =>
 m_slices_DeleteFunc_plain_token_plain_token x17 (⟨Value.func (.func 184) #[] #[(Value.pointer (some ad5))], rfl, rfl⟩ : PV) fun r18 =>
 mDeref a0 fun ad19 =>
 mStore (ad19.add 13) [(Sl.val r18)] <|
 K (⟨0, ⟨0, ⟨0, 0⟩⟩, Sl.nil, 0⟩ : S_api_Reply)
 )
 ) 0
 )
 )
def x_plain_Model_revoke : Cx Try.prog := ⟨tys, [s_plain_refused, s_plain_Model_given, s_plain_Model_gone, s_slices_Contains_int_int, s_slices_DeleteFunc_plain_token_plain_token], [3, 4, 5, 9, 50], [], mixed⟩
def h_plain_Model_revoke : Hint := (.seq .d (.seq .d (.seq .d (.seq .d (.seq (.seq .d (.blk (.loop [.slot 39 (tInt .i64)] 9006649498927616 [] .d))) .d)))))
def s_plain_Model_revoke : Spec Try.prog := mkSpec x_plain_Model_revoke 115 Try.f115 [tPtr, S_api_Call.ty] [S_api_Reply.ty] false h_plain_Model_revoke (fun a => m_plain_Model_revoke a.1 a.2) (fun a K h => by kernel_rfl) callee115 rfl
def m_plain_Model_validated (a0 : Option Addr) (a1 : S_api_Call) (a2 : Int) (K : (Int) → H → Prop) : H → Prop :=
 mIf a1.Given (
 m_plain_Model_given a0 a1.Cap a2 fun r1 =>
 K r1.2
 ) (
 mDeref a0 fun ad2 =>
 mLoad cMap (ad2.add 15) fun x3 =>
 mLookup (eqV Try.prog 40 3) Sl.val Sl.nil x3 (Value.int .i64 a1.By) fun r4 =>
 mLoop (fun (rec6 : (Int × Int) → H → Prop) (s5 : Int × Int) =>
 mIf (decide (s5.2 < (r4.1.len : Int))) (
 mIdx r4.1 s5.2 3 fun ad7 =>
 mLoad S_api_Cap.cells ad7 fun x8 =>
 mIf (!decide (x8.Obj = a1.Cap.Obj)) (
 rec6 (s5.1, (iAdd .i64 s5.2 1))
 ) (
 m_plain_Model_given a0 x8 a2 fun r9 =>
 mIf (decide (r9.2 = 0)) (
 K 0
 ) (
 mIf (decide (r9.2 = 4)) (
 rec6 (4, (iAdd .i64 s5.2 1))
 ) (
 rec6 (s5.1, (iAdd .i64 s5.2 1))
 )
 )
 )
 ) (
 K s5.1
 )
 ) (3, 0)
 )
def x_plain_Model_validated : Cx Try.prog := ⟨tys, [s_plain_Model_given], [4, 7, 11, 12], [], mixed⟩
def h_plain_Model_validated : Hint := (.seq .d (.seq .d (.seq .d (.seq (.seq (.reg (.run [0, 4, 8, 16, 32, 21, 14, 26, 28] .nil)) (.blk (.loop [.slot 9 (tInt .i64), .slot 33 (tInt .i64)] 72057585448008256 [] .d))) .d))))
def s_plain_Model_validated : Spec Try.prog := mkSpec x_plain_Model_validated 185 Try.f185 [tPtr, S_api_Call.ty, (tInt .i64)] [(tInt .i64)] false h_plain_Model_validated (fun a => m_plain_Model_validated a.1 a.2.1 a.2.2) (fun a K h => by kernel_rfl) callee185 rfl
def m_plain_Model_place (a0 : Option Addr) (a1 : Int) (a2 : Int) (a3 : Int) (K : (Int) → H → Prop) : H → Prop :=
 mJoin (fun (s4 : Bool) =>
 mIf s4 (
 K 5
 ) (
 K 0
 )
 ) (fun j5 =>
 mIf (((decide (a2 < 0)) || (decide (a3 < 0))) || (decide (1024 < a3))) (
 j5 true
 ) (
 mDeref a0 fun ad6 =>
 mLoad cMap (ad6.add 12) fun x7 =>
 mLookup (eqV Try.prog 40 3) Sl.val Sl.nil x7 (Value.int .i64 a1) fun r8 =>
 j5 (decide ((r8.1.len : Int) < (iAdd .i64 a2 a3)))
 ))
def x_plain_Model_place : Cx Try.prog := ⟨tys, [], [], [], mixed⟩
def h_plain_Model_place : Hint := (.seq .d (.seq (.seq (.reg (.run [3, 7, 11] (.sel 11 14 28672 (.run [15, 19, 23] .nil) (.run [15, 19, 23] .nil) (.run [27] (.sel 15 18 458752 (.run [31, 35, 39] .nil) (.run [31, 35, 39] .nil) (.run [43] (.join [.slot 31 tBool] 4293918720 [] (.split 19 (.run [47, 51, 55, 59, 63, 67, 71, 75, 79, 83, 87, 91] .nil) (.run [47, 51, 55, 59, 63, 67, 71, 75, 79, 83, 87, 91] .nil)) .nil))))))) .d) .d))
def s_plain_Model_place : Spec Try.prog := mkSpec x_plain_Model_place 186 Try.f186 [tPtr, (tInt .i64), (tInt .i64), (tInt .i64)] [(tInt .i64)] false h_plain_Model_place (fun a => m_plain_Model_place a.1 a.2.1 a.2.2.1 a.2.2.2) (fun a K h => by kernel_rfl) callee186 rfl
def m_plain_Model_read (a0 : Option Addr) (a1 : S_api_Call) (K : (S_api_Reply) → H → Prop) : H → Prop :=
 m_plain_Model_validated a0 a1 1 fun r1 =>
 mIf (!decide (r1 = 0)) (
 mPure (m_plain_refused r1) fun r2 =>
 K r2
 ) (
 m_plain_Model_place a0 a1.Cap.Obj a1.Off a1.N fun r3 =>
 mIf (!decide (r3 = 0)) (
 mPure (m_plain_refused r3) fun r4 =>
 K r4
 ) (
 mDeref a0 fun ad5 =>
 mLoad cMap (ad5.add 12) fun x6 =>
 mLookup (eqV Try.prog 40 3) Sl.val Sl.nil x6 (Value.int .i64 a1.Cap.Obj) fun r7 =>
 mCut r7.1 a1.Off (iAdd .i64 a1.Off a1.N) 1 fun s8 =>
 m_slices_Clone_byte_byte s8 fun r9 =>
 K (⟨0, ⟨0, ⟨0, 0⟩⟩, r9, 0⟩ : S_api_Reply)
 )
 )
def x_plain_Model_read : Cx Try.prog := ⟨tys, [s_plain_refused, s_slices_Clone_byte_byte, s_plain_Model_validated, s_plain_Model_place], [3, 4], [], mixed⟩
def h_plain_Model_read : Hint := (.seq .d (.seq .d (.seq .d (.seq (.reg (.run [0, 4, 8, 16, 20, 32, 40, 48, 25, 37, 45, 53, 56, 14, 30, 60, 67, 68, 75] .nil)) .d))))
def s_plain_Model_read : Spec Try.prog := mkSpec x_plain_Model_read 116 Try.f116 [tPtr, S_api_Call.ty] [S_api_Reply.ty] false h_plain_Model_read (fun a => m_plain_Model_read a.1 a.2) (fun a K h => by kernel_rfl) callee116 rfl
def m_plain_Model_write (a0 : Option Addr) (a1 : S_api_Call) (K : (S_api_Reply) → H → Prop) : H → Prop :=
 m_plain_Model_validated a0 a1 2 fun r1 =>
 mIf (!decide (r1 = 0)) (
 mPure (m_plain_refused r1) fun r2 =>
 K r2
 ) (
 m_plain_Model_place a0 a1.Cap.Obj a1.Off (a1.Data.len : Int) fun r3 =>
 mIf (!decide (r3 = 0)) (
 mPure (m_plain_refused r3) fun r4 =>
 K r4
 ) (
 mDeref a0 fun ad5 =>
 mLoad cMap (ad5.add 12) fun x6 =>
 mLookup (eqV Try.prog 40 3) Sl.val Sl.nil x6 (Value.int .i64 a1.Cap.Obj) fun r7 =>
 mCut r7.1 a1.Off (r7.1.len : Int) 1 fun s8 =>
 mCopy 1 s8 a1.Data fun _ =>
 K (⟨0, ⟨0, ⟨0, 0⟩⟩, Sl.nil, 0⟩ : S_api_Reply)
 )
 )
def x_plain_Model_write : Cx Try.prog := ⟨tys, [s_plain_refused, s_plain_Model_validated, s_plain_Model_place], [3, 4], [], mixed⟩
def h_plain_Model_write : Hint := (.seq .d (.seq .d (.seq .d (.seq (.reg (.run [0, 4, 8, 16, 20, 32, 44, 25, 37, 49, 14, 30, 40, 55] .nil)) .d))))
def s_plain_Model_write : Spec Try.prog := mkSpec x_plain_Model_write 117 Try.f117 [tPtr, S_api_Call.ty] [S_api_Reply.ty] false h_plain_Model_write (fun a => m_plain_Model_write a.1 a.2) (fun a K h => by kernel_rfl) callee117 rfl
def m_maps_Keys_map_int_byte_int_byte_1 (a0 : PV) (a1 : Addr) (K : (Unit) → H → Prop) : H → Prop :=
 mLoad cMap a1 fun x1 =>
 mRange x1 fun it2 =>
 mLoop (fun (rec4 : Unit → H → Prop) (_s3 : Unit) =>
 mNext it2 fun n5 =>
 mIf n5.1 (
 mEntry (Value.int .i64) Sl.val it2 fun e6 =>
 mCallV (T := Bool) Try.prog (fun r => (Value.bool r)) a0.1 [(Value.int .i64 e6.1)] fun r7 =>
 mIf (!r7) (
 K ()
 ) (
 rec4 ()
 )
 ) (
 K ()
 )
 ) ()
def x_maps_Keys_map_int_byte_int_byte_1 : Cx Try.prog := ⟨tys, [], [], [(8, 3, 40)], mixed⟩
def h_maps_Keys_map_int_byte_int_byte_1 : Hint := (.seq .d (.blk (.loop [] 16328 [] .d)))
def s_maps_Keys_map_int_byte_int_byte_1 : Spec Try.prog := mkSpec x_maps_Keys_map_int_byte_int_byte_1 189 Try.f189 [tPV, tAdr] [] false h_maps_Keys_map_int_byte_int_byte_1 (fun a => m_maps_Keys_map_int_byte_int_byte_1 a.1 a.2) (fun a K h => by kernel_rfl) callee189 rfl
def m_maps_Keys_map_int_byte_int_byte (a0 : Option Nat) (K : (PV) → H → Prop) : H → Prop :=
 mNew 170 #[(Value.map a0)] fun ad1 =>
 K (⟨Value.func (.func 189) #[] #[(Value.pointer (some ad1))], rfl, rfl⟩ : PV)
def x_maps_Keys_map_int_byte_int_byte : Cx Try.prog := ⟨tys, [], [], [], mixed⟩
def h_maps_Keys_map_int_byte_int_byte : Hint := .d
def s_maps_Keys_map_int_byte_int_byte : Spec Try.prog := mkSpec x_maps_Keys_map_int_byte_int_byte 125 Try.f125 [tMap] [tPV] false h_maps_Keys_map_int_byte_int_byte (fun a => m_maps_Keys_map_int_byte_int_byte a) (fun a K h => by kernel_rfl) callee125 rfl
def m_maps_Keys_map_int_api_Cap_int_api_Cap_1 (a0 : PV) (a1 : Addr) (K : (Unit) → H → Prop) : H → Prop :=
 mLoad cMap a1 fun x1 =>
 mRange x1 fun it2 =>
 mLoop (fun (rec4 : Unit → H → Prop) (_s3 : Unit) =>
 mNext it2 fun n5 =>
 mIf n5.1 (
 mEntry (Value.int .i64) Sl.val it2 fun e6 =>
 mCallV (T := Bool) Try.prog (fun r => (Value.bool r)) a0.1 [(Value.int .i64 e6.1)] fun r7 =>
 mIf (!r7) (
 K ()
 ) (
 rec4 ()
 )
 ) (
 K ()
 )
 ) ()
def x_maps_Keys_map_int_api_Cap_int_api_Cap_1 : Cx Try.prog := ⟨tys, [], [], [(8, 3, 34)], mixed⟩
def h_maps_Keys_map_int_api_Cap_int_api_Cap_1 : Hint := (.seq .d (.blk (.loop [] 16328 [] .d)))
def s_maps_Keys_map_int_api_Cap_int_api_Cap_1 : Spec Try.prog := mkSpec x_maps_Keys_map_int_api_Cap_int_api_Cap_1 190 Try.f190 [tPV, tAdr] [] false h_maps_Keys_map_int_api_Cap_int_api_Cap_1 (fun a => m_maps_Keys_map_int_api_Cap_int_api_Cap_1 a.1 a.2) (fun a K h => by kernel_rfl) callee190 rfl
def m_maps_Keys_map_int_api_Cap_int_api_Cap (a0 : Option Nat) (K : (PV) → H → Prop) : H → Prop :=
 mNew 107 #[(Value.map a0)] fun ad1 =>
 K (⟨Value.func (.func 190) #[] #[(Value.pointer (some ad1))], rfl, rfl⟩ : PV)
def x_maps_Keys_map_int_api_Cap_int_api_Cap : Cx Try.prog := ⟨tys, [], [], [], mixed⟩
def h_maps_Keys_map_int_api_Cap_int_api_Cap : Hint := .d
def s_maps_Keys_map_int_api_Cap_int_api_Cap : Spec Try.prog := mkSpec x_maps_Keys_map_int_api_Cap_int_api_Cap 127 Try.f127 [tMap] [tPV] false h_maps_Keys_map_int_api_Cap_int_api_Cap (fun a => m_maps_Keys_map_int_api_Cap_int_api_Cap a) (fun a K h => by kernel_rfl) callee127 rfl
def m_slices_partialInsertionSortOrdered_int (a0 : Sl) (a1 : Int) (a2 : Int) (K : (Bool) → H → Prop) : H → Prop :=
 mLoop (fun (rec2 : (Int × Int) → H → Prop) (s1 : Int × Int) =>
 mIf (decide (s1.2 < 5)) (
 mLoop (fun (rec4 : Int → H → Prop) (s3 : Int) =>
 mJoin (fun (s10 : Bool) =>
 mIf s10 (
 rec4 (iAdd .i64 s3 1)
 ) (
 mIf (decide (s3 = a2)) (
 K true
 ) (
 mIf (decide ((iSub .i64 a2 a1) < 50)) (
 K false
 ) (
 mIdx a0 (iSub .i64 s3 1) 1 fun ad12 =>
 mIdx a0 s3 1 fun ad13 =>
 mLoad (cInt .i64) ad12 fun x14 =>
 mLoad (cInt .i64) ad13 fun x15 =>
 mIdx a0 s3 1 fun ad16 =>
 mStore ad16 [(Value.int .i64 x14)] <|
 mIdx a0 (iSub .i64 s3 1) 1 fun ad17 =>
 mStore ad17 [(Value.int .i64 x15)] <|
 mJoin (fun (_s18 : Unit) =>
 mIf (decide (2 ≤ (iSub .i64 a2 s3))) (
 mLoop (fun (rec21 : Int → H → Prop) (s20 : Int) =>
 mIf (decide (s20 < a2)) (
 mIdx a0 s20 1 fun ad22 =>
 mIdx a0 (iSub .i64 s20 1) 1 fun ad23 =>
 mLoad (cInt .i64) ad22 fun x24 =>
 mLoad (cInt .i64) ad23 fun x25 =>
 mPure (m_cmp_Less_int x24 x25) fun r26 =>
 mIf (!r26) (
 rec2 (s3, (iAdd .i64 s1.2 1))
 ) (
 mIdx a0 (iSub .i64 s20 1) 1 fun ad27 =>
 mIdx a0 s20 1 fun ad28 =>
 mLoad (cInt .i64) ad27 fun x29 =>
 mLoad (cInt .i64) ad28 fun x30 =>
 mIdx a0 s20 1 fun ad31 =>
 mStore ad31 [(Value.int .i64 x29)] <|
 mIdx a0 (iSub .i64 s20 1) 1 fun ad32 =>
 mStore ad32 [(Value.int .i64 x30)] <|
 rec21 (iAdd .i64 s20 1)
 )
 ) (
 rec2 (s3, (iAdd .i64 s1.2 1))
 )
 ) (iAdd .i64 s3 1)
 ) (
 rec2 (s3, (iAdd .i64 s1.2 1))
 )
 ) (fun j19 =>
 mIf (decide (2 ≤ (iSub .i64 s3 a1))) (
 mLoop (fun (rec34 : Int → H → Prop) (s33 : Int) =>
 mIf (decide (1 ≤ s33)) (
 mIdx a0 s33 1 fun ad35 =>
 mIdx a0 (iSub .i64 s33 1) 1 fun ad36 =>
 mLoad (cInt .i64) ad35 fun x37 =>
 mLoad (cInt .i64) ad36 fun x38 =>
 mPure (m_cmp_Less_int x37 x38) fun r39 =>
 mIf (!r39) (
 j19 ()
 ) (
 mIdx a0 (iSub .i64 s33 1) 1 fun ad40 =>
 mIdx a0 s33 1 fun ad41 =>
 mLoad (cInt .i64) ad40 fun x42 =>
 mLoad (cInt .i64) ad41 fun x43 =>
 mIdx a0 s33 1 fun ad44 =>
 mStore ad44 [(Value.int .i64 x42)] <|
 mIdx a0 (iSub .i64 s33 1) 1 fun ad45 =>
 mStore ad45 [(Value.int .i64 x43)] <|
 rec34 (iSub .i64 s33 1)
 )
 ) (
 j19 ()
 )
 ) (iSub .i64 s3 1)
 ) (
 j19 ()
 )
 )
 )
 )
 )
 ) (fun j11 =>
 mIf (decide (s3 < a2)) (
 mIdx a0 s3 1 fun ad46 =>
 mIdx a0 (iSub .i64 s3 1) 1 fun ad47 =>
 mLoad (cInt .i64) ad46 fun x48 =>
 mLoad (cInt .i64) ad47 fun x49 =>
 mPure (m_cmp_Less_int x48 x49) fun r50 =>
 j11 (!r50)
 ) (
 j11 false
 ))
 ) s1.1
 ) (
 K false
 )
 ) ((iAdd .i64 a1 1), 0)
def x_slices_partialInsertionSortOrdered_int : Cx Try.prog := ⟨tys, [s_cmp_Less_int], [], [], mixed⟩
def h_slices_partialInsertionSortOrdered_int : Hint := (.seq .d (.seq .d (.seq (.seq .d (.blk (.loop [.slot 7 (tInt .i64), .slot 8 (tInt .i64)] 10889035741470030830827987437816582760384 [] (.seq .d (.seq (.blk (.seq (.blk (.loop [.slot 7 (tInt .i64)] 34359607424 [] (.seq (.seq (.reg (.run [0, 4, 8, 12] (.join [.slot 32 tBool] 8587837440 [] (.split 20 (.run [16, 20, 24, 32, 36, 40, 44, 30, 50, 52, 56, 60] .nil) (.run [16, 20, 24, 28, 32, 36, 40, 44, 48, 52, 56, 60] .nil)) .nil))) .d) .d))) (.seq .d (.seq .d (.seq (.reg (.run [0, 4, 8, 12, 16, 20, 24, 28, 32, 40, 44, 48, 38, 54, 56, 63, 64, 71] .nil)) (.join [] 39614081256843938420620263936 [] (.seq .d (.cond (.seq .d (.blk (.loop [.slot 9 (tInt .i64)] 39614081238685424723062424064 [] (.seq .d (.seq (.blk (.seq (.seq (.reg (.run [0, 4, 8, 16, 20, 24, 28, 14, 34, 36, 40] .nil)) .d) (.reg (.run [0, 4, 8, 12, 16, 20, 24, 28, 32, 40, 44, 48, 38, 54, 56, 63, 64, 71] .nil)))) .d))))) .d)) (.seq .d (.cond (.seq .d (.blk (.loop [.slot 10 (tInt .i64)] 10889035738934729630371528634823176356864 [] (.seq .d (.seq (.blk (.seq (.seq (.reg (.run [0, 4, 8, 16, 20, 24, 28, 14, 34, 36, 40] .nil)) .d) (.reg (.run [0, 4, 8, 12, 16, 20, 24, 28, 32, 40, 44, 48, 38, 54, 56, 63, 64, 71] .nil)))) .d))))) .d)))))))) .d))))) .d)))
def s_slices_partialInsertionSortOrdered_int : Spec Try.prog := mkSpec x_slices_partialInsertionSortOrdered_int 222 Try.f222 [tSl, (tInt .i64), (tInt .i64)] [tBool] false h_slices_partialInsertionSortOrdered_int (fun a => m_slices_partialInsertionSortOrdered_int a.1 a.2.1 a.2.2) (fun a K h => by kernel_rfl) callee222 rfl
def m_slices_partitionEqualOrdered_int (a0 : Sl) (a1 : Int) (a2 : Int) (a3 : Int) (K : (Int) → H → Prop) : H → Prop :=
 mIdx a0 a3 1 fun ad1 =>
 mIdx a0 a1 1 fun ad2 =>
 mLoad (cInt .i64) ad1 fun x3 =>
 mLoad (cInt .i64) ad2 fun x4 =>
 mIdx a0 a1 1 fun ad5 =>
 mStore ad5 [(Value.int .i64 x3)] <|
 mIdx a0 a3 1 fun ad6 =>
 mStore ad6 [(Value.int .i64 x4)] <|
 mLoop (fun (rec8 : (Int × Int) → H → Prop) (s7 : Int × Int) =>
 mLoop (fun (rec10 : Int → H → Prop) (s9 : Int) =>
 mJoin (fun (s16 : Bool) =>
 mIf s16 (
 rec10 (iAdd .i64 s9 1)
 ) (
 mLoop (fun (rec19 : Int → H → Prop) (s18 : Int) =>
 mJoin (fun (s25 : Bool) =>
 mIf s25 (
 rec19 (iSub .i64 s18 1)
 ) (
 mIf (decide (s18 < s9)) (
 K s9
 ) (
 mIdx a0 s18 1 fun ad27 =>
 mIdx a0 s9 1 fun ad28 =>
 mLoad (cInt .i64) ad27 fun x29 =>
 mLoad (cInt .i64) ad28 fun x30 =>
 mIdx a0 s9 1 fun ad31 =>
 mStore ad31 [(Value.int .i64 x29)] <|
 mIdx a0 s18 1 fun ad32 =>
 mStore ad32 [(Value.int .i64 x30)] <|
 rec8 ((iAdd .i64 s9 1), (iSub .i64 s18 1))
 )
 )
 ) (fun j26 =>
 mIf (decide (s9 ≤ s18)) (
 mIdx a0 a1 1 fun ad33 =>
 mIdx a0 s18 1 fun ad34 =>
 mLoad (cInt .i64) ad33 fun x35 =>
 mLoad (cInt .i64) ad34 fun x36 =>
 mPure (m_cmp_Less_int x35 x36) fun r37 =>
 j26 r37
 ) (
 j26 false
 ))
 ) s7.2
 )
 ) (fun j17 =>
 mIf (decide (s9 ≤ s7.2)) (
 mIdx a0 a1 1 fun ad38 =>
 mIdx a0 s9 1 fun ad39 =>
 mLoad (cInt .i64) ad38 fun x40 =>
 mLoad (cInt .i64) ad39 fun x41 =>
 mPure (m_cmp_Less_int x40 x41) fun r42 =>
 j17 (!r42)
 ) (
 j17 false
 ))
 ) s7.1
 ) ((iAdd .i64 a1 1), (iSub .i64 a2 1))
def x_slices_partitionEqualOrdered_int : Cx Try.prog := ⟨tys, [s_cmp_Less_int], [], [], mixed⟩
def h_slices_partitionEqualOrdered_int : Hint := (.seq .d (.seq (.reg (.run [0, 4, 8, 12, 16, 20, 24, 32, 36, 40, 30, 46, 48, 55, 56, 63] .nil)) (.seq .d (.seq (.blk (.loop [.slot 9 (tInt .i64), .slot 10 (tInt .i64)] 9671406556917032860780032 [] (.blk (.seq (.blk (.loop [.slot 9 (tInt .i64)] 70368207307264 [] (.seq (.seq (.reg (.run [0, 4, 8, 12] (.join [.slot 43 tBool] 17583596109824 [] (.split 32 (.run [16, 20, 24, 32, 36, 40, 30, 46, 48, 52, 56] .nil) (.run [16, 20, 24, 28, 32, 36, 40, 44, 48, 52, 56] .nil)) .nil))) .d) .d))) (.seq (.blk (.loop [.slot 10 (tInt .i64)] 4611615649683211264 [] (.seq (.seq (.reg (.run [0, 4, 8, 12] (.join [.slot 59 tBool] 1151795604700004352 [] (.split 49 (.run [16, 20, 24, 32, 36, 40, 30, 46, 48, 52] .nil) (.run [16, 20, 24, 28, 32, 36, 40, 44, 48, 52] .nil)) .nil))) .d) .d))) (.seq .d (.seq (.reg (.run [0, 4, 8, 12, 16, 20, 24, 32, 36, 40, 30, 46, 48, 55, 56, 63] .nil)) .d))))))) .d))))
def s_slices_partitionEqualOrdered_int : Spec Try.prog := mkSpec x_slices_partitionEqualOrdered_int 224 Try.f224 [tSl, (tInt .i64), (tInt .i64), (tInt .i64)] [(tInt .i64)] false h_slices_partitionEqualOrdered_int (fun a => m_slices_partitionEqualOrdered_int a.1 a.2.1 a.2.2.1 a.2.2.2) (fun a K h => by kernel_rfl) callee224 rfl
def m_slices_partitionOrdered_int (a0 : Sl) (a1 : Int) (a2 : Int) (a3 : Int) (K : (Int × Bool) → H → Prop) : H → Prop :=
 mIdx a0 a3 1 fun ad1 =>
 mIdx a0 a1 1 fun ad2 =>
 mLoad (cInt .i64) ad1 fun x3 =>
 mLoad (cInt .i64) ad2 fun x4 =>
 mIdx a0 a1 1 fun ad5 =>
 mStore ad5 [(Value.int .i64 x3)] <|
 mIdx a0 a3 1 fun ad6 =>
 mStore ad6 [(Value.int .i64 x4)] <|
 mLoop (fun (rec8 : Int → H → Prop) (s7 : Int) =>
 mJoin (fun (s14 : Bool) =>
 mIf s14 (
 rec8 (iAdd .i64 s7 1)
 ) (
 mLoop (fun (rec17 : Int → H → Prop) (s16 : Int) =>
 mJoin (fun (s23 : Bool) =>
 mIf s23 (
 rec17 (iSub .i64 s16 1)
 ) (
 mIf (decide (s16 < s7)) (
 mIdx a0 a1 1 fun ad25 =>
 mIdx a0 s16 1 fun ad26 =>
 mLoad (cInt .i64) ad25 fun x27 =>
 mLoad (cInt .i64) ad26 fun x28 =>
 mIdx a0 s16 1 fun ad29 =>
 mStore ad29 [(Value.int .i64 x27)] <|
 mIdx a0 a1 1 fun ad30 =>
 mStore ad30 [(Value.int .i64 x28)] <|
 K (s16, true)
 ) (
 mIdx a0 s16 1 fun ad31 =>
 mIdx a0 s7 1 fun ad32 =>
 mLoad (cInt .i64) ad31 fun x33 =>
 mLoad (cInt .i64) ad32 fun x34 =>
 mIdx a0 s7 1 fun ad35 =>
 mStore ad35 [(Value.int .i64 x33)] <|
 mIdx a0 s16 1 fun ad36 =>
 mStore ad36 [(Value.int .i64 x34)] <|
 mLoop (fun (rec38 : (Int × Int) → H → Prop) (s37 : Int × Int) =>
 mLoop (fun (rec40 : Int → H → Prop) (s39 : Int) =>
 mJoin (fun (s46 : Bool) =>
 mIf s46 (
 rec40 (iAdd .i64 s39 1)
 ) (
 mLoop (fun (rec49 : Int → H → Prop) (s48 : Int) =>
 mJoin (fun (s55 : Bool) =>
 mIf s55 (
 rec49 (iSub .i64 s48 1)
 ) (
 mIf (decide (s48 < s39)) (
 mIdx a0 a1 1 fun ad57 =>
 mIdx a0 s48 1 fun ad58 =>
 mLoad (cInt .i64) ad57 fun x59 =>
 mLoad (cInt .i64) ad58 fun x60 =>
 mIdx a0 s48 1 fun ad61 =>
 mStore ad61 [(Value.int .i64 x59)] <|
 mIdx a0 a1 1 fun ad62 =>
 mStore ad62 [(Value.int .i64 x60)] <|
 K (s48, false)
 ) (
 mIdx a0 s48 1 fun ad63 =>
 mIdx a0 s39 1 fun ad64 =>
 mLoad (cInt .i64) ad63 fun x65 =>
 mLoad (cInt .i64) ad64 fun x66 =>
 mIdx a0 s39 1 fun ad67 =>
 mStore ad67 [(Value.int .i64 x65)] <|
 mIdx a0 s48 1 fun ad68 =>
 mStore ad68 [(Value.int .i64 x66)] <|
 rec38 ((iAdd .i64 s39 1), (iSub .i64 s48 1))
 )
 )
 ) (fun j56 =>
 mIf (decide (s39 ≤ s48)) (
 mIdx a0 s48 1 fun ad69 =>
 mIdx a0 a1 1 fun ad70 =>
 mLoad (cInt .i64) ad69 fun x71 =>
 mLoad (cInt .i64) ad70 fun x72 =>
 mPure (m_cmp_Less_int x71 x72) fun r73 =>
 j56 (!r73)
 ) (
 j56 false
 ))
 ) s37.2
 )
 ) (fun j47 =>
 mIf (decide (s39 ≤ s37.2)) (
 mIdx a0 s39 1 fun ad74 =>
 mIdx a0 a1 1 fun ad75 =>
 mLoad (cInt .i64) ad74 fun x76 =>
 mLoad (cInt .i64) ad75 fun x77 =>
 mPure (m_cmp_Less_int x76 x77) fun r78 =>
 j47 r78
 ) (
 j47 false
 ))
 ) s37.1
 ) ((iAdd .i64 s7 1), (iSub .i64 s16 1))
 )
 )
 ) (fun j24 =>
 mIf (decide (s7 ≤ s16)) (
 mIdx a0 s16 1 fun ad79 =>
 mIdx a0 a1 1 fun ad80 =>
 mLoad (cInt .i64) ad79 fun x81 =>
 mLoad (cInt .i64) ad80 fun x82 =>
 mPure (m_cmp_Less_int x81 x82) fun r83 =>
 j24 (!r83)
 ) (
 j24 false
 ))
 ) (iSub .i64 a2 1)
 )
 ) (fun j15 =>
 mIf (decide (s7 ≤ (iSub .i64 a2 1))) (
 mIdx a0 s7 1 fun ad84 =>
 mIdx a0 a1 1 fun ad85 =>
 mLoad (cInt .i64) ad84 fun x86 =>
 mLoad (cInt .i64) ad85 fun x87 =>
 mPure (m_cmp_Less_int x86 x87) fun r88 =>
 j15 r88
 ) (
 j15 false
 ))
 ) (iAdd .i64 a1 1)
def x_slices_partitionOrdered_int : Cx Try.prog := ⟨tys, [s_cmp_Less_int], [], [], mixed⟩
def h_slices_partitionOrdered_int : Hint := (.seq .d (.seq (.reg (.run [0, 4, 8, 12, 16, 20, 24, 32, 36, 40, 30, 46, 48, 55, 56, 63] .nil)) (.seq .d (.seq (.blk (.loop [.slot 10 (tInt .i64)] 70367670436864 [] (.seq (.seq (.reg (.run [0, 4, 8, 12] (.join [.slot 43 tBool] 17575006175232 [] (.split 33 (.run [16, 20, 24, 32, 36, 40, 30, 46, 48, 52] .nil) (.run [16, 20, 24, 28, 32, 36, 40, 44, 48, 52] .nil)) .nil))) .d) .d))) (.seq (.blk (.loop [.slot 11 (tInt .i64)] 9223301668110600192 [] (.seq (.seq (.reg (.run [0, 4, 8, 12] (.join [.slot 60 tBool] 2304717109306851328 [] (.split 49 (.run [16, 20, 24, 32, 36, 40, 30, 46, 48, 52, 56] .nil) (.run [16, 20, 24, 28, 32, 36, 40, 44, 48, 52, 56] .nil)) .nil))) .d) .d))) (.seq (.seq .d (.cond (.seq (.reg (.run [0, 4, 8, 12, 16, 20, 24, 32, 36, 40, 30, 46, 48, 55, 56, 63] .nil)) .d) .d)) (.seq (.reg (.run [0, 4, 8, 12, 16, 20, 24, 32, 36, 40, 30, 46, 48, 55, 56, 63] .nil)) (.seq .d (.seq .d (.seq (.blk (.loop [.slot 10 (tInt .i64), .slot 11 (tInt .i64)] 11417981541647678414640987641481260342710373376 [] (.blk (.seq (.blk (.loop [.slot 10 (tInt .i64)] 41537741042978506913543222282159104 [] (.seq (.seq (.reg (.run [0, 4, 8, 12] (.join [.slot 112 tBool] 10374452512267829421849019032797184 [] (.split 102 (.run [16, 20, 24, 32, 36, 40, 30, 46, 48, 52] .nil) (.run [16, 20, 24, 28, 32, 36, 40, 44, 48, 52] .nil)) .nil))) .d) .d))) (.seq (.blk (.loop [.slot 11 (tInt .i64)] 5444476332360147136792965474937657624576 [] (.seq (.seq (.reg (.run [0, 4, 8, 12] (.join [.slot 129 tBool] 1360464853685861395917046526196932673536 [] (.split 118 (.run [16, 20, 24, 32, 36, 40, 30, 46, 48, 52, 56] .nil) (.run [16, 20, 24, 28, 32, 36, 40, 44, 48, 52, 56] .nil)) .nil))) .d) .d))) (.seq .d (.seq (.reg (.run [0, 4, 8, 12, 16, 20, 24, 32, 36, 40, 30, 46, 48, 55, 56, 63] .nil)) .d))))))) (.seq (.reg (.run [0, 4, 8, 12, 16, 20, 24, 32, 36, 40, 30, 46, 48, 55, 56, 63] .nil)) .d)))))))))))
def s_slices_partitionOrdered_int : Spec Try.prog := mkSpec x_slices_partitionOrdered_int 225 Try.f225 [tSl, (tInt .i64), (tInt .i64), (tInt .i64)] [(tInt .i64), tBool] false h_slices_partitionOrdered_int (fun a => m_slices_partitionOrdered_int a.1 a.2.1 a.2.2.1 a.2.2.2) (fun a K h => by kernel_rfl) callee225 rfl
def m_slices_pdqsortOrdered_int_s (self : (Sl) → (Int) → (Int) → (Int) → ((Unit) → H → Prop) → H → Prop) (a0 : Sl) (a1 : Int) (a2 : Int) (a3 : Int) (K : (Unit) → H → Prop) : H → Prop :=
 mLoop (fun (rec2 : (Int × Int × Int × Bool × Bool) → H → Prop) (s1 : Int × Int × Int × Bool × Bool) =>
 mIf (decide ((iSub .i64 s1.2.1 s1.1) ≤ 12)) (
 m_slices_insertionSortOrdered_int a0 s1.1 s1.2.1 fun _ =>
 K ()
 ) (
 mIf (decide (s1.2.2.1 = 0)) (
 m_slices_heapSortOrdered_int a0 s1.1 s1.2.1 fun _ =>
 K ()
 ) (
 mJoin (fun (s5 : Int) =>
 m_slices_choosePivotOrdered_int a0 s1.1 s1.2.1 fun r7 =>
 mJoin (fun (s8 : Int × Int) =>
 mJoin (fun (_s10 : Unit) =>
 mJoin (fun (s17 : Bool) =>
 mIf s17 (
 m_slices_partitionEqualOrdered_int a0 s1.1 s1.2.1 s8.1 fun r19 =>
 rec2 (r19, s1.2.1, s5, s1.2.2.2.1, s1.2.2.2.2)
 ) (
 m_slices_partitionOrdered_int a0 s1.1 s1.2.1 s8.1 fun r20 =>
 mIf (decide ((iSub .i64 r20.1 s1.1) < (iSub .i64 s1.2.1 r20.1))) (
 self a0 s1.1 r20.1 s5 fun _ =>
 rec2 ((iAdd .i64 r20.1 1), s1.2.1, s5, (decide ((iQuo .i64 (iSub .i64 s1.2.1 s1.1) 8) ≤ (iSub .i64 r20.1 s1.1))), r20.2)
 ) (
 self a0 (iAdd .i64 r20.1 1) s1.2.1 s5 fun _ =>
 rec2 (s1.1, r20.1, s5, (decide ((iQuo .i64 (iSub .i64 s1.2.1 s1.1) 8) ≤ (iSub .i64 s1.2.1 r20.1))), r20.2)
 )
 )
 ) (fun j18 =>
 mIf (decide (0 < s1.1)) (
 mIdx a0 (iSub .i64 s1.1 1) 1 fun ad23 =>
 mIdx a0 s8.1 1 fun ad24 =>
 mLoad (cInt .i64) ad23 fun x25 =>
 mLoad (cInt .i64) ad24 fun x26 =>
 mPure (m_cmp_Less_int x25 x26) fun r27 =>
 j18 (!r27)
 ) (
 j18 false
 ))
 ) (fun j11 =>
 mIf ((s1.2.2.2.1 && s1.2.2.2.2) && (decide (s8.2 = 1))) (
 m_slices_partialInsertionSortOrdered_int a0 s1.1 s1.2.1 fun r28 =>
 mIf r28 (
 K ()
 ) (
 j11 ()
 )
 ) (
 j11 ()
 )
 )
 ) (fun j9 =>
 mIf (decide (r7.2 = 2)) (
 m_slices_reverseRangeOrdered_int a0 s1.1 s1.2.1 fun _ =>
 j9 ((iSub .i64 (iSub .i64 s1.2.1 1) (iSub .i64 r7.1 s1.1)), 1)
 ) (
 j9 (r7.1, r7.2)
 )
 )
 ) (fun j6 =>
 mIf (!s1.2.2.2.1) (
 m_slices_breakPatternsOrdered_int a0 s1.1 s1.2.1 fun _ =>
 j6 (iSub .i64 s1.2.2.1 1)
 ) (
 j6 s1.2.2.1
 )
 )
 )
 )
 ) (a1, a2, a3, true, true)
def m_slices_pdqsortOrdered_int_n : Nat → (Sl) → (Int) → (Int) → (Int) → ((Unit) → H → Prop) → H → Prop
 | 0 => fun _ _ _ _ _ _ => False
 | n + 1 => m_slices_pdqsortOrdered_int_s (m_slices_pdqsortOrdered_int_n n)
def m_slices_pdqsortOrdered_int (a0 : Sl) (a1 : Int) (a2 : Int) (a3 : Int) (K : (Unit) → H → Prop) : H → Prop := fun h => ∃ n, m_slices_pdqsortOrdered_int_n n a0 a1 a2 a3 K h
def r_slices_pdqsortOrdered_int (m : (Sl) → (Int) → (Int) → (Int) → ((Unit) → H → Prop) → H → Prop) (ok : ∀ (a : Den [tSl, (tInt .i64), (tInt .i64), (tInt .i64)]) (K : Den [] → HP) (h : H), m a.1 a.2.1 a.2.2.1 a.2.2.2 K h → ACall Try.prog 211 (valsD [tSl, (tInt .i64), (tInt .i64), (tInt .i64)] a).toArray h (fun v h' => ∃ r, v = outV (valsD [] r) ∧ K r h') noP) : Spec Try.prog := ⟨211, [tSl, (tInt .i64), (tInt .i64), (tInt .i64)], [], false, fun a => m a.1 a.2.1 a.2.2.1 a.2.2.2, ok, ⟨Try.f211, callee211⟩⟩
def x_slices_pdqsortOrdered_int (r : Spec Try.prog) : Cx Try.prog := ⟨tys, [r, s_slices_insertionSortOrdered_int, s_slices_heapSortOrdered_int, s_slices_breakPatternsOrdered_int, s_slices_choosePivotOrdered_int, s_slices_reverseRangeOrdered_int, s_slices_partialInsertionSortOrdered_int, s_cmp_Less_int, s_slices_partitionEqualOrdered_int, s_slices_partitionOrdered_int], [], [], mixed⟩
def h_slices_pdqsortOrdered_int : Hint := (.seq .d (.seq .d (.blk (.loop [.slot 1 (tInt .i64), .slot 2 (tInt .i64), .slot 3 (tInt .i64), .slot 8 tBool, .slot 9 tBool] 21778071482940061661655974875633165532942 [] (.blk (.seq .d (.seq .d (.seq .d (.join [.slot 3 (tInt .i64)] 4380866641928 [] .d (.seq .d (.join [.slot 11 (tInt .i64), .slot 12 (tInt .i64)] 2305280059260278784 [] .d (.join [] 9442427122730076733440 [] (.seq (.reg (.run [3, 7] (.sel 62 64 27670116110564327424 (.run [11, 15] .nil) (.run [11, 15] .nil) (.run [19] (.sel 65 68 516508834063867445248 (.run [23, 27, 31] .nil) (.run [23, 27, 31] .nil) .nil))))) .d) (.seq (.seq (.reg (.run [0, 4, 8] (.join [.slot 87 tBool] 309409451957619154401361920 [] (.split 75 (.run [12, 16, 20, 24, 32, 36, 40, 30, 46, 48, 52, 56] .nil) (.run [12, 16, 20, 24, 28, 32, 36, 40, 44, 48, 52, 56] .nil)) .nil))) .d) .d)))))))))))))
theorem w_slices_pdqsortOrdered_int (m : (Sl) → (Int) → (Int) → (Int) → ((Unit) → H → Prop) → H → Prop) (ok : ∀ (a : Den [tSl, (tInt .i64), (tInt .i64), (tInt .i64)]) (K : Den [] → HP) (h : H), m a.1 a.2.1 a.2.2.1 a.2.2.2 K h → ACall Try.prog 211 (valsD [tSl, (tInt .i64), (tInt .i64), (tInt .i64)] a).toArray h (fun v h' => ∃ r, v = outV (valsD [] r) ∧ K r h') noP) : ∀ (a : Den [tSl, (tInt .i64), (tInt .i64), (tInt .i64)]) (K : Den [] → HP) (h : H), m_slices_pdqsortOrdered_int_s m a.1 a.2.1 a.2.2.1 a.2.2.2 K h = wpF (x_slices_pdqsortOrdered_int (r_slices_pdqsortOrdered_int m ok)) Try.f211 [tSl, (tInt .i64), (tInt .i64), (tInt .i64)] [] h_slices_pdqsortOrdered_int a K h := fun a K h => by kernel_rfl
theorem k_slices_pdqsortOrdered_int : ∀ n : Nat, ∀ (a : Den [tSl, (tInt .i64), (tInt .i64), (tInt .i64)]) (K : Den [] → HP) (h : H), m_slices_pdqsortOrdered_int_n n a.1 a.2.1 a.2.2.1 a.2.2.2 K h → ACall Try.prog 211 (valsD [tSl, (tInt .i64), (tInt .i64), (tInt .i64)] a).toArray h (fun v h' => ∃ r, v = outV (valsD [] r) ∧ K r h') noP
  | 0 => fun _ _ _ x => x.elim
  | n + 1 => (mkSpec (x_slices_pdqsortOrdered_int (r_slices_pdqsortOrdered_int (m_slices_pdqsortOrdered_int_n n) (k_slices_pdqsortOrdered_int n))) 211 Try.f211 [tSl, (tInt .i64), (tInt .i64), (tInt .i64)] [] false h_slices_pdqsortOrdered_int (fun a => m_slices_pdqsortOrdered_int_s (m_slices_pdqsortOrdered_int_n n) a.1 a.2.1 a.2.2.1 a.2.2.2) (w_slices_pdqsortOrdered_int (m_slices_pdqsortOrdered_int_n n) (k_slices_pdqsortOrdered_int n)) callee211 rfl).ok
def s_slices_pdqsortOrdered_int : Spec Try.prog := ⟨211, [tSl, (tInt .i64), (tInt .i64), (tInt .i64)], [], false, fun a => m_slices_pdqsortOrdered_int a.1 a.2.1 a.2.2.1 a.2.2.2, fun a K h ⟨n, x⟩ => k_slices_pdqsortOrdered_int n a K h x, ⟨Try.f211, callee211⟩⟩
def m_slices_Sort_int_int (a0 : Sl) (K : (Unit) → H → Prop) : H → Prop :=
 mPure (m_math_bits_Len (IntKind.wrap .u64 (a0.len : Int))) fun r1 =>
 m_slices_pdqsortOrdered_int a0 0 (a0.len : Int) r1 fun _ =>
 K ()
def x_slices_Sort_int_int : Cx Try.prog := ⟨tys, [s_slices_pdqsortOrdered_int, s_math_bits_Len], [], [], mixed⟩
def h_slices_Sort_int_int : Hint := .d
def s_slices_Sort_int_int : Spec Try.prog := mkSpec x_slices_Sort_int_int 188 Try.f188 [tSl] [] false h_slices_Sort_int_int (fun a => m_slices_Sort_int_int a) (fun a K h => by kernel_rfl) callee188 rfl
def m_slices_Sorted_int (a0 : PV) (K : (Sl) → H → Prop) : H → Prop :=
 m_slices_Collect_int a0 fun r1 =>
 m_slices_Sort_int_int r1 fun _ =>
 K r1
def x_slices_Sorted_int : Cx Try.prog := ⟨tys, [s_slices_Collect_int, s_slices_Sort_int_int], [], [], mixed⟩
def h_slices_Sorted_int : Hint := .d
def s_slices_Sorted_int : Spec Try.prog := mkSpec x_slices_Sorted_int 124 Try.f124 [tPV] [tSl] false h_slices_Sorted_int (fun a => m_slices_Sorted_int a) (fun a K h => by kernel_rfl) callee124 rfl
def m_plain_Model_add (a0 : Option Addr) (a1 : S_api_Call) (K : (S_api_Reply) → H → Prop) : H → Prop :=
 mDeref a0 fun ad1 =>
 mLoad cMap (ad1.add 15) fun x2 =>
 mLookup (eqV Try.prog 40 3) Sl.val Sl.nil x2 (Value.int .i64 a1.By) fun r3 =>
 mDeref a0 fun ad4 =>
 mLoad (cInt .i64) ((ad4.add 0).add 0) fun x5 =>
 mPure (m_wide_Fits a1.Cap.Pass x5) fun r6 =>
 mIf (!r6) (
 mPure (m_plain_refused 18) fun r7 =>
 K r7
 ) (
 mDeref a0 fun ad8 =>
 mLoad (cInt .i64) ((ad8.add 0).add 6) fun x9 =>
 mIf (decide (x9 ≤ (r3.1.len : Int))) (
 mPure (m_plain_refused 14) fun r10 =>
 K r10
 ) (
 mDeref a0 fun ad11 =>
 mJoin (fun (s12 : Option Nat × Sl) =>
 mMapSet (eqV Try.prog 40 3) s12.1 (Value.int .i64 a1.By) (Sl.val s12.2) <|
 K (⟨0, ⟨0, ⟨0, 0⟩⟩, Sl.nil, 0⟩ : S_api_Reply)
 ) (fun j13 =>
 mBoth (
 mLoad cMap (ad11.add 15) fun x14 =>
 mApp 39 3 24 #[(Value.int .i64 0), (Value.int .u64 0), (Value.int .u64 0)] 1 [(Value.int .i64 a1.Cap.Obj), (Value.int .u64 a1.Cap.Pass.Hi), (Value.int .u64 a1.Cap.Pass.Lo)] r3.1 fun s15 =>
 j13 (x14, s15)
 ) (
 mApp 39 3 24 #[(Value.int .i64 0), (Value.int .u64 0), (Value.int .u64 0)] 1 [(Value.int .i64 a1.Cap.Obj), (Value.int .u64 a1.Cap.Pass.Hi), (Value.int .u64 a1.Cap.Pass.Lo)] r3.1 fun s16 =>
 mLoad cMap (ad11.add 15) fun x17 =>
 j13 (x17, s16)
 ))
 )
 )
def x_plain_Model_add : Cx Try.prog := ⟨tys, [s_plain_refused, s_wide_Fits], [3, 4, 44], [], mixed⟩
def h_plain_Model_add : Hint := (.seq .d (.seq (.reg (.run [0, 4, 8, 16, 21, 14, 26, 28] .nil)) (.seq (.blk (.seq (.reg (.run [0, 4, 12, 16, 20, 24, 9, 30, 32, 36, 40] .nil)) .d)) (.seq (.reg (.run [0, 4, 8, 16, 24, 28, 21, 33, 38] (.join [.slot 38 tMap, .slot 45 tSl] 35459249995776 [] (.both 3 10 (.run [43] .nil) (.run [14] .nil)) (.run [47] .nil)))) .d))))
def s_plain_Model_add : Spec Try.prog := mkSpec x_plain_Model_add 118 Try.f118 [tPtr, S_api_Call.ty] [S_api_Reply.ty] false h_plain_Model_add (fun a => m_plain_Model_add a.1 a.2) (fun a K h => by kernel_rfl) callee118 rfl
def m_plain_Model_remove (a0 : Option Addr) (a1 : S_api_Call) (K : (S_api_Reply) → H → Prop) : H → Prop :=
 mDeref a0 fun ad1 =>
 mLoad cMap (ad1.add 15) fun x2 =>
 mLookup (eqV Try.prog 40 3) Sl.val Sl.nil x2 (Value.int .i64 a1.By) fun r3 =>
 mIf (decide ((r3.1.len : Int) ≤ a1.Index)) (
 mPure (m_plain_refused 15) fun r4 =>
 K r4
 ) (
 mDeref a0 fun ad5 =>
 mJoin (fun (s6 : Option Nat × Sl) =>
 mMapSet (eqV Try.prog 40 3) s6.1 (Value.int .i64 a1.By) (Sl.val s6.2) <|
 K (⟨0, ⟨0, ⟨0, 0⟩⟩, Sl.nil, 0⟩ : S_api_Reply)
 ) (fun j7 =>
 mBoth (
 mLoad cMap (ad5.add 15) fun x8 =>
 m_slices_Delete_api_Cap_api_Cap r3.1 a1.Index (iAdd .i64 a1.Index 1) fun r9 =>
 j7 (x8, r9)
 ) (
 m_slices_Delete_api_Cap_api_Cap r3.1 a1.Index (iAdd .i64 a1.Index 1) fun r10 =>
 mLoad cMap (ad5.add 15) fun x11 =>
 j7 (x11, r10)
 ))
 )
def x_plain_Model_remove : Cx Try.prog := ⟨tys, [s_plain_refused, s_slices_Delete_api_Cap_api_Cap], [3, 4], [], mixed⟩
def h_plain_Model_remove : Hint := (.seq .d (.seq (.reg (.run [0, 4, 8, 16, 21, 14, 26, 28] .nil)) (.seq .d (.seq (.reg (.run [0, 4, 8, 16, 24, 28, 36, 21, 33, 41, 44] (.join [.slot 22 tMap, .slot 31 tSl] 2151677952 [] (.both 3 12 (.run [51] .nil) (.run [14] .nil)) (.run [55] .nil)))) .d))))
def s_plain_Model_remove : Spec Try.prog := mkSpec x_plain_Model_remove 119 Try.f119 [tPtr, S_api_Call.ty] [S_api_Reply.ty] false h_plain_Model_remove (fun a => m_plain_Model_remove a.1 a.2) (fun a K h => by kernel_rfl) callee119 rfl
def m_plain_Model_spawn (a0 : Option Addr) (a1 : S_api_Call) (K : (S_api_Reply) → H → Prop) : H → Prop :=
 mLoop (fun (rec2 : (Sl × Int) → H → Prop) (s1 : Sl × Int) =>
 mIf (decide (s1.2 < (a1.Gifts.len : Int))) (
 mIdx a1.Gifts s1.2 1 fun ad3 =>
 mLoad (cInt .i64) ad3 fun x4 =>
 mDeref a0 fun ad5 =>
 mLoad cMap (ad5.add 15) fun x6 =>
 mLookup (eqV Try.prog 40 3) Sl.val Sl.nil x6 (Value.int .i64 a1.By) fun r7 =>
 mIf (decide ((r7.1.len : Int) ≤ x4)) (
 mPure (m_plain_refused 15) fun r8 =>
 K r8
 ) (
 mDeref a0 fun ad9 =>
 mLoad cMap (ad9.add 15) fun x10 =>
 mLookup (eqV Try.prog 40 3) Sl.val Sl.nil x10 (Value.int .i64 a1.By) fun r11 =>
 mIdx r11.1 x4 3 fun ad12 =>
 mLoad S_api_Cap.cells ad12 fun x13 =>
 mApp 39 3 24 #[(Value.int .i64 0), (Value.int .u64 0), (Value.int .u64 0)] 1 [(Value.int .i64 x13.Obj), (Value.int .u64 x13.Pass.Hi), (Value.int .u64 x13.Pass.Lo)] s1.1 fun s14 =>
 rec2 (s14, (iAdd .i64 s1.2 1))
 )
 ) (
 mDeref a0 fun ad15 =>
 mLoad (cInt .i64) ((ad15.add 0).add 6) fun x16 =>
 mIf (decide (x16 < (s1.1.len : Int))) (
 mPure (m_plain_refused 14) fun r17 =>
 K r17
 ) (
 mDeref a0 fun ad18 =>
 mDeref a0 fun ad19 =>
 mLoad cMap (ad18.add 15) fun x20 =>
 mMapLen x20 fun n21 =>
 mLoad (cInt .i64) ((ad19.add 0).add 5) fun x22 =>
 mJoin (fun (s25 : Bool) =>
 mIf s25 (
 mPure (m_plain_refused 13) fun r27 =>
 K r27
 ) (
 mDeref a0 fun ad28 =>
 mLoad (cInt .i64) (ad28.add 17) fun x29 =>
 mDeref a0 fun ad30 =>
 mLoad (cInt .i64) (ad30.add 17) fun x31 =>
 mDeref a0 fun ad32 =>
 mStore (ad32.add 17) [(Value.int .i64 (iAdd .i64 x31 1))] <|
 mDeref a0 fun ad33 =>
 mLoad cMap (ad33.add 15) fun x34 =>
 mMapSet (eqV Try.prog 40 3) x34 (Value.int .i64 x29) (Sl.val s1.1) <|
 K (⟨0, ⟨0, ⟨0, 0⟩⟩, Sl.nil, x29⟩ : S_api_Reply)
 )
 ) (fun j26 =>
 mIf (decide (x22 ≤ n21)) (
 j26 true
 ) (
 mDeref a0 fun ad35 =>
 mLoad (cInt .i64) (ad35.add 17) fun x36 =>
 j26 (decide (65535 < x36))
 ))
 )
 )
 ) (Sl.nil, 0)
def x_plain_Model_spawn : Cx Try.prog := ⟨tys, [s_plain_refused], [3, 4, 38], [], mixed⟩
def h_plain_Model_spawn : Hint := (.seq .d (.seq .d (.seq (.seq .d (.blk (.loop [.slot 5 tSl, .slot 12 (tInt .i64)] 2199023251616 [] (.seq .d (.seq .d (.seq (.blk (.seq .d (.seq (.seq (.reg (.run [0, 4, 8, 12, 20, 25, 18, 30, 32, 36] .nil)) .d) (.reg (.run [0, 4, 8, 12, 20, 32, 25, 18, 30, 36, 42, 46, 51, 52] .nil))))) .d)))))) (.seq (.blk (.seq .d (.cond .d (.seq (.reg (.run [0, 4, 8, 20, 24, 28, 32, 14, 18, 38, 40, 44] (.join [.slot 69 tBool] 1162144876643701751808 [] (.split 63 (.run [48, 52, 56, 60, 64, 68] .nil) (.run [48, 52, 56, 62, 64, 68] .nil)) (.run [72] .nil)))) .d)))) .d))))
def s_plain_Model_spawn : Spec Try.prog := mkSpec x_plain_Model_spawn 120 Try.f120 [tPtr, S_api_Call.ty] [S_api_Reply.ty] false h_plain_Model_spawn (fun a => m_plain_Model_spawn a.1 a.2) (fun a K h => by kernel_rfl) callee120 rfl
def m_plain_Model_Do (a0 : Option Addr) (a1 : S_api_Call) (K : (S_api_Reply) → H → Prop) : H → Prop :=
 m_plain_formed a1 fun r1 =>
 mIf (!r1) (
 mPure (m_plain_refused 1) fun r2 =>
 K r2
 ) (
 mDeref a0 fun ad3 =>
 mLoad cMap (ad3.add 15) fun x4 =>
 mLookup (eqV Try.prog 40 3) Sl.val Sl.nil x4 (Value.int .i64 a1.By) fun r5 =>
 mIf (!r5.2) (
 mPure (m_plain_refused 2) fun r6 =>
 K r6
 ) (
 mIf (decide (a1.Op = 1)) (
 m_plain_Model_create a0 a1 fun r7 =>
 K r7
 ) (
 mIf (decide (a1.Op = 2)) (
 m_plain_Model_destroy a0 a1 fun r8 =>
 K r8
 ) (
 mIf (decide (a1.Op = 3)) (
 m_plain_Model_derive a0 a1 fun r9 =>
 K r9
 ) (
 mIf (decide (a1.Op = 4)) (
 m_plain_Model_revoke a0 a1 fun r10 =>
 K r10
 ) (
 mIf (decide (a1.Op = 5)) (
 m_plain_Model_read a0 a1 fun r11 =>
 K r11
 ) (
 mIf (decide (a1.Op = 6)) (
 m_plain_Model_write a0 a1 fun r12 =>
 K r12
 ) (
 mIf (decide (a1.Op = 7)) (
 m_plain_Model_add a0 a1 fun r13 =>
 K r13
 ) (
 mIf (decide (a1.Op = 8)) (
 m_plain_Model_remove a0 a1 fun r14 =>
 K r14
 ) (
 mIf (decide (a1.Op = 9)) (
 m_plain_Model_spawn a0 a1 fun r15 =>
 K r15
 ) (
 mDeref a0 fun ad16 =>
 mLoad cMap (ad16.add 15) fun x17 =>
 mMapDel (eqV Try.prog 40 3) x17 (Value.int .i64 a1.By) <|
 K (⟨0, ⟨0, ⟨0, 0⟩⟩, Sl.nil, 0⟩ : S_api_Reply)
 )
 )
 )
 )
 )
 )
 )
 )
 )
 )
 )
def x_plain_Model_Do : Cx Try.prog := ⟨tys, [s_plain_formed, s_plain_refused, s_plain_Model_create, s_plain_Model_destroy, s_plain_Model_derive, s_plain_Model_revoke, s_plain_Model_read, s_plain_Model_write, s_plain_Model_add, s_plain_Model_remove, s_plain_Model_spawn], [3, 4], [], mixed⟩
def h_plain_Model_Do : Hint := (.seq .d (.seq .d (.seq (.seq (.reg (.run [0, 4, 8, 16, 21, 14, 26, 28, 32, 36, 40, 44] .nil)) .d) (.seq .d (.seq (.reg (.run [0, 4, 8, 16, 21, 14, 27] .nil)) .d)))))
def s_plain_Model_Do : Spec Try.prog := mkSpec x_plain_Model_Do 35 Try.f35 [tPtr, S_api_Call.ty] [S_api_Reply.ty] false h_plain_Model_Do (fun a => m_plain_Model_Do a.1 a.2) (fun a K h => by kernel_rfl) callee35 rfl
def m_plain_Model_below_s (self : (Option Addr) → (Sl) → (Int) → (Int) → (Int) → ((Sl) → H → Prop) → H → Prop) (a0 : Option Addr) (a1 : Sl) (a2 : Int) (a3 : Int) (a4 : Int) (K : (Sl) → H → Prop) : H → Prop :=
 mDeref a0 fun ad1 =>
 mLoad cSl (ad1.add 13) fun x2 =>
 mLoop (fun (rec4 : (Sl × Int) → H → Prop) (s3 : Sl × Int) =>
 mIf (decide (s3.2 < (x2.len : Int))) (
 mIdx x2 s3.2 6 fun ad5 =>
 mLoad S_plain_token.cells ad5 fun x6 =>
 mIf ((decide (x6.xcap.Obj = a2)) && (decide (x6.xparent = a3))) (
 mApp 88 5 40 #[(Value.int .i64 0), (Value.int .u64 0), (Value.int .u64 0), (Value.int .i64 0), (Value.int .i64 0)] 1 [(Value.int .i64 x6.xcap.Obj), (Value.int .u64 x6.xcap.Pass.Hi), (Value.int .u64 x6.xcap.Pass.Lo), (Value.int .i64 x6.xrights), (Value.int .i64 a4)] s3.1 fun s7 =>
 self a0 s7 a2 x6.xname (iSub .i64 (s7.len : Int) 1) fun r8 =>
 rec4 (r8, (iAdd .i64 s3.2 1))
 ) (
 rec4 (s3.1, (iAdd .i64 s3.2 1))
 )
 ) (
 K s3.1
 )
 ) (a1, 0)
def m_plain_Model_below_n : Nat → (Option Addr) → (Sl) → (Int) → (Int) → (Int) → ((Sl) → H → Prop) → H → Prop
 | 0 => fun _ _ _ _ _ _ _ => False
 | n + 1 => m_plain_Model_below_s (m_plain_Model_below_n n)
def m_plain_Model_below (a0 : Option Addr) (a1 : Sl) (a2 : Int) (a3 : Int) (a4 : Int) (K : (Sl) → H → Prop) : H → Prop := fun h => ∃ n, m_plain_Model_below_n n a0 a1 a2 a3 a4 K h
def r_plain_Model_below (m : (Option Addr) → (Sl) → (Int) → (Int) → (Int) → ((Sl) → H → Prop) → H → Prop) (ok : ∀ (a : Den [tPtr, tSl, (tInt .i64), (tInt .i64), (tInt .i64)]) (K : Den [tSl] → HP) (h : H), m a.1 a.2.1 a.2.2.1 a.2.2.2.1 a.2.2.2.2 K h → ACall Try.prog 126 (valsD [tPtr, tSl, (tInt .i64), (tInt .i64), (tInt .i64)] a).toArray h (fun v h' => ∃ r, v = outV (valsD [tSl] r) ∧ K r h') noP) : Spec Try.prog := ⟨126, [tPtr, tSl, (tInt .i64), (tInt .i64), (tInt .i64)], [tSl], false, fun a => m a.1 a.2.1 a.2.2.1 a.2.2.2.1 a.2.2.2.2, ok, ⟨Try.f126, callee126⟩⟩
def x_plain_Model_below (r : Spec Try.prog) : Cx Try.prog := ⟨tys, [r], [12, 40], [], mixed⟩
def h_plain_Model_below : Hint := (.seq .d (.seq (.seq .d (.blk (.loop [.slot 1 tSl, .slot 18 (tInt .i64)] 4503599627112450 [] (.seq .d (.seq .d (.seq (.blk (.seq .d (.seq (.reg (.run [3, 7, 11, 15, 19, 23] (.sel 27 32 8321499136 (.run [27, 31, 35, 39, 43] .nil) (.run [27, 31, 35, 39, 43] .nil) .nil))) .d))) .d)))))) .d))
theorem w_plain_Model_below (m : (Option Addr) → (Sl) → (Int) → (Int) → (Int) → ((Sl) → H → Prop) → H → Prop) (ok : ∀ (a : Den [tPtr, tSl, (tInt .i64), (tInt .i64), (tInt .i64)]) (K : Den [tSl] → HP) (h : H), m a.1 a.2.1 a.2.2.1 a.2.2.2.1 a.2.2.2.2 K h → ACall Try.prog 126 (valsD [tPtr, tSl, (tInt .i64), (tInt .i64), (tInt .i64)] a).toArray h (fun v h' => ∃ r, v = outV (valsD [tSl] r) ∧ K r h') noP) : ∀ (a : Den [tPtr, tSl, (tInt .i64), (tInt .i64), (tInt .i64)]) (K : Den [tSl] → HP) (h : H), m_plain_Model_below_s m a.1 a.2.1 a.2.2.1 a.2.2.2.1 a.2.2.2.2 K h = wpF (x_plain_Model_below (r_plain_Model_below m ok)) Try.f126 [tPtr, tSl, (tInt .i64), (tInt .i64), (tInt .i64)] [tSl] h_plain_Model_below a K h := fun a K h => by kernel_rfl
theorem k_plain_Model_below : ∀ n : Nat, ∀ (a : Den [tPtr, tSl, (tInt .i64), (tInt .i64), (tInt .i64)]) (K : Den [tSl] → HP) (h : H), m_plain_Model_below_n n a.1 a.2.1 a.2.2.1 a.2.2.2.1 a.2.2.2.2 K h → ACall Try.prog 126 (valsD [tPtr, tSl, (tInt .i64), (tInt .i64), (tInt .i64)] a).toArray h (fun v h' => ∃ r, v = outV (valsD [tSl] r) ∧ K r h') noP
  | 0 => fun _ _ _ x => x.elim
  | n + 1 => (mkSpec (x_plain_Model_below (r_plain_Model_below (m_plain_Model_below_n n) (k_plain_Model_below n))) 126 Try.f126 [tPtr, tSl, (tInt .i64), (tInt .i64), (tInt .i64)] [tSl] false h_plain_Model_below (fun a => m_plain_Model_below_s (m_plain_Model_below_n n) a.1 a.2.1 a.2.2.1 a.2.2.2.1 a.2.2.2.2) (w_plain_Model_below (m_plain_Model_below_n n) (k_plain_Model_below n)) callee126 rfl).ok
def s_plain_Model_below : Spec Try.prog := ⟨126, [tPtr, tSl, (tInt .i64), (tInt .i64), (tInt .i64)], [tSl], false, fun a => m_plain_Model_below a.1 a.2.1 a.2.2.1 a.2.2.2.1 a.2.2.2.2, fun a K h ⟨n, x⟩ => k_plain_Model_below n a K h x, ⟨Try.f126, callee126⟩⟩
def m_plain_Model_State (a0 : Option Addr) (K : (S_api_State) → H → Prop) : H → Prop :=
 mDeref a0 fun ad1 =>
 mDeref a0 fun ad2 =>
 mDeref a0 fun ad3 =>
 mLoad (cInt .i64) (ad1.add 16) fun x4 =>
 mLoad (cInt .i64) (ad2.add 17) fun x5 =>
 mLoad (cInt .i64) (ad3.add 11) fun x6 =>
 mMakeMap fun m7 =>
 mMakeMap fun m8 =>
 mDeref a0 fun ad9 =>
 mLoad cMap (ad9.add 12) fun x10 =>
 mRange x10 fun it11 =>
 mLoop (fun (rec13 : Unit → H → Prop) (_s12 : Unit) =>
 mNext it11 fun n14 =>
 mIf n14.1 (
 mEntry (Value.int .i64) Sl.val it11 fun e15 =>
 m_slices_Clone_byte_byte e15.2 fun r16 =>
 mMapSet (eqV Try.prog 40 3) m7 (Value.int .i64 e15.1) (Sl.val r16) <|
 rec13 ()
 ) (
 mDeref a0 fun ad17 =>
 mLoad cMap (ad17.add 15) fun x18 =>
 mRange x18 fun it19 =>
 mLoop (fun (rec21 : Unit → H → Prop) (_s20 : Unit) =>
 mNext it19 fun n22 =>
 mIf n22.1 (
 mEntry (Value.int .i64) Sl.val it19 fun e23 =>
 m_slices_Clone_api_Cap_api_Cap e23.2 fun r24 =>
 mMapSet (eqV Try.prog 40 3) m8 (Value.int .i64 e23.1) (Sl.val r24) <|
 rec21 ()
 ) (
 m_maps_Keys_map_int_byte_int_byte m7 fun r25 =>
 m_slices_Sorted_int r25 fun r26 =>
 mLoop (fun (rec28 : (Int × Sl × Sl × Sl × Int × Int × Int) → H → Prop) (s27 : Int × Sl × Sl × Sl × Int × Int × Int) =>
 mIf (decide (s27.1 < (r26.len : Int))) (
 mIdx r26 s27.1 1 fun ad29 =>
 mLoad (cInt .i64) ad29 fun x30 =>
 mLookup (eqV Try.prog 40 3) Sl.val Sl.nil m7 (Value.int .i64 x30) fun r31 =>
 mApp 86 2 32 #[(Value.int .i64 0), (Sl.val Sl.nil)] 1 [(Value.int .i64 x30), (Sl.val r31.1)] s27.2.1 fun s32 =>
 m_plain_Model_below a0 s27.2.2.1 x30 0 (-1) fun r33 =>
 rec28 ((iAdd .i64 s27.1 1), s32, r33, s27.2.2.2.1, s27.2.2.2.2.1, s27.2.2.2.2.2.1, s27.2.2.2.2.2.2)
 ) (
 m_maps_Keys_map_int_api_Cap_int_api_Cap m8 fun r34 =>
 m_slices_Sorted_int r34 fun r35 =>
 mLoop (fun (rec37 : (Int × Sl × Sl × Sl × Int × Int × Int) → H → Prop) (s36 : Int × Sl × Sl × Sl × Int × Int × Int) =>
 mIf (decide (s36.1 < (r35.len : Int))) (
 mIdx r35 s36.1 1 fun ad38 =>
 mLoad (cInt .i64) ad38 fun x39 =>
 mLookup (eqV Try.prog 40 3) Sl.val Sl.nil m8 (Value.int .i64 x39) fun r40 =>
 mApp 90 2 32 #[(Value.int .i64 0), (Sl.val Sl.nil)] 1 [(Value.int .i64 x39), (Sl.val r40.1)] s36.2.2.2.1 fun s41 =>
 rec37 ((iAdd .i64 s36.1 1), s36.2.1, s36.2.2.1, s41, s36.2.2.2.2.1, s36.2.2.2.2.2.1, s36.2.2.2.2.2.2)
 ) (
 K (⟨s36.2.1, s36.2.2.1, s36.2.2.2.1, s36.2.2.2.2.1, s36.2.2.2.2.2.1, s36.2.2.2.2.2.2⟩ : S_api_State)
 )
 ) (0, s27.2.1, s27.2.2.1, s27.2.2.2.1, s27.2.2.2.2.1, s27.2.2.2.2.2.1, s27.2.2.2.2.2.2)
 )
 ) (0, Sl.nil, Sl.nil, Sl.nil, x4, x5, x6)
 )
 ) ()
 )
 ) ()
def x_plain_Model_State : Cx Try.prog := ⟨tys, [s_slices_Clone_byte_byte, s_slices_Clone_api_Cap_api_Cap, s_slices_Sorted_int, s_maps_Keys_map_int_byte_int_byte, s_plain_Model_below, s_maps_Keys_map_int_api_Cap_int_api_Cap], [2, 3, 72, 97], [(36, 3, 40), (50, 3, 34)], mixed⟩
def h_plain_Model_State : Hint := (.seq .d (.seq (.reg (.run [0, 4, 8, 16, 20, 24, 32, 36, 40, 14, 30, 46, 48, 54, 59] .nil)) (.seq .d (.seq (.seq .d (.blk (.loop [] 8778913153216 [] .d))) (.seq (.seq .d (.blk (.loop [] 143833713099145984 [] .d))) (.seq (.seq .d (.blk (.loop [.slot 61 (tInt .i64), .cell 3 0 tSl, .cell 3 1 tSl, .cell 3 2 tSl, .cell 3 3 (tInt .i64), .cell 3 4 (tInt .i64), .cell 3 5 (tInt .i64)] 4835700972615507485132800 [3] .d))) (.seq (.seq .d (.blk (.loop [.slot 86 (tInt .i64), .cell 3 0 tSl, .cell 3 1 tSl, .cell 3 2 tSl, .cell 3 3 (tInt .i64), .cell 3 4 (tInt .i64), .cell 3 5 (tInt .i64)] 2535223829204003466726225223680 [3] .d))) .d)))))))
def s_plain_Model_State : Spec Try.prog := mkSpec x_plain_Model_State 39 Try.f39 [tPtr] [S_api_State.ty] false h_plain_Model_State (fun a => m_plain_Model_State a) (fun a K h => by kernel_rfl) callee39 rfl
def m_plain_Run (a0 : S_api_Config) (a1 : Sl) (a2 : Sl) (K : (Sl × Int) → H → Prop) : H → Prop :=
 m_plain_New a0 a1 fun r1 =>
 mIf (!decide (r1.2 = 0)) (
 K (Sl.nil, r1.2)
 ) (
 mLoop (fun (rec3 : (Sl × Int) → H → Prop) (s2 : Sl × Int) =>
 mIf (decide (s2.2 < (a2.len : Int))) (
 mIdx a2 s2.2 13 fun ad4 =>
 mLoad S_api_Call.cells ad4 fun x5 =>
 m_plain_Model_Do r1.1 x5 fun r6 =>
 mApp 47 6 64 #[(Value.int .i64 0), (Value.int .i64 0), (Value.int .u64 0), (Value.int .u64 0), (Sl.val Sl.nil), (Value.int .i64 0)] 1 [(Value.int .i64 r6.Code), (Value.int .i64 r6.Cap.Obj), (Value.int .u64 r6.Cap.Pass.Hi), (Value.int .u64 r6.Cap.Pass.Lo), (Sl.val r6.Data), (Value.int .i64 r6.Number)] s2.1 fun s7 =>
 rec3 (s7, (iAdd .i64 s2.2 1))
 ) (
 K (s2.1, 0)
 )
 ) (Sl.nil, 0)
 )
def x_plain_Run : Cx Try.prog := ⟨tys, [s_plain_New, s_plain_Model_Do], [3, 12, 32], [], mixed⟩
def h_plain_Run : Hint := (.seq .d (.seq .d (.seq .d (.seq .d (.seq (.seq .d (.blk (.loop [.slot 10 tSl, .slot 24 (tInt .i64)] 34342966272 [] .d))) .d)))))
def s_plain_Run : Spec Try.prog := mkSpec x_plain_Run 31 Try.f31 [S_api_Config.ty, tSl, tSl] [tSl, (tInt .i64)] false h_plain_Run (fun a => m_plain_Run a.1 a.2.1 a.2.2) (fun a K h => by kernel_rfl) callee31 rfl
end Go.Proofs.Ytbjkfllncegpcaa.K
namespace Go.Proofs.Ytbjkfllncegpcaa.K
open Go
abbrev cTk := S_plain_token.cells
abbrev cCp := S_api_Cap.cells
theorem ptk_len : ∀ x : S_plain_token, (cTk x).length = 6 := fun _ => rfl
theorem keyP {t : TypeId} (hu : Try.prog.underlying t = some (.int .i64)) : KeyEq (eqV Try.prog 40 t) (Value.int .i64) := fun a b => by
  show eqV Try.prog (39 + 1) t _ _ = _
  rw [eqV.eq_2, hu]
  rfl
section alists
variable {V W : Type}
theorem aidx_keys (k : Int) : ∀ {l : List (Int × V)} {m : List (Int × W)}, l.map (·.1) = m.map (·.1) → (aidx l k).map (·.1) = (aidx m k).map (·.1)
  | [], [], _ => rfl
  | [], _ :: _, e => by cases e
  | _ :: _, [], e => by cases e
  | (a, w) :: r, (a', w') :: r', e => by
    rw [List.map_cons, List.map_cons, List.cons.injEq] at e
    obtain ⟨e1, e2⟩ := e
    have e1 : a = a' := e1
    subst e1
    rw [aidx_cons, aidx_cons]
    by_cases c : k = a
    · rw [if_pos c, if_pos c]; rfl
    · rw [if_neg c, if_neg c]
      have := aidx_keys k e2
      cases x : aidx r k <;> cases z : aidx r' k <;> rw [x, z] at this <;> simp_all
theorem alook_some {l : List (Int × V)} {m : List (Int × W)} (e : l.map (·.1) = m.map (·.1)) (k : Int) : (alook l k).isSome = (alook m k).isSome := by
  have := aidx_keys k e
  unfold alook
  cases x : aidx l k <;> cases z : aidx m k <;> rw [x, z] at this <;> simp_all
theorem aset_map (k : Int) (v : V) : ∀ l : List (Int × V), (aset l k v).map (·.1) = if k ∈ l.map (·.1) then l.map (·.1) else l.map (·.1) ++ [k]
  | [] => rfl
  | (a, w) :: r => by
    rw [aset_cons]
    by_cases c : k = a
    · subst c; simp
    · rw [if_neg c, List.map_cons, aset_map k v r]
      show a :: (if k ∈ r.map (·.1) then r.map (·.1) else r.map (·.1) ++ [k]) = if k ∈ a :: r.map (·.1) then a :: r.map (·.1) else (a :: r.map (·.1)) ++ [k]
      by_cases q : k ∈ r.map (·.1)
      · rw [if_pos q, if_pos (List.mem_cons_of_mem _ q)]
      · rw [if_neg q, if_neg (by rw [List.mem_cons]; exact fun z => z.elim c q)]; rfl
theorem aset_new {k : Int} {v : V} : ∀ {l : List (Int × V)}, k ∉ l.map (·.1) → aset l k v = l ++ [(k, v)]
  | [], _ => rfl
  | (a, w) :: r, h => by
    rw [List.map_cons, List.mem_cons, not_or] at h
    rw [aset_cons, if_neg h.1, aset_new h.2]; rfl
end alists
structure Rows {T : Type} (cells : T → List Value) (sz : Nat) (e : TypeId) (h : H) (F : Nat → Prop) (so : List (Int × Sl)) (ob : List (Int × List T)) : Prop where
  keys : so.map (·.1) = ob.map (·.1)
  once : Once ob
  buf : ∀ k s xs, alook so k = some s → alook ob k = some xs → Buf cells sz e h s xs
  apart : ∀ k k' s s', k ≠ k' → alook so k = some s → alook so k' = some s' → ∀ c, s.foot c → ¬ s'.foot c
  foot : ∀ k s, alook so k = some s → ∀ c, s.foot c → F c
section
variable {T : Type} {cells : T → List Value} {sz : Nat} {e : TypeId} {h h' : H} {F F' G : Nat → Prop} {so : List (Int × Sl)} {ob : List (Int × List T)}
theorem Rows.nil : Rows cells sz e h F [] ([] : List (Int × List T)) := ⟨rfl, List.nodup_nil, fun _ _ _ q => (by cases q), fun _ _ _ _ _ q => (by cases q), fun _ _ q => (by cases q)⟩
theorem Rows.onceS (x : Rows cells sz e h F so ob) : Once so := by
  have := x.once
  unfold Once at *
  rw [x.keys]; exact this
theorem Rows.look (x : Rows cells sz e h F so ob) {k : Int} {xs : List T} (q : alook ob k = some xs) : ∃ s, alook so k = some s ∧ Buf cells sz e h s xs := by
  have := alook_some x.keys k
  rw [q] at this
  cases z : alook so k with
  | none => rw [z] at this; cases this
  | some s => exact ⟨s, rfl, x.buf k s xs z q⟩
theorem Rows.none (x : Rows cells sz e h F so ob) {k : Int} (q : alook ob k = none) : alook so k = none := by
  have := alook_some x.keys k
  rw [q] at this
  cases z : alook so k with
  | none => rfl
  | some s => rw [z] at this; cases this
theorem Rows.get (x : Rows cells sz e h F so ob) (k : Int) : Buf cells sz e h ((alook so k).getD Sl.nil) ((alook ob k).getD []) := by
  cases q : alook ob k with
  | none => rw [x.none q]; exact Buf.nil
  | some xs => obtain ⟨s, e1, b⟩ := x.look q; rw [e1]; exact b
theorem Rows.but (x : Rows cells sz e h F so ob) (k : But G h h') (f : ∀ i s, alook so i = some s → ∀ c, s.foot c → ¬ G c) : Rows cells sz e h' F so ob :=
  ⟨x.keys, x.once, fun i s xs q1 q2 => (x.buf i s xs q1 q2).but k fun ad ha g => f i s q1 _ ⟨ad, ha, rfl⟩ g, x.apart, x.foot⟩
theorem Rows.mono (x : Rows cells sz e h F so ob) (f : ∀ c, F c → F' c) : Rows cells sz e h F' so ob := ⟨x.keys, x.once, x.buf, x.apart, fun k s q c g => f c (x.foot k s q c g)⟩
theorem Rows.set (x : Rows cells sz e h F so ob) {k : Int} {s : Sl} {xs : List T} (b : Buf cells sz e h' s xs) (kp : But (fun c => ∃ s0, alook so k = some s0 ∧ s0.foot c) h h') (nw : ∀ c, s.foot c → F' c ∧ (h c = Option.none ∨ ∃ s0, alook so k = some s0 ∧ s0.foot c)) (f : ∀ c, F c → F' c) : Rows cells sz e h' F' (aset so k s) (aset ob k xs) := by
  have has : ∀ i t, alook so i = some t → ∀ c, t.foot c → h c ≠ Option.none := fun i t q c g => by
    have := alook_some x.keys i
    rw [q] at this
    cases z : alook ob i with
    | none => rw [z] at this; cases this
    | some ys => exact (x.buf i t ys q z).has g
  have ap : ∀ i t, i ≠ k → alook so i = some t → ∀ c, s.foot c → ¬ t.foot c := fun i t ne q c g g' => by
    rcases (nw c g).2 with z | ⟨s0, e0, g0⟩
    · exact has i t q c g' z
    · exact x.apart i k t s0 ne q e0 c g' g0
  refine ⟨by rw [aset_map, aset_map, x.keys], x.once.set k xs, fun i t ys q1 q2 => ?_, fun i j t t' ne q1 q2 => ?_, fun i t q1 => ?_⟩
  · rw [alook_set] at q1 q2
    by_cases c : i = k
    · rw [if_pos c] at q1 q2; cases q1; cases q2; exact b
    · rw [if_neg c] at q1 q2
      exact (x.buf i t ys q1 q2).but kp fun ad ha ⟨s0, e0, g0⟩ => x.apart i k t s0 c q1 e0 _ ⟨ad, ha, rfl⟩ g0
  · rw [alook_set] at q1 q2
    by_cases c : i = k
    · by_cases c' : j = k
      · exact absurd (c.trans c'.symm) ne
      · rw [if_pos c] at q1; rw [if_neg c'] at q2; cases q1
        exact ap j t' c' q2
    · rw [if_neg c] at q1
      by_cases c' : j = k
      · rw [if_pos c'] at q2; cases q2
        exact fun z g g' => ap i t c q1 z g' g
      · rw [if_neg c'] at q2
        exact x.apart i j t t' ne q1 q2
  · rw [alook_set] at q1
    by_cases c : i = k
    · rw [if_pos c] at q1; cases q1; exact fun z g => (nw z g).1
    · rw [if_neg c] at q1; exact fun z g => f z (x.foot i t q1 z g)
theorem Rows.del (x : Rows cells sz e h F so ob) (k : Int) : Rows cells sz e h F (adel so k) (adel ob k) := by
  have lk : ∀ {V : Type} {l : List (Int × V)} (_ : Once l) {i : Int} {v : V}, alook (adel l k) i = some v → i ≠ k ∧ alook l i = some v := fun {_ _} ho {i} {v} q => by
    rw [alook_del _ _ _ ho] at q
    by_cases c : i = k
    · rw [if_pos c] at q; cases q
    · rw [if_neg c] at q; exact ⟨c, q⟩
  have o' := x.onceS
  refine ⟨by rw [adel_keys _ _ o', adel_keys _ _ x.once, x.keys], x.once.del k, fun i s xs q1 q2 => x.buf i s xs (lk o' q1).2 (lk x.once q2).2, fun i j s s' ne q1 q2 => x.apart i j s s' ne (lk o' q1).2 (lk o' q2).2, fun i s q => x.foot i s (lk o' q).2⟩
end
structure PMA (h : H) (p bo bl : Nat) (sd st : Sl) (so sl : List (Int × Sl)) (F : Nat → Prop) (m : MdS) : Prop where
  cell : h p = some (.cells (S_plain_Model.cells ⟨m.c, sd, m.tk, some bo, st, m.nm, some bl, m.ni, m.np⟩).toArray N_plain_Model (0, 0))
  dr : Buf cW 2 N_api_Word h sd m.dr
  ts : Buf cTk 6 N_plain_token h st m.ts
  mo : MapOf (Value.int .i64) Sl.val h bo so
  ml : MapOf (Value.int .i64) Sl.val h bl sl
  ob : Rows cU8 1 N_u8 h F so m.ob
  ls : Rows cCp 3 N_api_Cap h F sl m.ls
  ne : bo ≠ bl
  fp : F p ∧ F bo ∧ F bl
  fd : ∀ c, sd.foot c → F c
  ft : ∀ c, st.foot c → F c
  has : ∀ c, F c → h c ≠ none
def PM (h : H) (p : Nat) (F : Nat → Prop) (m : MdS) : Prop := ∃ bo bl sd st so sl, PMA h p bo bl sd st so sl F m
section
variable {h h' : H} {p bo bl : Nat} {sd st : Sl} {so sl : List (Int × Sl)} {F G : Nat → Prop} {m : MdS}
theorem PMA.but (x : PMA h p bo bl sd st so sl F m) (k : But G h h') (f : ∀ c, F c → ¬ G c) (d : ∀ c, h' c = none → h c = none) : PMA h' p bo bl sd st so sl F m :=
  ⟨k _ _ x.cell (f _ x.fp.1), x.dr.but k fun ad ha => f _ (x.fd _ ⟨ad, ha, rfl⟩), x.ts.but k fun ad ha => f _ (x.ft _ ⟨ad, ha, rfl⟩), x.mo.but k (f _ x.fp.2.1), x.ml.but k (f _ x.fp.2.2),
    x.ob.but k fun i s q c g => f _ (x.ob.foot i s q c g), x.ls.but k fun i s q c g => f _ (x.ls.foot i s q c g), x.ne, x.fp, x.fd, x.ft, fun c g z => x.has c g (d c z)⟩
theorem PM.but (x : PM h p F m) (k : But G h h') (f : ∀ c, F c → ¬ G c) (d : ∀ c, h' c = none → h c = none) : PM h' p F m := by
  obtain ⟨_, _, _, _, _, _, a⟩ := x
  exact ⟨_, _, _, _, _, _, a.but k f d⟩
theorem PM.keep (x : PM h p F m) (k : Keeps h h') : PM h' p F m := x.but (G := fun _ => False) (.of k) (fun _ _ q => q) fun _ => k.fresh
theorem PMA.keep (x : PMA h p bo bl sd st so sl F m) (k : Keeps h h') : PMA h' p bo bl sd st so sl F m := x.but (G := fun _ => False) (.of k) (fun _ _ q => q) fun _ => k.fresh
theorem PM.has (x : PM h p F m) : ∀ c, F c → h c ≠ none := by
  obtain ⟨_, _, _, _, _, _, a⟩ := x
  exact a.has
theorem PMA.tagP (x : PMA h p bo bl sd st so sl F m) : Typed h N_plain_Model p := .of x.cell
end
def mayO (c : S_api_Config) : Prop := inB c.Width 1 128 ∧ inB c.Objects 1 64 ∧ inB c.Pages 1 256 ∧ inB c.Entries 1 256 ∧ inB c.Quota 1 256 ∧ inB c.Procs 1 32 ∧ inB c.List 1 32 ∧ inB c.Sets 0 16 ∧ inB c.Ways 1 4 ∧ inB c.Knob 0 64
instance (c : S_api_Config) : Decidable (mayO c) := by unfold mayO; infer_instance
structure MSI (m : MdS) : Prop where
  cfg : mayO m.c
  drn : m.dr.length ≤ 4096
  drg : ∀ w ∈ m.dr, GoodW w
  tk : m.tk ≤ m.dr.length
  nm : m.nm ≤ m.tk
  obo : Once m.ob
  obn : m.ob.length ≤ 64
  obs : ∀ q ∈ m.ob, q.2.length ≤ 4096
  obk : ∀ q ∈ m.ob, 1 ≤ q.1 ∧ q.1 < m.ni
  ni : 1 ≤ m.ni ∧ m.ni ≤ 4611686018427387905
  tsn : m.ts.length ≤ 256
  tso : ∀ t ∈ m.ts, t.xcap.Obj ∈ m.ob.map (·.1)
  tsm : ∀ t ∈ m.ts, 1 ≤ t.xname ∧ t.xname ≤ m.nm ∧ 0 ≤ t.xparent ∧ t.xparent < t.xname
  tsp : m.ts.Pairwise fun t u => t.xname < u.xname
  lso : Once m.ls
  lsn : m.ls.length ≤ 32
  lsl : ∀ q ∈ m.ls, q.2.length ≤ 32
  lsk : ∀ q ∈ m.ls, 0 ≤ q.1 ∧ q.1 < m.np
  np : 1 ≤ m.np ∧ m.np ≤ 65536
section
variable {h h' : H} {p bo bl : Nat} {sd st : Sl} {so sl : List (Int × Sl)} {F F' G : Nat → Prop} {m m' : MdS}
theorem PMA.bob (x : PMA h p bo bl sd st so sl F m) : ∀ i s, alook so i = some s → ∀ c, s.foot c → Typed h N_u8 c := fun i s q c g => by
  have := alook_some x.ob.keys i
  rw [q] at this
  cases z : alook m.ob i with
  | none => rw [z] at this; cases this
  | some ys => exact (x.ob.buf i s ys q z).typed g
theorem PMA.bls (x : PMA h p bo bl sd st so sl F m) : ∀ i s, alook sl i = some s → ∀ c, s.foot c → Typed h N_api_Cap c := fun i s q c g => by
  have := alook_some x.ls.keys i
  rw [q] at this
  cases z : alook m.ls i with
  | none => rw [z] at this; cases this
  | some ys => exact (x.ls.buf i s ys q z).typed g
theorem PMA.reT (x : PMA h p bo bl sd st so sl F m) (k : But G h h') (nG : ∀ c, G c → c = p ∨ Typed h N_plain_token c ∨ h c = none) {st' : Sl} (cell : h' p = some (.cells (S_plain_Model.cells ⟨m'.c, sd, m'.tk, some bo, st', m'.nm, some bl, m'.ni, m'.np⟩).toArray N_plain_Model (0, 0)))
    (ts : Buf cTk 6 N_plain_token h' st' m'.ts) (e1 : m'.dr = m.dr) (e2 : m'.ob = m.ob) (e3 : m'.ls = m.ls) (sub : ∀ c, F c → F' c) (ft : ∀ c, st'.foot c → F' c) (has : ∀ c, F' c → h' c ≠ none) : PMA h' p bo bl sd st' so sl F' m' := by
  have nt : ∀ {e : TypeId} {c : Nat}, Typed h e c → e ≠ N_plain_Model → e ≠ N_plain_token → ¬ G c := fun t n1 n2 g => by
    rcases nG _ g with rfl | z | z
    · exact t.ne x.tagP n1 rfl
    · exact t.ne z n2 rfl
    · exact t.has z
  have nm : ∀ {b : Nat} {l : List (Int × Sl)}, MapOf (Value.int .i64) Sl.val h b l → ¬ G b := fun {b} {l} mp g => by
    rcases nG _ g with rfl | z | z
    · exact mp.untyped x.tagP rfl
    · exact mp.untyped z rfl
    · obtain ⟨_, _, q, _⟩ := mp; rw [z] at q; cases q
  refine ⟨cell, e1 ▸ x.dr.but k fun ad ha => nt (x.dr.typed ⟨ad, ha, rfl⟩) (by decide) (by decide), ts, x.mo.but k (nm x.mo), x.ml.but k (nm x.ml), e2 ▸ (x.ob.but k fun i s q c g => nt (x.bob i s q c g) (by decide) (by decide)).mono sub, e3 ▸ (x.ls.but k fun i s q c g => nt (x.bls i s q c g) (by decide) (by decide)).mono sub, x.ne, ⟨sub _ x.fp.1, sub _ x.fp.2.1, sub _ x.fp.2.2⟩, fun c g => sub _ (x.fd c g), ft, has⟩
theorem PMA.reO (x : PMA h p bo bl sd st so sl F m) (k : But G h h') (nG : ∀ c, G c → c = bo ∨ Typed h N_u8 c ∨ h c = none) {so' : List (Int × Sl)} {ob' : List (Int × List UInt8)} (mo : MapOf (Value.int .i64) Sl.val h' bo so') (ob : Rows cU8 1 N_u8 h' F' so' ob') (sub : ∀ c, F c → F' c) (has : ∀ c, F' c → h' c ≠ none) : PMA h' p bo bl sd st so' sl F' { m with ob := ob' } := by
  have nt : ∀ {e : TypeId} {c : Nat}, Typed h e c → e ≠ N_u8 → ¬ G c := fun t n2 g => by
    rcases nG _ g with rfl | z | z
    · exact x.mo.untyped t rfl
    · exact t.ne z n2 rfl
    · exact t.has z
  have nm : ¬ G bl := fun g => by
    rcases nG _ g with z | z | z
    · exact x.ne z.symm
    · exact x.ml.untyped z rfl
    · obtain ⟨_, _, q, _⟩ := x.ml; rw [z] at q; cases q
  exact ⟨k _ _ x.cell (nt x.tagP (by decide)), x.dr.but k fun ad ha => nt (x.dr.typed ⟨ad, ha, rfl⟩) (by decide), x.ts.but k fun ad ha => nt (x.ts.typed ⟨ad, ha, rfl⟩) (by decide), mo, x.ml.but k nm, ob, (x.ls.but k fun i s q c g => nt (x.bls i s q c g) (by decide)).mono sub, x.ne, ⟨sub _ x.fp.1, sub _ x.fp.2.1, sub _ x.fp.2.2⟩, fun c g => sub _ (x.fd c g), fun c g => sub _ (x.ft c g), has⟩
theorem PMA.reL (x : PMA h p bo bl sd st so sl F m) (k : But G h h') (nG : ∀ c, G c → c = bl ∨ Typed h N_api_Cap c ∨ h c = none) {sl' : List (Int × Sl)} {ls' : List (Int × List S_api_Cap)} (ml : MapOf (Value.int .i64) Sl.val h' bl sl') (ls : Rows cCp 3 N_api_Cap h' F' sl' ls') (sub : ∀ c, F c → F' c) (has : ∀ c, F' c → h' c ≠ none) : PMA h' p bo bl sd st so sl' F' { m with ls := ls' } := by
  have nt : ∀ {e : TypeId} {c : Nat}, Typed h e c → e ≠ N_api_Cap → ¬ G c := fun t n2 g => by
    rcases nG _ g with rfl | z | z
    · exact x.ml.untyped t rfl
    · exact t.ne z n2 rfl
    · exact t.has z
  have nm : ¬ G bo := fun g => by
    rcases nG _ g with z | z | z
    · exact x.ne z
    · exact x.mo.untyped z rfl
    · obtain ⟨_, _, q, _⟩ := x.mo; rw [z] at q; cases q
  exact ⟨k _ _ x.cell (nt x.tagP (by decide)), x.dr.but k fun ad ha => nt (x.dr.typed ⟨ad, ha, rfl⟩) (by decide), x.ts.but k fun ad ha => nt (x.ts.typed ⟨ad, ha, rfl⟩) (by decide), x.mo.but k nm, ml, (x.ob.but k fun i s q c g => nt (x.bob i s q c g) (by decide)).mono sub, ls, x.ne, ⟨sub _ x.fp.1, sub _ x.fp.2.1, sub _ x.fp.2.2⟩, fun c g => sub _ (x.fd c g), fun c g => sub _ (x.ft c g), has⟩
section
variable (x : PMA h p bo bl sd st so sl F m)
abbrev PMA.cs (_ : PMA h p bo bl sd st so sl F m) : List Value := S_plain_Model.cells ⟨m.c, sd, m.tk, some bo, st, m.nm, some bl, m.ni, m.np⟩
include x
theorem PMA.fWid : At h (((⟨p, 0, none⟩ : Addr).add 0).add 0) (cInt .i64 m.c.Width) := by rw [add_zero, add_zero]; exact At.own (l1 := []) (l3 := x.cs.drop 1) x.cell rfl
theorem PMA.fObj : At h (((⟨p, 0, none⟩ : Addr).add 0).add 1) (cInt .i64 m.c.Objects) := by rw [add_zero, pt_add]; exact At.own (l1 := x.cs.take 1) (l3 := x.cs.drop 2) x.cell rfl
theorem PMA.fPag : At h (((⟨p, 0, none⟩ : Addr).add 0).add 2) (cInt .i64 m.c.Pages) := by rw [add_zero, pt_add]; exact At.own (l1 := x.cs.take 2) (l3 := x.cs.drop 3) x.cell rfl
theorem PMA.fEnt : At h (((⟨p, 0, none⟩ : Addr).add 0).add 3) (cInt .i64 m.c.Entries) := by rw [add_zero, pt_add]; exact At.own (l1 := x.cs.take 3) (l3 := x.cs.drop 4) x.cell rfl
theorem PMA.fQuo : At h (((⟨p, 0, none⟩ : Addr).add 0).add 4) (cInt .i64 m.c.Quota) := by rw [add_zero, pt_add]; exact At.own (l1 := x.cs.take 4) (l3 := x.cs.drop 5) x.cell rfl
theorem PMA.fPro : At h (((⟨p, 0, none⟩ : Addr).add 0).add 5) (cInt .i64 m.c.Procs) := by rw [add_zero, pt_add]; exact At.own (l1 := x.cs.take 5) (l3 := x.cs.drop 6) x.cell rfl
theorem PMA.fLis : At h (((⟨p, 0, none⟩ : Addr).add 0).add 6) (cInt .i64 m.c.List) := by rw [add_zero, pt_add]; exact At.own (l1 := x.cs.take 6) (l3 := x.cs.drop 7) x.cell rfl
theorem PMA.f10 : At h ((⟨p, 0, none⟩ : Addr).add 10) (cSl sd) := by rw [pt_add]; exact At.own (l1 := x.cs.take 10) (l3 := x.cs.drop 11) x.cell rfl
theorem PMA.f11 : At h ((⟨p, 0, none⟩ : Addr).add 11) (cInt .i64 m.tk) := by rw [pt_add]; exact At.own (l1 := x.cs.take 11) (l3 := x.cs.drop 12) x.cell rfl
theorem PMA.f12 : At h ((⟨p, 0, none⟩ : Addr).add 12) (cMap (some bo)) := by rw [pt_add]; exact At.own (l1 := x.cs.take 12) (l3 := x.cs.drop 13) x.cell rfl
theorem PMA.f13 : At h ((⟨p, 0, none⟩ : Addr).add 13) (cSl st) := by rw [pt_add]; exact At.own (l1 := x.cs.take 13) (l3 := x.cs.drop 14) x.cell rfl
theorem PMA.f14 : At h ((⟨p, 0, none⟩ : Addr).add 14) (cInt .i64 m.nm) := by rw [pt_add]; exact At.own (l1 := x.cs.take 14) (l3 := x.cs.drop 15) x.cell rfl
theorem PMA.f15 : At h ((⟨p, 0, none⟩ : Addr).add 15) (cMap (some bl)) := by rw [pt_add]; exact At.own (l1 := x.cs.take 15) (l3 := x.cs.drop 16) x.cell rfl
theorem PMA.f16 : At h ((⟨p, 0, none⟩ : Addr).add 16) (cInt .i64 m.ni) := by rw [pt_add]; exact At.own (l1 := x.cs.take 16) (l3 := x.cs.drop 17) x.cell rfl
theorem PMA.f17 : At h ((⟨p, 0, none⟩ : Addr).add 17) (cInt .i64 m.np) := by rw [pt_add]; exact At.own (l1 := x.cs.take 17) (l3 := []) x.cell rfl
end
theorem PMA.put (x : PMA h p bo bl sd st so sl F m) {n : Nat} {l1 l2 l3 new : List Value} {st' : Sl} (e : x.cs = l1 ++ l2 ++ l3) (e' : S_plain_Model.cells ⟨m'.c, sd, m'.tk, some bo, st', m'.nm, some bl, m'.ni, m'.np⟩ = l1 ++ new ++ l3) (hn : l1.length = n) (hl : new.length = l2.length) {k : H → Prop}
    (y : ∀ h', h' p = some (.cells (S_plain_Model.cells ⟨m'.c, sd, m'.tk, some bo, st', m'.nm, some bl, m'.ni, m'.np⟩).toArray N_plain_Model (0, 0)) → But (· = p) h h' → (∀ c, h' c = none → h c = none) → k h') : mStore ((⟨p, 0, none⟩ : Addr).add n) new k h := by
  have hc := x.cell
  unfold PMA.cs at e
  rw [e] at hc
  refine w_store (pt_add p n) hc hn hl ?_
  rw [← e']
  exact y _ (upd_same _ _ _) (But.upd rfl) fun c q => (upd_none.1 q).2
theorem PMA.atP (x : PMA h p bo bl sd st so sl F m) (k : But (· = p) h h') (d : ∀ c, h' c = none → h c = none) (cell : h' p = some (.cells (S_plain_Model.cells ⟨m'.c, sd, m'.tk, some bo, st, m'.nm, some bl, m'.ni, m'.np⟩).toArray N_plain_Model (0, 0))) (e0 : m'.ts = m.ts) (e1 : m'.dr = m.dr) (e2 : m'.ob = m.ob) (e3 : m'.ls = m.ls) : PMA h' p bo bl sd st so sl F m' :=
  x.reT k (fun c g => .inl g) cell (e0 ▸ x.ts.but k fun ad ha g => (x.ts.typed ⟨ad, ha, rfl⟩).ne x.tagP (by decide) g) e1 e2 e3 (fun _ q => q) x.ft fun c g z => x.has c g (d c z)
theorem t_pDraw (x : PMA h p bo bl sd st so sl F m) (i : MSI m) {K : S_api_Word × Int → H → Prop} (no : m.dr[m.tk]? = none → K (⟨0, 0⟩, 11) h)
    (y : ∀ w h', m.dr[m.tk]? = some w → PMA h' p bo bl sd st so sl F { m with tk := m.tk + 1 } → KChg F F h h' → K (m.cut w, 0) h') : m_plain_Model_draw (some ⟨p, 0, none⟩) K h := by
  unfold m_plain_Model_draw
  have l1 := x.dr.len
  have l2 := i.drn
  have l3 := i.tk
  refine w_deref (w_deref (w_load x.f11 (w_load x.f10 (w_if' (fun c => ?_) fun c => ?_))))
  · have c : (m.tk : Int) = (sd.len : Int) := c
    exact no (List.getElem?_eq_none (by omega))
  · have c : ¬ (m.tk : Int) = (sd.len : Int) := c
    have hlt : m.tk < m.dr.length := by omega
    have hz := List.getElem?_eq_getElem hlt
    have hg := i.drg _ (List.getElem_mem hlt)
    generalize m.dr[m.tk] = w at hz hg
    refine w_deref (w_load x.f11 (w_deref ?_))
    rw [show iAdd .i64 (m.tk : Int) 1 = ((m.tk + 1 : Nat) : Int) from (iAdd_eq (by omega) (by omega)).trans (by omega)]
    refine x.put (m' := { m with tk := m.tk + 1 }) (st' := st) (l1 := x.cs.take 11) (l2 := cInt .i64 m.tk) (l3 := x.cs.drop 12) (new := [.int .i64 ((m.tk + 1 : Nat) : Int)]) rfl rfl rfl rfl fun h1 c1 b1 d1 => ?_
    have x1 := x.atP b1 d1 c1 rfl rfl rfl rfl
    refine w_deref (w_deref (w_deref (w_load x1.f10 (w_load x1.f11 (w_get word_len x1.dr.arr hz (by show iSub .i64 ((m.tk + 1 : Nat) : Int) 1 = _; rw [iSub_eq (by omega) (by omega)]; omega) rfl (w_load x1.fWid (w_WCut hg ?_)))))))
    exact y w h1 hz x1 ⟨b1.mono fun c e => by rw [e]; exact x.fp.1, fun c f => .inl f, d1⟩
end
section
variable {T : Type} {cells : T → List Value} {sz : Nat} {e : TypeId} {h : H}
theorem w_chop (hs : ∀ x, (cells x).length = sz) (z0 : T) {zero : Array Value} (hz : zero = (cells z0).toArray) {s : Sl} {xs : List T} (x : Buf cells sz e h s xs) {i : Nat} (hi : i < xs.length) {i' : Int} (ei : i' = i) {k : Sl → H → Prop}
    (y : ∀ h', Buf cells sz e h' ⟨s.a, i, s.cap⟩ (xs.take i) → But s.foot h h' → (∀ b, h' b = none → h b = none) → k ⟨s.a, i, s.cap⟩ h') :
    mCut s i' (s.len : Int) sz (fun s8 => mClear zero s8 <| mCut s 0 i' sz k) h := by
  subst ei
  have hl := x.len
  have hc := x.cap
  have hcut : (if s.cap = 0 then s.a else s.a.map (·.add (0 * sz))) = s.a := by
    split
    · rfl
    · cases s.a <;> simp [add_zero]
  refine w_cut (lo := i) (hi := s.len) rfl rfl (by omega) hc ?_
  have bu2 := x.front (n := i) (by omega)
  have bu2' := bu2
  rcases bu2'.at_ with ⟨ha, h0⟩ | ⟨b, z, fz, ha, hb, hzl, hth⟩
  · have h0 : s.cap = 0 := h0
    omega
  have ha : s.a = some ⟨b, 0, none⟩ := ha
  have hzl : (flat cells (xs.take i) ++ z).length = s.cap * sz := hzl
  have hth : Thawed fz (s.cap * sz) := hth
  have hne : s.cap ≠ i := by omega
  have el : (xs.take i).length = i := by rw [List.length_take]; omega
  rw [if_neg hne, ha]
  refine .inr ⟨by show s.len - i ≠ 0; omega, (⟨b, 0, none⟩ : Addr).add (i * sz), rfl, ?_⟩
  show mStore _ (Builtin.zeroCells zero (s.len - i)).toList _ h
  rw [show (Builtin.zeroCells zero (s.len - i)).toList = flat cells (List.replicate (s.len - i) z0) from zero_flat hs z0 hz _]
  have hzn : (s.len - i) * sz ≤ z.length := by
    rw [List.length_append, flat_len hs, el] at hzl
    have : (s.len - i) * sz + i * sz ≤ s.cap * sz := by rw [← Nat.add_mul]; exact Nat.mul_le_mul_right _ (by omega)
    omega
  have hb' : h b = some (.cells (flat cells (xs.take i) ++ z.take ((s.len - i) * sz) ++ z.drop ((s.len - i) * sz)).toArray e fz) := by rw [List.append_assoc, List.take_append_drop]; exact hb
  refine w_storeF (l1 := flat cells (xs.take i)) (addr_add _ _ _) hb' (by rw [List.append_assoc, List.take_append_drop, hzl]; exact hth) (by rw [flat_len hs, el, Nat.zero_add]) (by rw [flat_len hs, List.length_replicate, List.length_take]; omega) ?_
  refine w_cut (lo := 0) (hi := i) rfl rfl (Nat.zero_le _) (by omega) ?_
  rw [hcut, Nat.sub_zero, Nat.sub_zero]
  refine y _ ⟨bu2.len, bu2.cap, .inr ⟨b, flat cells (List.replicate (s.len - i) z0) ++ z.drop ((s.len - i) * sz), fz, ha, ?_, ?_, hth⟩⟩ (But.upd ⟨_, ha, rfl⟩) fun c hc => (upd_none.1 hc).2
  · rw [upd_same, List.append_assoc]
  · rw [← hzl, List.length_append, List.length_append, List.length_append, flat_len hs, flat_len hs, List.length_replicate, List.length_drop]; omega
end
theorem find_at {T : Type} {P : T → Bool} {t : T} : ∀ {xs : List T} {i : Nat}, xs[i]? = some t → P t = true → (∀ j u, j < i → xs[j]? = some u → P u = false) → xs.find? P = some t
  | [], _, e, _, _ => by cases e
  | a :: r, 0, e, q, _ => by cases e; rw [List.find?_cons_of_pos q]
  | a :: r, i + 1, e, q, z => by
    rw [List.find?_cons_of_neg (by rw [z 0 a (by omega) rfl]; decide)]
    exact find_at (i := i) e q fun j u hj e' => z (j + 1) u (by omega) e'
theorem find_no {T : Type} {P : T → Bool} {xs : List T} (z : ∀ u ∈ xs, P u = false) : xs.find? P = none := List.find?_eq_none.2 fun u hu => by rw [z u hu]; decide
section
variable {h : H} {s : Sl} {xs : List S_plain_token} {f : PV} {P : S_plain_token → Bool}
def Asks (f : PV) (P : S_plain_token → Bool) (h : H) : Prop := ∀ (t : S_plain_token) (k : Bool → H → Prop), k (P t) h → mCallV (T := Bool) Try.prog (fun r => (Value.bool r)) f.1 [(S_plain_token.val t)] k h
theorem t_tIndex (x : Arr cTk h s xs) (hn : xs.length ≤ 2 ^ 40) (a : Asks f P h) {K : Int → H → Prop} (no : (∀ u ∈ xs, P u = false) → K (-1) h)
    (yes : ∀ (i : Nat) t, xs[i]? = some t → P t = true → (∀ j u, j < i → xs[j]? = some u → P u = false) → K (i : Int) h) : m_slices_IndexFunc_plain_token_plain_token s f K h := by
  unfold m_slices_IndexFunc_plain_token_plain_token
  have hl := x.len
  refine w_for xs.length (fun i (z : Int) h' => z = (i : Int) ∧ h' = h ∧ ∀ j u, j < i → xs[j]? = some u → P u = false) ?_ ⟨rfl, rfl, fun j u hj => by omega⟩
  rintro rec i _ _ hi ⟨rfl, rfl, hz⟩ more
  refine w_if' (fun c => ?_) fun c => ?_
  · have c : (i : Int) < (s.len : Int) := c
    have hil : i < xs.length := by omega
    have ht := List.getElem?_eq_getElem hil
    generalize xs[i] = t at ht
    refine w_get ptk_len x ht rfl rfl (a t _ ?_)
    cases q : P t with
    | true => exact w_ifT rfl (yes i t ht q hz)
    | false =>
      refine w_ifF rfl (more _ _ hil ⟨ia1 i (by omega), rfl, fun j u hj e => ?_⟩)
      rcases Nat.lt_succ_iff_lt_or_eq.1 hj with z | rfl
      · exact hz j u z e
      · rw [ht] at e; cases e; exact q
  · have c : ¬ (i : Int) < (s.len : Int) := c
    refine no fun u hu => ?_
    obtain ⟨j, hj⟩ := List.mem_iff_getElem?.1 hu
    exact hz j u (by have := lt_of_get hj; omega) hj
theorem filt_nop {T : Type} {P : T → Bool} {l : List T} (h : ∀ u ∈ l, P u = false) : l.filter (fun u => !P u) = l := List.filter_eq_self.2 fun u hu => by rw [h u hu]; rfl
theorem t_tDelete (x : Buf cTk 6 N_plain_token h s xs) (hn : xs.length ≤ 2 ^ 40) (a : ∀ h', But s.foot h h' → Asks f P h') {K : Sl → H → Prop}
    (y : ∀ s' h', Buf cTk 6 N_plain_token h' s' (xs.filter fun u => !P u) → But s.foot h h' → (∀ c, h' c = none → h c = none) → (∀ c, s'.foot c → s.foot c) → K s' h') : m_slices_DeleteFunc_plain_token_plain_token s f K h := by
  unfold m_slices_DeleteFunc_plain_token_plain_token
  have hl := x.len
  refine t_tIndex x.arr hn (a _ (.refl _ _)) (fun z => w_ifT rfl (y s h (by rw [filt_nop z]; exact x) (.refl _ _) (fun _ q => q) fun _ q => q)) fun r t hr hP hz => w_ifF (decide_eq_false (by omega)) ?_
  have hrl := lt_of_get hr
  have tk0 : xs.take r = (xs.take (r + 1)).filter fun u => !P u := by
    rw [List.take_add_one, hr, List.filter_append, filt_nop (fun u hu => by
      obtain ⟨j, hj⟩ := List.mem_iff_getElem?.1 hu
      have hjr : j < r := by have := lt_of_get hj; rw [List.length_take] at this; omega
      exact hz j u hjr (by rw [List.getElem?_take_of_lt hjr] at hj; exact hj))]
    simp [hP]
  refine w_for (xs.length - (r + 1)) (fun n (z : Int × Int) h' => ∃ (i : Nat) (ys : List S_plain_token), z = ((i : Int), ((r + 1 + n : Nat) : Int)) ∧ i < r + 1 + n ∧ Buf cTk 6 N_plain_token h' s ys ∧ ys.length = xs.length ∧ ys.take i = ((xs.take (r + 1 + n)).filter fun u => !P u) ∧ ys.drop (r + 1 + n) = xs.drop (r + 1 + n) ∧ But s.foot h h' ∧ ∀ c, h' c = none → h c = none) ?_
    ⟨r, xs, by rw [show r + 1 + 0 = r + 1 from rfl, show iAdd .i64 (r : Int) 1 = ((r + 1 : Nat) : Int) from ia1 r (by omega)], by omega, x, rfl, tk0, rfl, .refl _ _, fun _ q => q⟩
  rintro rec n _ h1 hn1 ⟨i, ys, rfl, hij, b1, ly, t1, d1, bt1, dm1⟩ more
  refine w_if' (fun c => ?_) fun c => ?_
  · have c : ((r + 1 + n : Nat) : Int) < (s.len : Int) := c
    have hjl : r + 1 + n < xs.length := by omega
    have ht := List.getElem?_eq_getElem hjl
    generalize xs[r + 1 + n] = u at ht
    have hty : ys[r + 1 + n]? = some u := by
      have e1 : (ys.drop (r + 1 + n))[0]? = (xs.drop (r + 1 + n))[0]? := by rw [d1]
      rw [List.getElem?_drop, List.getElem?_drop, Nat.add_zero] at e1
      rw [e1, ht]
    have dsu : ∀ zs : List S_plain_token, zs.drop (r + 1 + n + 1) = (zs.drop (r + 1 + n)).drop 1 := fun zs => by rw [List.drop_drop]
    have nx : iAdd .i64 ((r + 1 + n : Nat) : Int) 1 = ((r + 1 + (n + 1) : Nat) : Int) := ia1 (r + 1 + n) (by omega)
    have tsu : (xs.take (r + 1 + (n + 1))).filter (fun u => !P u) = (xs.take (r + 1 + n)).filter (fun u => !P u) ++ (if P u = true then [] else [u]) := by
      rw [show r + 1 + (n + 1) = r + 1 + n + 1 from rfl, List.take_add_one, ht, List.filter_append]
      cases q : P u <;> simp [q]
    refine w_get ptk_len b1.arr hty rfl rfl (a h1 bt1 u _ ?_)
    cases q : P u with
    | true =>
      rw [if_pos q, List.append_nil] at tsu
      refine w_ifF rfl (more _ _ (by omega) ⟨i, ys, by rw [nx], by omega, b1, ly, by rw [tsu]; exact t1, by rw [show r + 1 + (n + 1) = r + 1 + n + 1 from rfl, dsu, dsu, d1], bt1, dm1⟩)
    | false =>
      rw [if_neg (by rw [q]; decide)] at tsu
      refine w_ifT rfl (w_put ptk_len b1 (i := i) (by omega) rfl u rfl fun h2 b2 bt2 dm2 => ?_)
      refine more _ _ (by omega) ⟨i + 1, ys.set i u, by rw [nx, ia1 i (by omega)], by omega, b2, by rw [List.length_set, ly], ?_, ?_, bt1.trans bt2 fun _ g => .inl g, fun c e => dm1 c (dm2 c e)⟩
      · rw [tsu, ← t1, List.take_add_one, List.getElem?_set_self (by omega), List.take_set_of_le (Nat.le_refl _)]; rfl
      · rw [List.drop_set_of_lt (by omega), show r + 1 + (n + 1) = r + 1 + n + 1 from rfl, dsu, dsu, d1]
  · have c : ¬ ((r + 1 + n : Nat) : Int) < (s.len : Int) := c
    have e1 : r + 1 + n = xs.length := by omega
    refine w_chop ptk_len (⟨⟨0, ⟨0, 0⟩⟩, 0, 0, 0⟩ : S_plain_token) rfl b1 (i := i) (by omega) rfl fun h2 b2 bt2 dm2 => ?_
    rw [t1, e1, List.take_length] at b2
    exact y _ h2 b2 (bt1.trans bt2 fun _ g => .inl g) (fun c e => dm1 c (dm2 c e)) fun c g => foot_front g
end
def tk00 : S_plain_token := ⟨⟨0, ⟨0, 0⟩⟩, 0, 0, 0⟩
section
variable {h h' : H} {p bo bl : Nat} {sd st : Sl} {so sl : List (Int × Sl)} {F F' G : Nat → Prop} {m m' : MdS}
def issueT (m : MdS) (c : S_api_Cap) (r q : Int) : MdS := { m with nm := m.nm + 1, ts := m.ts ++ [⟨c, r, ((m.nm + 1 : Nat) : Int), q⟩] }
theorem t_pIssue (x : PMA h p bo bl sd st so sl F m) (hn : m.nm ≤ 2 ^ 40) (ht : m.ts.length ≤ 2 ^ 20) {c : S_api_Cap} {r q : Int} {K : S_api_Reply → H → Prop}
    (y : ∀ h' F', PM h' p F' (issueT m c r q) → KChg F F' h h' → K ⟨0, c, Sl.nil, 0⟩ h') : m_plain_Model_issue (some ⟨p, 0, none⟩) c r q K h := by
  unfold m_plain_Model_issue
  refine w_deref (w_load x.f14 (w_deref ?_))
  rw [ia1 m.nm (by omega)]
  refine x.put (m' := { m with nm := m.nm + 1 }) (st' := st) (l1 := x.cs.take 14) (l2 := cInt .i64 m.nm) (l3 := x.cs.drop 15) (new := [.int .i64 ((m.nm + 1 : Nat) : Int)]) rfl rfl rfl rfl fun h1 c1 b1 d1 => ?_
  have x1 := x.atP b1 d1 c1 rfl rfl rfl rfl
  refine w_deref (w_deref (w_load x1.f13 (w_load x1.f14 (w_app ptk_len rfl x1.ts [(⟨c, r, ((m.nm + 1 : Nat) : Int), q⟩ : S_plain_token)] rfl rfl (.inl (by show (2 * (m.ts.length + 1) + 192) * 48 ≤ 2 ^ 48; omega)) fun s2 h2 b2 bt2 f2 d2 => w_deref ?_))))
  have np2 : ¬ st.foot p := fun g => (x1.ts.typed g).ne x1.tagP (by decide) rfl
  have c2 := bt2 _ _ c1 np2
  have hc2 : h2 p = some (.cells ((x1.cs.take 13) ++ cSl st ++ (x1.cs.drop 14)).toArray N_plain_Model (0, 0)) := c2
  refine w_store (pt_add p 13) hc2 rfl rfl ?_
  have ps2 : ¬ s2.foot p := fun g => (b2.typed g).ne (.of c2) (by decide) rfl
  have b3 : Buf cTk 6 N_plain_token (upd h2 p (.cells ((x1.cs.take 13) ++ [Sl.val s2] ++ (x1.cs.drop 14)).toArray N_plain_Model (0, 0))) s2 (issueT m c r q).ts := b2.but (F := (· = p)) (But.upd rfl) fun ad ha g => ps2 ⟨ad, ha, g⟩
  have bt : But (fun c => c = p ∨ st.foot c) h (upd h2 p (.cells ((x1.cs.take 13) ++ [Sl.val s2] ++ (x1.cs.drop 14)).toArray N_plain_Model (0, 0))) :=
    ((b1.mono fun _ g => .inl g).trans (bt2.mono fun _ g => .inr g) fun _ g => .inl g).trans (But.upd (.inl rfl)) fun _ g => .inl g
  have dm : ∀ c, (upd h2 p (.cells ((x1.cs.take 13) ++ [Sl.val s2] ++ (x1.cs.drop 14)).toArray N_plain_Model (0, 0))) c = none → h c = none := fun c e => d1 c (d2 c (upd_none.1 e).2)
  refine y _ (fun c => F c ∨ s2.foot c) ⟨bo, bl, sd, s2, so, sl, x.reT bt (fun c g => g.imp id fun g => .inl (x.ts.typed g)) (upd_same _ _ _) b3 rfl rfl rfl (fun _ g => .inl g) (fun _ g => .inr g) fun c g => ?_⟩ ⟨bt.mono fun c g => g.elim (fun e => by rw [e]; exact x.fp.1) (x.ft c), fun c g => ?_, dm⟩
  · rcases g with g | g
    · exact fun z => x.has c g (dm c z)
    · exact b3.has g
  · rcases g with g | g
    · exact .inl g
    · exact (f2 c g).imp (x.ft c) fun z => d1 c z
theorem t_pFind (x : PM h p F m) (hn : m.ts.length ≤ 2 ^ 20) {c : S_api_Cap} {K : S_plain_token × Bool → H → Prop} (y : ∀ h', Keeps h h' → K ((findT m.ts c).getD tk00, (findT m.ts c).isSome) h') : m_plain_Model_find (some ⟨p, 0, none⟩) c K h := by
  obtain ⟨bo, bl, sd, st, so, sl, x⟩ := x
  unfold m_plain_Model_find
  refine w_new fun b hb => ?_
  have k1 : Keeps h (upd h b (.cells #[(Value.int .i64 c.Obj), (Value.int .u64 c.Pass.Hi), (Value.int .u64 c.Pass.Lo)] 39 (0, 0))) := Keeps.new hb
  have q1 : At (upd h b (.cells #[(Value.int .i64 c.Obj), (Value.int .u64 c.Pass.Hi), (Value.int .u64 c.Pass.Lo)] 39 (0, 0))) ⟨b, 0, none⟩ (cCp c) := At.own (l1 := []) (l3 := []) (upd_same _ _ _) rfl
  generalize (upd h b (.cells #[(Value.int .i64 c.Obj), (Value.int .u64 c.Pass.Hi), (Value.int .u64 c.Pass.Lo)] 39 (0, 0))) = h1 at k1 q1
  have x1 := x.keep k1
  refine w_deref (w_load x1.f13 (t_tIndex (P := fun t => decide (t.xcap = c)) x1.ts.arr (by omega) (fun t k hk => ?_) (fun z => ?_) fun i t ht hP hz => ?_))
  · refine callV_of s_plain_Model_find_1 (first := #[]) (cap := #[(Value.pointer (some ⟨b, 0, none⟩))]) (args := [S_plain_token.val t]) (t, (⟨b, 0, none⟩ : Addr)) rfl ?_
    show m_plain_Model_find_1 t ⟨b, 0, none⟩ k h1
    unfold m_plain_Model_find_1
    refine w_load q1 ?_
    rw [cap_eqB]; exact hk
  · have e : findT m.ts c = none := find_no z
    rw [e] at y
    exact w_ifT rfl (y _ k1)
  · have e : findT m.ts c = some t := find_at ht hP hz
    rw [e] at y
    exact w_ifF (decide_eq_false (by omega)) (w_deref (w_load x1.f13 (w_get ptk_len x1.ts.arr ht rfl rfl (y _ k1))))
theorem t_pGiven (x : PM h p F m) (hn : m.ts.length ≤ 2 ^ 20) {c : S_api_Cap} {need : Int} {K : S_plain_token × Int → H → Prop} (y : ∀ h', Keeps h h' → K ((givenT m.ts c need).1.getD tk00, (givenT m.ts c need).2) h') : m_plain_Model_given (some ⟨p, 0, none⟩) c need K h := by
  unfold m_plain_Model_given
  refine t_pFind x hn fun h1 k1 => ?_
  cases e : findT m.ts c with
  | none => rw [givenT_none e] at y; exact w_ifT rfl (y _ k1)
  | some t =>
    rw [givenT_some e] at y
    refine w_ifF rfl (w_pure (partOf need t.xrights) (fun _ _ z => by unfold m_mask_Has; exact w_Part z) ?_)
    cases q : partOf need t.xrights with
    | true => rw [if_pos q] at y; exact w_ifF rfl (y _ k1)
    | false => rw [if_neg (by rw [q]; decide)] at y; exact w_ifT rfl (y _ k1)
theorem t_pOf (x : PM h p F m) (hn : m.ts.length ≤ 2 ^ 20) {o : Int} {K : Int → H → Prop} (y : K (countT m.ts o : Int) h) : m_plain_Model_of (some ⟨p, 0, none⟩) o K h := by
  obtain ⟨bo, bl, sd, st, so, sl, x⟩ := x
  unfold m_plain_Model_of
  have hl := x.ts.len
  refine w_deref (w_load x.f13 (w_for m.ts.length (fun i (z : Int × Int) h' => z = (((countT (m.ts.take i) o : Nat) : Int), (i : Int)) ∧ h' = h) ?_ ⟨rfl, rfl⟩))
  rintro rec i _ _ hi ⟨rfl, rfl⟩ more
  refine w_if' (fun c => ?_) fun c => ?_
  · have c : (i : Int) < (st.len : Int) := c
    have hil : i < m.ts.length := by omega
    have ht := List.getElem?_eq_getElem hil
    generalize m.ts[i] = t at ht
    have hc : countT (m.ts.take i) o ≤ i := Nat.le_trans List.countP_le_length (by rw [List.length_take]; omega)
    have cs : countT (m.ts.take (i + 1)) o = countT (m.ts.take i) o + if t.xcap.Obj = o then 1 else 0 := by
      unfold countT
      rw [List.take_add_one, ht, List.countP_append]
      by_cases q : t.xcap.Obj = o <;> simp [q]
    refine w_get ptk_len x.ts.arr ht rfl rfl (w_if' (fun q => more _ _ hil ⟨?_, rfl⟩) fun q => more _ _ hil ⟨?_, rfl⟩)
    · rw [cs, if_pos q, ia1 _ (by omega), ia1 i (by omega)]
    · rw [cs, if_neg q, ia1 i (by omega)]; rfl
  · have c : ¬ (i : Int) < (st.len : Int) := c
    show K ((countT (m.ts.take i) o : Nat) : Int) _
    rw [List.take_of_length_le (by omega)]; exact y
theorem t_pPlace (x : PM h p F m) (hob : ∀ q ∈ m.ob, q.2.length ≤ 2 ^ 20) {o off n : Int} (hoff : inB off (-2147483648) 2147483647) (hnn : inB n (-2147483648) 2147483647) {K : Int → H → Prop} (y : K (placeO m o off n) h) : m_plain_Model_place (some ⟨p, 0, none⟩) o off n K h := by
  obtain ⟨bo, bl, sd, st, so, sl, x⟩ := x
  unfold m_plain_Model_place
  unfold inB at hoff hnn
  refine w_joinV (decide (off < 0 ∨ n < 0 ∨ 1024 < n ∨ ((bytesO m o).length : Int) < off + n)) (fun j hj => ?_) ?_
  · refine w_if (fun q => ?_) fun q => ?_
    · simp only [Bool.or_eq_true, decide_eq_true_eq] at q
      rw [decide_eq_true (by
        rcases q with (q | q) | q
        · exact .inl q
        · exact .inr (.inl q)
        · exact .inr (.inr (.inl q)))] at hj
      exact hj
    · simp only [Bool.or_eq_false_iff, decide_eq_false_iff_not] at q
      refine w_deref (w_load x.f12 (w_lookup (keyP (by kernel_rfl)) x.mo ?_))
      have b := (x.ob.get o).len
      have q' : ¬ off < 0 ∧ ¬ n < 0 ∧ ¬ 1024 < n := ⟨q.1.1, q.1.2, q.2⟩
      show j (decide ((((alook so o).getD Sl.nil).len : Int) < iAdd .i64 off n)) h
      rw [b, iAdd_eq (by omega) (by omega)]
      have : decide (off < 0 ∨ n < 0 ∨ 1024 < n ∨ ((bytesO m o).length : Int) < off + n) = decide ((((alook m.ob o).getD []).length : Int) < off + n) := decide_eq_decide.2 ⟨fun z => by exact z.elim (fun z => absurd z q'.1) fun z => z.elim (fun z => absurd z q'.2.1) fun z => z.elim (fun z => absurd z q'.2.2) id, fun z => .inr (.inr (.inr z))⟩
      rw [this] at hj; exact hj
  · unfold placeO at y
    by_cases q : off < 0 ∨ n < 0 ∨ 1024 < n ∨ ((bytesO m o).length : Int) < off + n
    · rw [if_pos q] at y; exact w_ifT (decide_eq_true q) y
    · rw [if_neg q] at y; exact w_ifF (decide_eq_false q) y
end
section
variable {h h' : H} {p bo bl : Nat} {sd st : Sl} {so sl : List (Int × Sl)} {F F' G : Nat → Prop} {m m' : MdS}
theorem t_pValidated (x : PM h p F m) (hn : m.ts.length ≤ 2 ^ 20) (hl : ∀ i l, alook m.ls i = some l → l.length ≤ 2 ^ 20) {c : S_api_Call} {need : Int} {K : Int → H → Prop} (y : ∀ h', Keeps h h' → K (mayT m.ts c need (listO m c.By)) h') : m_plain_Model_validated (some ⟨p, 0, none⟩) c need K h := by
  unfold m_plain_Model_validated
  unfold mayT at y
  refine w_if (fun q => ?_) fun q => ?_
  · rw [if_pos q] at y
    exact t_pGiven x hn fun h1 k1 => y h1 k1
  · rw [if_neg (by rw [q]; decide)] at y
    have x0 := x
    obtain ⟨bo, bl, sd, st, so, sl, x⟩ := x
    refine w_deref (w_load x.f15 (w_lookup (keyP (by kernel_rfl)) x.ml ?_))
    have bu := x.ls.get c.By
    have hll : (listO m c.By).length ≤ 2 ^ 20 := by
      unfold listO
      cases e : alook m.ls c.By with
      | none => exact Nat.zero_le _
      | some l => exact hl _ _ e
    have e0 : (alook m.ls c.By).getD [] = listO m c.By := rfl
    rw [e0] at bu
    generalize listO m c.By = l at bu hll y
    have hlen := bu.len
    refine w_for l.length (fun i (z : Int × Int) h' => z.2 = (i : Int) ∧ Keeps h h' ∧ namedT m.ts need c.Cap.Obj (l.drop i) z.1 = namedT m.ts need c.Cap.Obj l 3) ?_ ⟨rfl, .refl _, rfl⟩
    rintro rec i ⟨a, _⟩ h1 hi ⟨e1, k1, e2⟩ more
    have e1 : _ = (i : Int) := e1
    subst e1
    refine w_if' (fun c0 => ?_) fun c0 => ?_
    · have c0 : (i : Int) < ((((alook sl c.By).getD Sl.nil).len : Nat) : Int) := c0
      have hil : i < l.length := by omega
      have ht := List.getElem?_eq_getElem hil
      have hd : l.drop i = l[i] :: l.drop (i + 1) := List.drop_eq_getElem_cons hil
      generalize l[i] = v at ht hd
      have e2 : namedT m.ts need c.Cap.Obj (l.drop i) a = namedT m.ts need c.Cap.Obj l 3 := e2
      rw [hd, namedT] at e2
      refine w_get cap_len (bu.keep k1).arr ht rfl rfl (w_if (fun q1 => ?_) fun q1 => ?_)
      · have q1 : ¬ v.Obj = c.Cap.Obj := by simpa using q1
        rw [if_neg q1] at e2
        exact more _ _ hil ⟨ia1 i (by omega), k1, e2⟩
      · have q1 : v.Obj = c.Cap.Obj := by simpa using q1
        rw [if_pos q1] at e2
        refine t_pGiven (x0.keep k1) hn fun h2 k2 => w_if' (fun q2 => ?_) fun q2 => ?_
        · have q2 : (givenT m.ts v need).2 = 0 := q2
          rw [if_pos q2] at e2
          have := y h2 (k1.trans k2)
          rw [← e2] at this; exact this
        · have q2 : ¬ (givenT m.ts v need).2 = 0 := q2
          rw [if_neg q2] at e2
          refine w_if' (fun q3 => ?_) fun q3 => ?_
          · have q3 : (givenT m.ts v need).2 = 4 := q3
            rw [if_pos q3] at e2
            exact more _ _ hil ⟨ia1 i (by omega), k1.trans k2, e2⟩
          · have q3 : ¬ (givenT m.ts v need).2 = 4 := q3
            rw [if_neg q3] at e2
            exact more _ _ hil ⟨ia1 i (by omega), k1.trans k2, e2⟩
    · have c0 : ¬ (i : Int) < ((((alook sl c.By).getD Sl.nil).len : Nat) : Int) := c0
      have e2 : namedT m.ts need c.Cap.Obj (l.drop i) a = namedT m.ts need c.Cap.Obj l 3 := e2
      rw [List.drop_of_length_le (by omega), namedT] at e2
      have := y h1 k1
      rw [← e2] at this; exact this
theorem t_iContains {s : Sl} {xs : List Int} (x : Arr (cInt .i64) h s xs) (hn : xs.length ≤ 2 ^ 40) {v : Int} {K : Bool → H → Prop} (y : K (decide (v ∈ xs)) h) : m_slices_Contains_int_int s v K h := by
  unfold m_slices_Contains_int_int m_slices_Index_int_int
  have hl := x.len
  refine w_for xs.length (fun i (z : Int) h' => z = (i : Int) ∧ h' = h ∧ v ∉ xs.take i) ?_ ⟨rfl, rfl, by simp⟩
  rintro rec i _ _ hi ⟨rfl, rfl, hz⟩ more
  refine w_if' (fun c => ?_) fun c => ?_
  · have c : (i : Int) < (s.len : Int) := c
    have hil : i < xs.length := by omega
    have ht := List.getElem?_eq_getElem hil
    generalize xs[i] = t at ht
    refine w_get ci_len x ht rfl (v' := t) rfl (w_if' (fun q => ?_) fun q => ?_)
    · have : v ∈ xs := by rw [q]; exact List.mem_of_getElem? ht
      rw [decide_eq_true this] at y
      show K (decide ((0 : Int) ≤ (i : Int))) _
      rw [decide_eq_true (by omega)]; exact y
    · refine more _ _ hil ⟨ia1 i (by omega), rfl, ?_⟩
      rw [List.take_add_one, ht, List.mem_append]
      exact fun z => z.elim hz fun z => q (by simpa using z)
  · have c : ¬ (i : Int) < (s.len : Int) := c
    rw [List.take_of_length_le (by omega)] at hz
    rw [decide_eq_false hz] at y
    exact y
theorem PMA.cutT (x : PMA h p bo bl sd st so sl F m) (hn : m.ts.length ≤ 2 ^ 20) {f : PV} {P : S_plain_token → Bool} (a : ∀ h', But st.foot h h' → Asks f P h') {k : H → Prop}
    (y : ∀ h', PM h' p F { m with ts := m.ts.filter fun u => !P u } → KChg F F h h' → k h') : m_slices_DeleteFunc_plain_token_plain_token st f (fun r18 => mDeref (some ⟨p, 0, none⟩) fun ad19 => mStore (ad19.add 13) [(Sl.val r18)] k) h := by
  refine t_tDelete x.ts (by omega) a fun s2 h2 b2 bt2 d2 f2 => w_deref ?_
  have np2 : ¬ st.foot p := fun g => (x.ts.typed g).ne x.tagP (by decide) rfl
  have hc2 : h2 p = some (.cells ((x.cs.take 13) ++ cSl st ++ (x.cs.drop 14)).toArray N_plain_Model (0, 0)) := bt2 _ _ x.cell np2
  refine w_store (pt_add p 13) hc2 rfl rfl ?_
  have ps2 : ¬ s2.foot p := fun g => np2 (f2 _ g)
  have b3 : Buf cTk 6 N_plain_token (upd h2 p (.cells ((x.cs.take 13) ++ [Sl.val s2] ++ (x.cs.drop 14)).toArray N_plain_Model (0, 0))) s2 (m.ts.filter fun u => !P u) := b2.but (F := (· = p)) (But.upd rfl) fun ad ha g => ps2 ⟨ad, ha, g⟩
  have bt : But (fun c => c = p ∨ st.foot c) h (upd h2 p (.cells ((x.cs.take 13) ++ [Sl.val s2] ++ (x.cs.drop 14)).toArray N_plain_Model (0, 0))) := (bt2.mono fun _ g => .inr g).trans (But.upd (.inl rfl)) fun _ g => .inl g
  have dm : ∀ c, (upd h2 p (.cells ((x.cs.take 13) ++ [Sl.val s2] ++ (x.cs.drop 14)).toArray N_plain_Model (0, 0))) c = none → h c = none := fun c e => d2 c (upd_none.1 e).2
  exact y _ ⟨bo, bl, sd, s2, so, sl, x.reT (m' := { m with ts := m.ts.filter fun u => !P u }) bt (fun c g => g.imp id fun g => .inl (x.ts.typed g)) (upd_same _ _ _) b3 rfl rfl rfl (fun _ g => g) (fun c g => x.ft c (f2 c g)) fun c g z => x.has c g (dm c z)⟩
    ⟨bt.mono fun c g => g.elim (fun e => by rw [e]; exact x.fp.1) (x.ft c), fun c g => .inl g, dm⟩
theorem t_pGone (x : PM h p F m) (hn : m.ts.length ≤ 2 ^ 20) {o : Int} {K : S_api_Reply → H → Prop} (y : ∀ h', PM h' p F (goneO m o) → KChg F F h h' → K ⟨0, cap0, Sl.nil, 0⟩ h') : m_plain_Model_gone (some ⟨p, 0, none⟩) o K h := by
  obtain ⟨bo, bl, sd, st, so, sl, x⟩ := x
  unfold m_plain_Model_gone
  refine w_new fun b hb => ?_
  have k1 : Keeps h (upd h b (.cells #[(Value.int .i64 o)] 3 (0, 0))) := Keeps.new hb
  have q1 : (upd h b (.cells #[(Value.int .i64 o)] 3 (0, 0))) b = some (.cells #[(Value.int .i64 o)] 3 (0, 0)) := upd_same _ _ _
  generalize (upd h b (.cells #[(Value.int .i64 o)] 3 (0, 0))) = h1 at k1 q1
  have a1 : At h1 ⟨b, 0, none⟩ (cInt .i64 o) := At.own (l1 := []) (l3 := []) q1 rfl
  have x1 := x.keep k1
  refine w_deref (w_load x1.f12 (w_load a1 (w_mapDel (keyP (by kernel_rfl)) x1.mo rfl fun h2 m2 b2 d2 => ?_)))
  have ro : Rows cU8 1 N_u8 h2 F (adel so o) (adel m.ob o) := (x1.ob.but b2 fun i s q c g e => x1.mo.untyped (x1.bob i s q c g) e).del o
  have x2 := x1.reO b2 (fun c g => .inl g) m2 ro (fun _ g => g) fun c g z => x1.has c g (d2 c z)
  have q2 := b2 _ _ q1 fun e => x1.mo.untyped (.of q1) e
  refine w_deref (w_load x2.f13 (x2.cutT hn (P := fun t => decide (t.xcap.Obj = o)) (fun h' bt t k hk => ?_) fun h3 x3 k3 => ?_))
  · have q3 := bt _ _ q2 fun g => (x2.ts.typed g).ne (.of q2) (by decide) rfl
    have a3 : At h' ⟨b, 0, none⟩ (cInt .i64 o) := At.own (l1 := []) (l3 := []) q3 rfl
    refine callV_of s_plain_Model_gone_1 (first := #[]) (cap := #[(Value.pointer (some ⟨b, 0, none⟩))]) (args := [S_plain_token.val t]) (t, (⟨b, 0, none⟩ : Addr)) rfl ?_
    show m_plain_Model_gone_1 t ⟨b, 0, none⟩ k h'
    unfold m_plain_Model_gone_1
    exact w_load a3 hk
  · have e : KChg F F h h2 := ⟨(But.of k1).trans b2 fun c e => by rw [e]; exact .inl x.fp.2.1, fun c g => .inl g, fun c z => k1.fresh (d2 c z)⟩
    exact y h3 x3 (e.trans k3)
theorem t_pDestroy (x : PM h p F m) (hn : m.ts.length ≤ 2 ^ 20) {c : S_api_Call} {K : S_api_Reply → H → Prop} (y : ∀ h', PM h' p F (destroyO m c.Cap).2 → KChg F F h h' → K ⟨(destroyO m c.Cap).1.code, cap0, Sl.nil, 0⟩ h') : m_plain_Model_destroy (some ⟨p, 0, none⟩) c K h := by
  unfold m_plain_Model_destroy
  refine t_pGiven x hn fun h1 k1 => ?_
  have x1 := x.keep k1
  have kc : KChg F F h h1 := ⟨.of k1, fun c g => .inl g, fun c => k1.fresh⟩
  unfold destroyO at y
  cases e : findT m.ts c.Cap with
  | none =>
    rw [givenT_none e] at y ⊢
    exact w_ifT rfl (w_pure _ (fun _ _ z => z) (y h1 x1 kc))
  | some t =>
    rw [givenT_some e] at y ⊢
    by_cases q : partOf 16 t.xrights = true
    · rw [if_pos q] at y ⊢
      exact w_ifF rfl (t_pGone x1 hn fun h2 x2 k2 => y h2 x2 (kc.trans k2))
    · rw [if_neg q] at y ⊢
      exact w_ifT rfl (w_pure _ (fun _ _ z => z) (y h1 x1 kc))
end
section
variable {h h' : H} {p bo bl : Nat} {sd st : Sl} {so sl : List (Int × Sl)} {F F' G : Nat → Prop} {m m' : MdS}
theorem KChg.of {F : Nat → Prop} (k : Keeps h h') : KChg F F h h' := ⟨But.of k, fun _ g => .inl g, fun _ => k.fresh⟩
def nameF (ns : List Int) (x : Tk) : List Int := if x.xparent ∈ ns then ns ++ [x.xname] else ns
theorem nameF_len (ns : List Int) (x : Tk) : (nameF ns x).length ≤ ns.length + 1 := by
  unfold nameF
  split
  · rw [List.length_append]; exact Nat.le_refl _
  · exact Nat.le_succ _
theorem names_len : ∀ (ts : List Tk) (ns : List Int), (ts.foldl nameF ns).length ≤ ns.length + ts.length
  | [], _ => Nat.le_refl _
  | a :: r, ns => by
    rw [List.foldl_cons, List.length_cons]
    have := names_len r (nameF ns a)
    have := nameF_len ns a
    omega
theorem t_pRevoke (x : PM h p F m) (hn : m.ts.length ≤ 2 ^ 20) {c : S_api_Call} {K : S_api_Reply → H → Prop} (y : ∀ h', PM h' p F (revokeO m c.Cap).2 → KChg F F h h' → K ⟨(revokeO m c.Cap).1.code, cap0, Sl.nil, 0⟩ h') : m_plain_Model_revoke (some ⟨p, 0, none⟩) c K h := by
  unfold m_plain_Model_revoke
  refine t_pGiven x hn fun h1 k1 => ?_
  have x1 := x.keep k1
  have kc : KChg F F h h1 := .of k1
  unfold revokeO at y
  cases e : findT m.ts c.Cap with
  | none =>
    rw [givenT_none e] at y ⊢
    exact w_ifT rfl (w_pure _ (fun _ _ z => z) (y h1 x1 kc))
  | some t =>
    rw [givenT_some e] at y ⊢
    by_cases q : partOf 8 t.xrights = true
    · rw [if_pos q] at y ⊢
      have y : ∀ h', PM h' p F (if t.xparent = 0 then (refO 0, goneO m t.xcap.Obj) else (refO 0, { m with ts := m.ts.filter fun x => !decide (x.xname ∈ namesO m.ts t.xname) })).2 → KChg F F h h' → K ⟨(if t.xparent = 0 then (refO 0, goneO m t.xcap.Obj) else (refO 0, { m with ts := m.ts.filter fun x => !decide (x.xname ∈ namesO m.ts t.xname) })).1.code, cap0, Sl.nil, 0⟩ h' := y
      refine w_ifF rfl ?_
      dsimp only [Option.getD]
      refine w_if' (fun r => ?_) fun r => ?_
      · have r : t.xparent = 0 := r
        rw [if_pos r] at y
        exact t_pGone x1 hn fun h2 x2 k2 => y h2 x2 (kc.trans k2)
      · have r : ¬ t.xparent = 0 := r
        rw [if_neg r] at y
        obtain ⟨bo, bl, sd, st, so, sl, x1⟩ := x1
        refine w_new fun b4 hb4 => ?_
        have k2 : Keeps h1 (upd h1 b4 (.cells #[(Value.int .i64 t.xname)] N_int (0, 0))) := Keeps.new hb4
        have q2 : (upd h1 b4 (.cells #[(Value.int .i64 t.xname)] N_int (0, 0))) b4 = some (.cells (cInt .i64 t.xname).toArray N_int (0, 0)) := upd_same _ _ _
        generalize (upd h1 b4 (.cells #[(Value.int .i64 t.xname)] N_int (0, 0))) = h2 at k2 q2
        refine w_new fun b5 hb5 => ?_
        have k3 : Keeps h2 (upd h2 b5 (.cells #[(Sl.val Sl.nil)] N_Sl_i64 (0, 0))) := Keeps.new hb5
        have q3 : (upd h2 b5 (.cells #[(Sl.val Sl.nil)] N_Sl_i64 (0, 0))) b5 = some (.cells (cSl Sl.nil).toArray N_Sl_i64 (0, 0)) := upd_same _ _ _
        generalize (upd h2 b5 (.cells #[(Sl.val Sl.nil)] N_Sl_i64 (0, 0))) = h3 at k3 q3
        have bn2 := (Buf.one ci_len q2).keep k3
        refine w_setBox q3 rfl fun h4 q4 b4' d4 => w_deref ?_
        have k123 : Keeps h1 h3 := k2.trans k3
        have k4 : Keeps h1 h4 := k123.but b4' fun n e => by rw [e]; exact k2.fresh hb5
        have bn4 : Buf (cInt .i64) 1 N_int h4 ⟨some ⟨b4, 0, none⟩, 1, 1⟩ [t.xname] := bn2.but b4' fun ad ha e => (bn2.typed ⟨ad, ha, rfl⟩).ne (.of q3) (by decide) e
        have x4 := x1.keep k4
        have hl := x4.ts.len
        refine w_load x4.f13 (w_for m.ts.length (fun i (z : Int) hh => z = (i : Int) ∧ Keeps h1 hh ∧ ∃ sn, hh b5 = some (.cells (cSl sn).toArray N_Sl_i64 (0, 0)) ∧ Buf (cInt .i64) 1 N_int hh sn ((m.ts.take i).foldl nameF [t.xname]) ∧ ∀ c, sn.foot c → h1 c = none) ?_
          ⟨rfl, k4, _, q4, bn4, fun c ⟨ad, ha, e⟩ => (by cases ha; rw [← e]; exact hb4)⟩)
        rintro rec i _ hh hi ⟨rfl, kh, sn, qh, bh, fh⟩ more
        have xh := x1.keep kh
        have ah : At hh ⟨b5, 0, none⟩ (cSl sn) := at_box qh
        have nlen := names_len (m.ts.take i) [t.xname]
        rw [List.length_take, List.length_singleton] at nlen
        refine w_if' (fun c0 => ?_) fun c0 => ?_
        · have c0 : (i : Int) < (st.len : Int) := c0
          have hil : i < m.ts.length := by omega
          have ht := List.getElem?_eq_getElem hil
          generalize m.ts[i] = u at ht
          have fs : (m.ts.take (i + 1)).foldl nameF [t.xname] = nameF ((m.ts.take i).foldl nameF [t.xname]) u := by rw [List.take_add_one, ht, List.foldl_append]; rfl
          refine w_get ptk_len xh.ts.arr ht rfl rfl (w_load ah (t_iContains bh.arr (by omega) (w_if' (fun q5 => ?_) fun q5 => ?_)))
          · have q5 : u.xparent ∈ (m.ts.take i).foldl nameF [t.xname] := q5
            refine w_load ah (w_app ci_len rfl bh [u.xname] rfl rfl (.inl (by show (2 * (_ + 1) + 192) * 8 ≤ 2 ^ 48; omega)) fun s6 h6 b6 bt6 f6 d6 => ?_)
            have q6 := bt6 _ _ qh fun g => (bh.typed g).ne (.of qh) (by decide) rfl
            refine w_setBox q6 rfl fun h7 q7 b7 d7 => ?_
            have k7 : Keeps h1 h7 := (kh.but bt6 fun c g => fh c g).but b7 fun n e => by rw [e]; exact k2.fresh hb5
            refine more _ _ hil ⟨ia1 i (by omega), k7, s6, q7, ?_, fun c g => (f6 c g).elim (fh c) fun z => kh.fresh z⟩
            rw [fs, nameF, if_pos q5]
            exact b6.but b7 fun ad ha e => (b6.typed ⟨ad, ha, rfl⟩).ne (.of q6) (by decide) e
          · have q5 : ¬ u.xparent ∈ (m.ts.take i).foldl nameF [t.xname] := q5
            refine more _ _ hil ⟨ia1 i (by omega), kh, sn, qh, ?_, fh⟩
            rw [fs, nameF, if_neg q5]; exact bh
        · have c0 : ¬ (i : Int) < (st.len : Int) := c0
          rw [List.take_of_length_le (by omega)] at bh
          have en : m.ts.foldl nameF [t.xname] = namesO m.ts t.xname := rfl
          rw [en] at bh
          have nl : (namesO m.ts t.xname).length ≤ 2 ^ 40 := by
            have := names_len m.ts [t.xname]
            rw [en, List.length_singleton] at this
            omega
          refine w_deref (w_load xh.f13 (xh.cutT hn (P := fun u => decide (u.xname ∈ namesO m.ts t.xname)) (fun h' bt u k hk => ?_) fun h8 x8 k8 => ?_))
          · have q8 := bt _ _ qh fun g => (xh.ts.typed g).ne (.of qh) (by decide) rfl
            have b8 := bh.but bt fun ad ha g => (xh.ts.typed g).ne (bh.typed ⟨ad, ha, rfl⟩) (by decide) rfl
            refine callV_of s_plain_Model_revoke_1 (first := #[]) (cap := #[(Value.pointer (some ⟨b5, 0, none⟩))]) (args := [S_plain_token.val u]) (u, (⟨b5, 0, none⟩ : Addr)) rfl ?_
            show m_plain_Model_revoke_1 u ⟨b5, 0, none⟩ k h'
            unfold m_plain_Model_revoke_1
            exact w_load (at_box q8) (t_iContains b8.arr nl hk)
          · exact y h8 x8 ((kc.trans (.of kh)).trans k8)
    · rw [if_neg q] at y ⊢
      exact w_ifT rfl (w_pure _ (fun _ _ z => z) (y h1 x1 kc))
theorem MSI.atTk (i : MSI m) {tk : Nat} (h1 : m.tk ≤ tk) (h2 : tk ≤ m.dr.length) : MSI { m with tk := tk } :=
  ⟨i.cfg, i.drn, i.drg, h2, Nat.le_trans i.nm h1, i.obo, i.obn, i.obs, i.obk, i.ni, i.tsn, i.tso, i.tsm, i.tsp, i.lso, i.lsn, i.lsl, i.lsk, i.np⟩
theorem derO_none {m : MdS} {o r name : Int} {tk n : Nat} (e : m.dr[tk]? = none) : derO m o r name tk (n + 1) = (refO 11, { m with tk := tk }) := by rw [derO, e]
theorem derO_some {m : MdS} {o r name : Int} {tk n : Nat} {w : S_api_Word} (e : m.dr[tk]? = some w) : derO m o r name tk (n + 1) = if (findT m.ts ⟨o, m.cut w⟩).isSome = true then derO m o r name (tk + 1) n else
      (⟨0, ⟨o, m.cut w⟩, [], 0⟩, { m with tk := tk + 1, ts := m.ts ++ [⟨⟨o, m.cut w⟩, r, ((m.nm + 1 : Nat) : Int), name⟩], nm := m.nm + 1 }) := by rw [derO, e]
theorem t_pDerive (x : PM h p F m) (i : MSI m) {c : S_api_Call} {K : S_api_Reply → H → Prop} (y : ∀ h' F', PM h' p F' (deriveO m c.Cap c.Rights).2 → KChg F F' h h' → K ⟨(deriveO m c.Cap c.Rights).1.code, (deriveO m c.Cap c.Rights).1.cap, Sl.nil, 0⟩ h') : m_plain_Model_derive (some ⟨p, 0, none⟩) c K h := by
  unfold m_plain_Model_derive
  have tn := i.tsn
  have hn : m.ts.length ≤ 2 ^ 20 := by omega
  refine t_pGiven x hn fun h1 k1 => ?_
  have x1 := x.keep k1
  have kc : KChg F F h h1 := .of k1
  unfold deriveO at y
  cases e : findT m.ts c.Cap with
  | none =>
    rw [givenT_none e] at y ⊢
    exact w_ifT rfl (w_pure _ (fun _ _ z => z) (y h1 F x1 kc))
  | some t =>
    rw [givenT_some e] at y ⊢
    by_cases q : partOf 4 t.xrights = true
    · rw [if_pos q] at y ⊢
      replace y : ∀ h' F', PM h' p F' (if partOf c.Rights t.xrights = true then (if m.c.Quota ≤ (countT m.ts c.Cap.Obj : Int) then (refO 9, m) else if m.c.Entries ≤ (m.ts.length : Int) then (refO 10, m) else derO m c.Cap.Obj c.Rights t.xname m.tk 9) else (refO 4, m)).2 → KChg F F' h h' →
        K ⟨(if partOf c.Rights t.xrights = true then (if m.c.Quota ≤ (countT m.ts c.Cap.Obj : Int) then (refO 9, m) else if m.c.Entries ≤ (m.ts.length : Int) then (refO 10, m) else derO m c.Cap.Obj c.Rights t.xname m.tk 9) else (refO 4, m)).1.code, (if partOf c.Rights t.xrights = true then (if m.c.Quota ≤ (countT m.ts c.Cap.Obj : Int) then (refO 9, m) else if m.c.Entries ≤ (m.ts.length : Int) then (refO 10, m) else derO m c.Cap.Obj c.Rights t.xname m.tk 9) else (refO 4, m)).1.cap, Sl.nil, 0⟩ h' := y
      refine w_ifF rfl (w_Part ?_)
      dsimp only [Option.getD]
      by_cases q2 : partOf c.Rights t.xrights = true
      · simp only [if_pos q2] at y
        refine w_ifF (by rw [q2]; rfl) ?_
        obtain ⟨bo, bl, sd, st, so, sl, x1'⟩ := x1
        have x1 : PM h1 p F m := ⟨bo, bl, sd, st, so, sl, x1'⟩
        refine w_deref (w_joinV ((countT m.ts c.Cap.Obj : Int), m.c.Quota) (fun j hj => w_both (t_pOf x1 hn (w_load x1'.fQuo hj)) (w_load x1'.fQuo (t_pOf x1 hn hj))) ?_)
        refine w_if' (fun q3 => ?_) fun q3 => ?_
        · have q3 : m.c.Quota ≤ (countT m.ts c.Cap.Obj : Int) := q3
          simp only [if_pos q3] at y
          exact w_pure _ (fun _ _ z => z) (y h1 F x1 kc)
        have q3 : ¬ m.c.Quota ≤ (countT m.ts c.Cap.Obj : Int) := q3
        simp only [if_neg q3] at y
        have hl := x1'.ts.len
        refine w_deref (w_deref (w_load x1'.f13 (w_load x1'.fEnt (w_if' (fun q4 => ?_) fun q4 => ?_))))
        · have q4 : m.c.Entries ≤ (st.len : Int) := q4
          rw [hl] at q4
          simp only [if_pos q4] at y
          exact w_pure _ (fun _ _ z => z) (y h1 F x1 kc)
        have q4 : ¬ m.c.Entries ≤ (st.len : Int) := q4
        rw [hl] at q4
        simp only [if_neg q4] at y
        refine w_for 9 (fun n (z : Int) hh => z = (n : Int) ∧ ∃ tk, m.tk ≤ tk ∧ tk ≤ m.dr.length ∧ PM hh p F { m with tk := tk } ∧ KChg F F h hh ∧ derO m c.Cap.Obj c.Rights t.xname tk (9 - n) = derO m c.Cap.Obj c.Rights t.xname m.tk 9) ?_ ⟨rfl, m.tk, Nat.le_refl _, i.tk, x1, kc, rfl⟩
        rintro rec n _ hh hi ⟨rfl, tk, g1, g2, xh, kh, eh⟩ more
        have ii := i.atTk g1 g2
        refine w_if' (fun q5 => ?_) fun q5 => ?_
        · have q5 : (n : Int) < 9 := q5
          have e9 : 9 - n = (9 - (n + 1)) + 1 := by omega
          rw [e9] at eh
          obtain ⟨bo, bl, sd, st, so, sl, xh⟩ := xh
          refine t_pDraw xh ii (fun z => ?_) fun w h2 hw x2 k2 => ?_
          · have z : m.dr[tk]? = none := z
            rw [derO_none z] at eh
            rw [← eh] at y
            exact w_ifT rfl (w_pure _ (fun _ _ z => z) (y hh F ⟨_, _, _, _, _, _, xh⟩ kh))
          · have hw : m.dr[tk]? = some w := hw
            rw [derO_some hw] at eh
            have lt := lt_of_get hw
            have x2' : PM h2 p F { m with tk := tk + 1 } := ⟨_, _, _, _, _, _, x2⟩
            refine w_ifF rfl (t_pFind x2' hn fun h3 k3 => ?_)
            have x3 := x2'.keep k3
            have kh3 := (kh.trans k2).trans (.of k3)
            by_cases q6 : (findT m.ts ⟨c.Cap.Obj, m.cut w⟩).isSome = true
            · rw [if_pos q6] at eh
              refine w_ifF (by show (!(findT m.ts ⟨c.Cap.Obj, m.cut w⟩).isSome) = false; rw [q6]; rfl) (more _ _ (by omega) ⟨ia1 n (by omega), tk + 1, by omega, by omega, x3, kh3, eh⟩)
            · rw [if_neg q6] at eh
              rw [← eh] at y
              obtain ⟨bo, bl, sd, st, so, sl, x3⟩ := x3
              have nm := ii.nm
              have dn := i.drn
              refine w_ifT (by show (!(findT m.ts ⟨c.Cap.Obj, m.cut w⟩).isSome) = true; cases z : (findT m.ts ⟨c.Cap.Obj, m.cut w⟩).isSome; rfl; exact absurd z q6) (t_pIssue x3 (by show m.nm ≤ _; have : m.nm ≤ tk := nm; omega) hn fun h4 F4 x4 k4 => y h4 F4 x4 (kh3.trans k4))
        · have q5 : ¬ (n : Int) < 9 := q5
          have e9 : 9 - n = 0 := by omega
          rw [e9, derO] at eh
          rw [← eh] at y
          exact w_pure _ (fun _ _ z => z) (y hh F xh kh)
      · simp only [if_neg q2] at y
        exact w_ifT (by cases z : partOf c.Rights t.xrights; rfl; exact absurd z q2) (w_pure _ (fun _ _ z => z) (y h1 F x1 kc))
    · rw [if_neg q] at y ⊢
      exact w_ifT rfl (w_pure _ (fun _ _ z => z) (y h1 F x1 kc))
end
theorem alist_map {V W Z : Type} {f : V → Z} {g : W → Z} : ∀ {l : List (Int × V)} {m : List (Int × W)}, l.map (·.1) = m.map (·.1) → Once l → (∀ k s x, alook l k = some s → alook m k = some x → f s = g x) → l.map (fun q => f q.2) = m.map (fun q => g q.2)
  | [], [], _, _, _ => rfl
  | [], _ :: _, e, _, _ => by cases e
  | _ :: _, [], e, _, _ => by cases e
  | (a, v) :: r, (a', w) :: r', e, o, z => by
    rw [List.map_cons, List.map_cons, List.cons.injEq] at e
    obtain ⟨e1, e2⟩ := e
    have e1 : a = a' := e1
    subst e1
    unfold Once at o
    rw [List.map_cons, List.nodup_cons] at o
    rw [List.map_cons, List.map_cons, z a v w (by rw [alook_cons, if_pos rfl]) (by rw [alook_cons, if_pos rfl]), alist_map e2 o.2 fun k s x q1 q2 => z k s x ?_ ?_]
    · have : k ≠ a := fun e => o.1 (e ▸ List.mem_map_of_mem (f := (·.1)) (alook_mem q1))
      rw [alook_cons, if_neg this]; exact q1
    · have : k ≠ a := fun e => o.1 (e ▸ List.mem_map_of_mem (f := (·.1)) (alook_mem q1))
      rw [alook_cons, if_neg this]; exact q2
section
variable {h h' : H} {p bo bl : Nat} {sd st : Sl} {so sl : List (Int × Sl)} {F F' G : Nat → Prop} {m m' : MdS}
theorem Rows.typed {T : Type} {cells : T → List Value} {sz : Nat} {e : TypeId} {ob : List (Int × List T)} (x : Rows cells sz e h F so ob) {i : Int} {s : Sl} (q : alook so i = some s) {c : Nat} (g : s.foot c) : Typed h e c := by
  have := alook_some x.keys i
  rw [q] at this
  cases z : alook ob i with
  | none => rw [z] at this; cases this
  | some ys => exact (x.buf i s ys q z).typed g
def pagesS (l : List (Int × Sl)) : Nat := (l.map fun q => pagesO q.2.len).sum
theorem PMA.pages (x : PMA h p bo bl sd st so sl F m) : pagesS so = allPages m.ob := by
  unfold pagesS allPages
  rw [alist_map (f := fun s : Sl => pagesO s.len) (g := fun b : List UInt8 => pagesO b.length) x.ob.keys x.ob.onceS fun k s b q1 q2 => by rw [(x.ob.buf k s b q1 q2).len]]
theorem w_pages {n : Nat} (hn : n ≤ 2 ^ 60) {k : Int → H → Prop} (y : k (pagesO n : Nat) h) : mPure (m_plain_pages (n : Int)) k h := by
  refine w_pure _ (fun _ _ z => z) ?_
  rw [show ((64 : Int)) = ((64 : Nat) : Int) from rfl, ia n 64 (by omega), iSub_eq (by omega) (by omega), show ((n + 64 : Nat) : Int) - 1 = ((n + 63 : Nat) : Int) by omega, iq (n + 63) 64 (by omega)]
  exact y
theorem all_le {ob : List (Int × List UInt8)} (hs : ∀ q ∈ ob, q.2.length ≤ 4096) : allPages ob ≤ ob.length * 64 := by
  induction ob with
  | nil => exact Nat.le_refl _
  | cons a r ih =>
    have h1 := hs a (List.mem_cons_self ..)
    have h2 := ih fun q hq => hs q (List.mem_cons_of_mem _ hq)
    unfold allPages at *
    rw [List.map_cons, List.sum_cons, List.length_cons]
    have : pagesO a.2.length ≤ 64 := by unfold pagesO; omega
    omega
theorem sums_perm {l r : List (Int × Sl)} (h : l.Perm r) : pagesS l = pagesS r := by
  unfold pagesS
  exact (h.map _).sum_nat
theorem t_pCreate (x : PM h p F m) (i : MSI m) {c : S_api_Call} {K : S_api_Reply → H → Prop} (y : ∀ h' F', PM h' p F' (createO m c.Size).2 → KChg F F' h h' → K ⟨(createO m c.Size).1.code, (createO m c.Size).1.cap, Sl.nil, 0⟩ h') : m_plain_Model_create (some ⟨p, 0, none⟩) c K h := by
  unfold m_plain_Model_create
  have x0 := x
  obtain ⟨bo, bl, sd, st, so, sl, x⟩ := x
  have hb := all_le i.obs
  have hob := i.obn
  have hpg := x.pages
  have inn := i.ni
  have slen : so.length = m.ob.length := by
    have := congrArg List.length x.ob.keys
    rwa [List.length_map, List.length_map] at this
  have szs : ∀ q ∈ so, q.2.len ≤ 4096 := fun q hq => by
    have e1 := x.ob.onceS.look hq
    have e2 := alook_some x.ob.keys q.1
    rw [e1] at e2
    cases z : alook m.ob q.1 with
    | none => rw [z] at e2; cases e2
    | some b =>
      rw [(x.ob.buf _ _ _ e1 z).len]
      exact i.obs _ (alook_mem z)
  refine w_deref (w_load x.f12 (w_range x.mo fun it h1 f1 it1 k1 => ?_))
  have hne : it.block ≠ bo := fun e => by
    obtain ⟨_, _, z, _⟩ := x.mo.ex
    rw [e, z] at f1; cases f1
  refine w_for so.length (fun j s h' => ∃ (rest : List (Int × Sl)) (at_ : Option (Int × Sl)) (n : Nat), s = (n : Int) ∧ IterOf (Value.int .i64) Sl.val h' it bo so rest at_ ∧ rest.length + j = so.length ∧ n + pagesS rest = pagesS so ∧ (∀ q ∈ rest, q.2.len ≤ 4096) ∧ But (· = it.block) h1 h') ?_ ⟨so, none, 0, rfl, it1, rfl, by omega, szs, .refl _ _⟩
  rintro rec j _ h2 hj ⟨rest, at_, n, rfl, it2, hl, hs, hsz, b2⟩ more
  refine w_next it2 hne (fun e => w_ifF rfl ?_) fun q rest' h3 pm it3 b3 d3 => w_ifT rfl (w_entry it3 ?_)
  · subst e
    have en : n = allPages m.ob := by rw [← hpg, ← hs]; rfl
    subst en
    clear more rec
    have k2 : Keeps h h2 := k1.but b2 fun n e => by subst e; exact f1
    have x2 := x.keep k2
    have kc : KChg F F h h2 := .of k2
    have x2' : PM h2 p F m := ⟨_, _, _, _, _, _, x2⟩
    unfold createO at y
    refine w_if (fun q1 => ?_) fun q1 => ?_
    · have q1 : c.Size < 0 ∨ 4096 < c.Size := by simpa using q1
      simp only [if_pos q1] at y
      exact w_pure _ (fun _ _ z => z) (y h2 F x2' kc)
    have q1 : ¬ (c.Size < 0 ∨ 4096 < c.Size) := fun z => by
      have : (decide (c.Size < 0) || decide (4096 < c.Size)) = true := by simpa using z
      rw [this] at q1; cases q1
    simp only [if_neg q1] at y
    have q1' : ¬ c.Size < 0 ∧ ¬ 4096 < c.Size := ⟨fun z => q1 (.inl z), fun z => q1 (.inr z)⟩
    obtain ⟨sz, esz⟩ : ∃ sz : Nat, c.Size = sz := ⟨c.Size.toNat, by omega⟩
    have hszb : sz ≤ 4096 := by omega
    rw [esz, Int.toNat_natCast] at y
    rw [esz]
    refine w_deref (w_deref (w_load x2.f12 (w_mapLen x2.mo (by omega) (w_load x2.fObj (w_joinV (decide (m.c.Objects ≤ (m.ob.length : Int) ∨ 4611686018427387904 < m.ni)) (fun j hj => ?_) ?_)))))
    · rw [slen]
      refine w_if' (fun q2 => ?_) fun q2 => ?_
      · have q2 : m.c.Objects ≤ (m.ob.length : Int) := q2
        rw [decide_eq_true (.inl q2)] at hj; exact hj
      · have q2 : ¬ m.c.Objects ≤ (m.ob.length : Int) := q2
        refine w_deref (w_load x2.f16 ?_)
        have e1 : decide (m.c.Objects ≤ (m.ob.length : Int) ∨ 4611686018427387904 < m.ni) = decide (4611686018427387904 < m.ni) := decide_eq_decide.2 ⟨fun z => z.elim (fun z => absurd z q2) id, .inr⟩
        rw [e1] at hj; exact hj
    by_cases q2 : m.c.Objects ≤ (m.ob.length : Int) ∨ 4611686018427387904 < m.ni
    · simp only [if_pos q2] at y
      exact w_ifT (decide_eq_true q2) (w_pure _ (fun _ _ z => z) (y h2 F x2' kc))
    simp only [if_neg q2] at y
    have q2' : ¬ 4611686018427387904 < m.ni := fun z => q2 (.inr z)
    refine w_ifF (decide_eq_false q2) (w_deref (w_pages (by omega) (w_load x2.fPag (w_if' (fun q3 => ?_) fun q3 => ?_))))
    · have q3 : m.c.Pages < iAdd .i64 ((allPages m.ob : Nat) : Int) ((pagesO sz : Nat) : Int) := q3
      rw [ia _ _ (by unfold pagesO; omega)] at q3
      simp only [if_pos q3] at y
      exact w_pure _ (fun _ _ z => z) (y h2 F x2' kc)
    have q3 : ¬ m.c.Pages < iAdd .i64 ((allPages m.ob : Nat) : Int) ((pagesO sz : Nat) : Int) := q3
    rw [ia _ _ (by unfold pagesO; omega)] at q3
    simp only [if_neg q3] at y
    have hlt := x2.ts.len
    refine w_deref (w_deref (w_load x2.f13 (w_load x2.fEnt (w_if' (fun q4 => ?_) fun q4 => ?_))))
    · have q4 : m.c.Entries ≤ (st.len : Int) := q4
      rw [hlt] at q4
      simp only [if_pos q4] at y
      exact w_pure _ (fun _ _ z => z) (y h2 F x2' kc)
    have q4 : ¬ m.c.Entries ≤ (st.len : Int) := q4
    rw [hlt] at q4
    simp only [if_neg q4] at y
    refine t_pDraw x2 i (fun z => ?_) fun w h3 hw x3 k3 => ?_
    · rw [z] at y
      exact w_ifT rfl (w_pure _ (fun _ _ z => z) (y h2 F x2' kc))
    rw [hw] at y
    have tn := i.tsn
    have nm := i.nm
    have tkn := i.tk
    have drn := i.drn
    refine w_ifF rfl (w_deref (w_load x3.f16 (w_deref (w_load x3.f16 (w_deref ?_)))))
    rw [show iAdd .i64 m.ni 1 = m.ni + 1 from iAdd_eq (by omega) (by omega)]
    refine x3.put (m' := { m with tk := m.tk + 1, ni := m.ni + 1 }) (st' := st) (l1 := x3.cs.take 16) (l2 := cInt .i64 m.ni) (l3 := x3.cs.drop 17) (new := [.int .i64 (m.ni + 1)]) rfl rfl rfl rfl fun h4 c4 b4 d4 => ?_
    have x4 := x3.atP b4 d4 c4 rfl rfl rfl rfl
    have k4 : KChg F F h3 h4 := ⟨b4.mono fun c e => by rw [e]; exact x3.fp.1, fun c g => .inl g, d4⟩
    refine w_deref (w_joinP (fun (z : Option Nat × Sl) hh => z.1 = some bo ∧ Buf cU8 1 N_u8 hh z.2 (List.replicate sz 0) ∧ Keeps h4 hh ∧ ∀ c, z.2.foot c → h4 c = none) (fun j hj => w_both (w_load x4.f12 ?_) ?_) ?_)
    · exact w_make (cells := cU8) (e := N_u8) (fun _ => rfl) (0 : UInt8) rfl (n := sz) rfl rfl (by omega) (by omega) fun s5 h5 b5 k5 f5 _ => hj _ _ ⟨rfl, b5, k5, f5⟩
    · exact w_make (cells := cU8) (e := N_u8) (fun _ => rfl) (0 : UInt8) rfl (n := sz) rfl rfl (by omega) (by omega) fun s5 h5 b5 k5 f5 _ => w_load (x4.keep k5).f12 (hj _ _ ⟨rfl, b5, k5, f5⟩)
    rintro ⟨_, s5⟩ h5 ⟨rfl, b5, k5, f5⟩
    have x5 := x4.keep k5
    have nk : m.ni ∉ m.ob.map (·.1) := fun z => by
      obtain ⟨q, hq, e⟩ := List.mem_map.1 z
      have := (i.obk q hq).2
      omega
    have nso : alook so m.ni = none := alook_none (by rw [x5.ob.keys]; exact nk)
    refine w_mapSet (keyP (by kernel_rfl)) x5.mo rfl rfl fun h6 m6 b6 d6 => ?_
    have b56 : Buf cU8 1 N_u8 h6 s5 (List.replicate sz 0) := b5.but b6 fun ad ha e => x5.mo.untyped (b5.typed ⟨ad, ha, rfl⟩) e
    have r5 : Rows cU8 1 N_u8 h5 (fun c => F c ∨ s5.foot c) (aset so m.ni s5) (aset m.ob m.ni (List.replicate sz 0)) := x4.ob.set b5 (But.of k5) (fun c g => ⟨.inr g, .inl (f5 c g)⟩) fun c g => .inl g
    have r6 : Rows cU8 1 N_u8 h6 (fun c => F c ∨ s5.foot c) (aset so m.ni s5) (aset m.ob m.ni (List.replicate sz 0)) := r5.but b6 fun i s q c g e => x5.mo.untyped (r5.typed q g) e
    have x6 := x5.reO (ob' := aset m.ob m.ni (List.replicate sz 0)) b6 (fun c g => .inl g) m6 r6 (fun c g => .inl g) fun c g => g.elim (fun g z => x5.has c g (d6 c z)) fun g => b56.has g
    have e6 : aset m.ob m.ni (List.replicate sz (0 : UInt8)) = m.ob ++ [(m.ni, List.replicate sz 0)] := aset_new nk
    rw [e6] at x6
    refine t_pIssue x6 (by show m.nm ≤ _; omega) (by show m.ts.length ≤ _; omega) fun h7 F7 x7 k7 => ?_
    refine y h7 F7 x7 (((kc.trans k3).trans k4).trans ((⟨(But.of k5).trans b6 fun c e => by rw [e]; exact .inl x.fp.2.1, fun c g => g.imp id fun g => f5 c g, fun c z => k5.fresh (d6 c z)⟩ : KChg F (fun c => F c ∨ s5.foot c) h4 h6).trans k7))
  · have e1 := sums_perm pm
    have e2 := pm.length_eq
    have hp' : ∀ z ∈ q :: rest', z.2.len ≤ 4096 := fun z hz => hsz z (pm.symm.subset hz)
    have hq := hp' q (List.mem_cons_self ..)
    have e3 : pagesS (q :: rest') = pagesO q.2.len + pagesS rest' := rfl
    rw [List.length_cons] at e2
    refine w_pages (by omega) (more _ _ (by omega) ⟨rest', some q, n + pagesO q.2.len, ?_, it3, by omega, by omega, fun z hz => hp' z (List.mem_cons_of_mem _ hz), b2.trans b3 fun _ f => .inl f⟩)
    exact ia _ _ (by omega)
end
section
variable {T : Type} {cells : T → List Value} {sz : Nat} {e : TypeId} {h : H}
theorem w_over (hs : ∀ x, (cells x).length = sz) (hp : ∀ x, (cells x).all plainVal = true) {s sl : Sl} {bs d : List T} (x : Buf cells sz e h s bs) (ar : Arr cells h sl d) {off : Nat} (hn : off + d.length ≤ bs.length) {K : H → Prop}
    (y : ∀ h', Buf cells sz e h' s (bs.take off ++ d ++ bs.drop (off + d.length)) → But s.foot h h' → (∀ c, h' c = none → h c = none) → K h') : mCut s (off : Int) (s.len : Int) sz (fun s8 => mCopy sz s8 sl fun _ => K) h := by
  have hl := x.len
  have hc := x.cap
  refine w_cut (lo := off) (hi := s.len) rfl rfl (by omega) hc ?_
  rcases x.at_ with ⟨ha, h0⟩ | ⟨b, z, fz, ha, hb, hzl, hth⟩
  · have : d = [] := List.length_eq_zero_iff.1 (by omega)
    subst this
    refine w_copy hs hp ar (by show 0 ≤ _; omega) (fun _ => y h (by simpa using x) (.refl _ _) fun _ q => q) fun ne => absurd rfl ne
  refine w_copy hs hp ar (by show d.length ≤ s.len - off; omega) (fun e0 => ?_) fun ne => ⟨(⟨b, 0, none⟩ : Addr).add (off * sz), ?_, ?_⟩
  · subst e0
    exact y h (by simpa using x) (.refl _ _) fun _ q => q
  · have : 0 < d.length := List.length_pos_iff.2 ne
    rw [if_neg (by omega), ha]; rfl
  · have e1 : flat cells bs ++ z = flat cells (bs.take off) ++ flat cells ((bs.drop off).take d.length) ++ (flat cells (bs.drop (off + d.length)) ++ z) := by
      rw [← List.append_assoc, ← flat_append, ← flat_append, List.append_assoc (bs.take off), ← List.drop_drop, List.take_append_drop, List.take_append_drop]
    have hb' := hb
    rw [e1] at hb'
    refine w_storeF (addr_add _ _ _) hb' (by rw [← e1, hzl]; exact hth) (by rw [flat_len hs, List.length_take, Nat.zero_add, Nat.min_eq_left (by omega)]) (by rw [flat_len hs, flat_len hs, List.length_take, List.length_drop, Nat.min_eq_left (by omega)]) ?_
    refine y _ ⟨?_, hc, .inr ⟨b, z, fz, ha, ?_, ?_, hth⟩⟩ (But.upd ⟨_, ha, rfl⟩) fun c q => (upd_none.1 q).2
    · rw [List.length_append, List.length_append, List.length_take, List.length_drop]; omega
    · rw [upd_same, flat_append, flat_append, List.append_assoc (flat cells _ ++ _)]
    · rw [← hzl, List.length_append, List.length_append, flat_len hs, flat_len hs, List.length_append, List.length_append, List.length_take, List.length_drop]
      congr 2; omega
end
section
variable {h h' : H} {p bo bl : Nat} {sd st : Sl} {so sl : List (Int × Sl)} {F F' G : Nat → Prop} {m m' : MdS}
theorem MSI.lsl' (i : MSI m) : ∀ k l, alook m.ls k = some l → l.length ≤ 2 ^ 20 := fun k l q => Nat.le_trans (i.lsl _ (alook_mem q)) (by decide)
theorem MSI.obs' (i : MSI m) (k : Int) : (bytesO m k).length ≤ 4096 := by
  unfold bytesO
  cases q : alook m.ob k with
  | none => exact Nat.zero_le _
  | some l => exact i.obs _ (alook_mem q)
theorem MSI.list' (i : MSI m) (k : Int) : (listO m k).length ≤ 32 := by
  unfold listO
  cases q : alook m.ls k with
  | none => exact Nat.zero_le _
  | some l => exact i.lsl _ (alook_mem q)
theorem MSI.tsn' (i : MSI m) : m.ts.length ≤ 2 ^ 20 := Nat.le_trans i.tsn (by decide)
theorem place_ok {o off n : Int} (e : placeO m o off n = 0) : 0 ≤ off ∧ 0 ≤ n ∧ n ≤ 1024 ∧ off + n ≤ ((bytesO m o).length : Int) := by
  unfold placeO at e
  by_cases q : off < 0 ∨ n < 0 ∨ 1024 < n ∨ ((bytesO m o).length : Int) < off + n
  · rw [if_pos q] at e; cases e
  · simp only [not_or] at q; omega
theorem given_zero {ts : List Tk} {c : S_api_Cap} {need : Int} (e : (givenT ts c need).2 = 0) : ∃ t ∈ ts, t.xcap = c ∧ partOf need t.xrights = true ∧ findT ts c = some t := by
  cases q : findT ts c with
  | none => rw [givenT_none q] at e; cases e
  | some t =>
    rw [givenT_some q] at e
    by_cases z : partOf need t.xrights = true
    · unfold findT at q
      have hc := List.find?_some q
      exact ⟨t, List.mem_of_find?_eq_some q, of_decide_eq_true hc, z, rfl⟩
    · rw [if_neg z] at e; cases e
theorem named_zero {ts : List Tk} {need o : Int} : ∀ {l : List S_api_Cap} {a : Int}, a ≠ 0 → namedT ts need o l a = 0 → ∃ x ∈ l, x.Obj = o ∧ (givenT ts x need).2 = 0
  | [], a, ha, e => absurd e ha
  | x :: r, a, ha, e => by
    rw [namedT] at e
    by_cases q : x.Obj = o
    · rw [if_pos q] at e
      by_cases z : (givenT ts x need).2 = 0
      · exact ⟨x, List.mem_cons_self .., q, z⟩
      · rw [if_neg z] at e
        have hb : (if (givenT ts x need).2 = 4 then 4 else a) ≠ 0 := by
          split
          · decide
          · exact ha
        obtain ⟨x', h1, h2⟩ := named_zero hb e
        exact ⟨x', List.mem_cons_of_mem _ h1, h2⟩
    · rw [if_neg q] at e
      obtain ⟨x', h1, h2⟩ := named_zero ha e
      exact ⟨x', List.mem_cons_of_mem _ h1, h2⟩
theorem may_here (i : MSI m) {c : S_api_Call} {need : Int} {l : List S_api_Cap} (e : mayT m.ts c need l = 0) : c.Cap.Obj ∈ m.ob.map (·.1) := by
  unfold mayT at e
  split at e
  · obtain ⟨t, ht, hc, _⟩ := given_zero e
    rw [← hc]; exact i.tso t ht
  · obtain ⟨x, _, hx, e⟩ := named_zero (by decide) e
    obtain ⟨t, ht, hc, _⟩ := given_zero e
    rw [← hx, ← hc]; exact i.tso t ht
theorem aset_same {V : Type} {k : Int} {v : V} : ∀ {l : List (Int × V)}, alook l k = some v → aset l k v = l
  | [], e => by cases e
  | (a, w) :: r, e => by
    rw [alook_cons] at e
    rw [aset_cons]
    by_cases q : k = a
    · rw [if_pos q] at e ⊢; cases e; rw [q]
    · rw [if_neg q] at e ⊢; rw [aset_same e]
theorem t_pRead (x : PM h p F m) (i : MSI m) {c : S_api_Call} (hoff : inB c.Off (-2147483648) 2147483647) (hnn : inB c.N (-2147483648) 2147483647) {K : S_api_Reply → H → Prop}
    (y : ∀ s h', (readO m c).2 = m → (readO m c).1.cap = cap0 → Keeps h h' → Buf cU8 1 N_u8 h' s (readO m c).1.data → (∀ b, s.foot b → h b = none) → K ⟨(readO m c).1.code, cap0, s, 0⟩ h') : m_plain_Model_read (some ⟨p, 0, none⟩) c K h := by
  unfold m_plain_Model_read
  unfold readO at y
  have nf : ∀ {h : H} (b : Nat), Sl.nil.foot b → h b = none := fun _ ⟨_, q, _⟩ => (by cases q)
  refine t_pValidated x i.tsn' i.lsl' fun h1 k1 => ?_
  by_cases q1 : mayT m.ts c 1 (listO m c.By) = 0
  · simp only [if_pos q1] at y
    rw [q1]
    refine w_ifF rfl (t_pPlace (x.keep k1) (fun q hq => Nat.le_trans (i.obs q hq) (by decide)) hoff hnn ?_)
    by_cases q2 : placeO m c.Cap.Obj c.Off c.N = 0
    · simp only [if_pos q2] at y
      rw [q2]
      obtain ⟨g1, g2, g3, g4⟩ := place_ok q2
      obtain ⟨bo, bl, sd, st, so, sl, x⟩ := x.keep k1
      have bu := x.ob.get c.Cap.Obj
      have be : (alook m.ob c.Cap.Obj).getD [] = bytesO m c.Cap.Obj := rfl
      rw [be] at bu
      refine w_ifF rfl (w_deref (w_load x.f12 (w_lookup (keyP (by kernel_rfl)) x.mo ?_)))
      have obb := i.obs' c.Cap.Obj
      obtain ⟨off, eo⟩ : ∃ off : Nat, c.Off = off := ⟨c.Off.toNat, by omega⟩
      obtain ⟨n, en⟩ : ∃ n : Nat, c.N = n := ⟨c.N.toNat, by omega⟩
      rw [eo, en, Int.toNat_natCast, Int.toNat_natCast] at y
      rw [eo, en, ia off n (by omega)]
      refine w_mid u8_len bu.arr (lo := off) (hi := off + n) (by omega) (by omega) rfl rfl fun s1 ar1 _ _ _ => ?_
      rw [show off + n - off = n by omega] at ar1
      unfold m_slices_Clone_byte_byte
      exact w_clone (by_ := 1) (e := N_u8) (k := fun r8 => K ⟨0, cap0, r8, 0⟩) (zero := #[Value.int .u8 0]) u8_len u8_plain rfl ar1 (by rw [List.length_take]; omega) fun s2 h2 b2 k2 f2 => y s2 h2 (by first | rfl | trivial) (by first | rfl | trivial) (k1.trans k2) b2 fun c f => k1.fresh (f2 c f)
    · simp only [if_neg q2] at y
      exact w_ifT (by simpa using q2) (w_pure _ (fun _ _ z => z) (y Sl.nil h1 (by first | rfl | trivial) (by first | rfl | trivial) k1 Buf.nil nf))
  · simp only [if_neg q1] at y
    exact w_ifT (by simpa using q1) (w_pure _ (fun _ _ z => z) (y Sl.nil h1 (by first | rfl | trivial) (by first | rfl | trivial) k1 Buf.nil nf))
theorem t_pWrite (x : PM h p F m) (i : MSI m) {c : S_api_Call} {ds : List UInt8} (ar : Arr cU8 h c.Data ds) (hd : ds.length ≤ 2147483647) (hoff : inB c.Off (-2147483648) 2147483647) {K : S_api_Reply → H → Prop}
    (y : ∀ h', PM h' p F (writeO m c ds).2 → KChg F F h h' → K ⟨(writeO m c ds).1.code, cap0, Sl.nil, 0⟩ h') : m_plain_Model_write (some ⟨p, 0, none⟩) c K h := by
  unfold m_plain_Model_write
  unfold writeO at y
  refine t_pValidated x i.tsn' i.lsl' fun h1 k1 => ?_
  have dl := ar.len
  by_cases q1 : mayT m.ts c 2 (listO m c.By) = 0
  · simp only [if_pos q1] at y
    rw [q1]
    refine w_ifF rfl (t_pPlace (x.keep k1) (fun q hq => Nat.le_trans (i.obs q hq) (by decide)) hoff (by unfold inB; omega) ?_)
    rw [dl]
    by_cases q2 : placeO m c.Cap.Obj c.Off ds.length = 0
    · simp only [if_pos q2] at y
      rw [q2]
      obtain ⟨g1, g2, g3, g4⟩ := place_ok q2
      obtain ⟨bo, bl, sd, st, so, sl, x⟩ := x.keep k1
      refine w_ifF rfl (w_deref (w_load x.f12 (w_lookup (keyP (by kernel_rfl)) x.mo ?_)))
      have obb := i.obs' c.Cap.Obj
      obtain ⟨off, eo⟩ : ∃ off : Nat, c.Off = off := ⟨c.Off.toNat, by omega⟩
      rw [eo, Int.toNat_natCast] at y
      rw [eo]
      have hk := may_here i q1
      cases eb : alook m.ob c.Cap.Obj with
      | none => exact absurd hk (aidx_none eb)
      | some bs =>
      have ebs : bytesO m c.Cap.Obj = bs := by unfold bytesO; rw [eb]; rfl
      rw [ebs] at y g4 obb
      obtain ⟨s, es, bu⟩ := x.ob.look eb
      rw [es]
      refine w_over u8_len u8_plain bu (ar.keep k1) (by omega) fun h2 b2 bt2 d2 => ?_
      have r2 := x.ob.set (k := c.Cap.Obj) (F' := F) b2 (bt2.mono fun z g => ⟨s, es, g⟩) (fun z g => ⟨x.ob.foot _ _ es z g, .inr ⟨s, es, g⟩⟩) fun _ g => g
      rw [aset_same es] at r2
      have m2 := x.mo.but bt2 fun g => x.mo.untyped (bu.typed g) rfl
      have x2 := x.reO bt2 (fun z g => .inr (.inl (bu.typed g))) m2 r2 (fun _ g => g) fun z g q => x.has z g (d2 z q)
      exact y h2 ⟨_, _, _, _, _, _, x2⟩ ((KChg.of k1).trans ⟨bt2.mono fun z g => x.ob.foot _ _ es z g, fun _ g => .inl g, d2⟩)
    · simp only [if_neg q2] at y
      exact w_ifT (by simpa using q2) (w_pure _ (fun _ _ z => z) (y h1 (x.keep k1) (.of k1)))
  · simp only [if_neg q1] at y
    exact w_ifT (by simpa using q1) (w_pure _ (fun _ _ z => z) (y h1 (x.keep k1) (.of k1)))
end
section
variable {h h' : H} {p bo bl : Nat} {sd st : Sl} {so sl : List (Int × Sl)} {F F' G : Nat → Prop} {m m' : MdS}
theorem w_Fits {x : S_api_Word} (g : GoodW x) {w : Int} (hw : 1 ≤ w) {k : Bool → H → Prop} (y : k (decide (cutW w x = x)) h) : mPure (m_wide_Fits x w) k h := by
  refine w_pure _ (fun K0 h0 z => ?_) y
  unfold m_wide_Fits
  refine w_ifT (decide_eq_true hw) (w_WCut g ?_)
  have e : ((decide ((cutW w x).Hi = x.Hi)) && ((decide ((cutW w x).Lo = x.Lo)) && true)) = decide (cutW w x = x) := by
    have e1 := eqWd_iff (cutW w x) x
    unfold eqWd at e1
    by_cases q : cutW w x = x
    · rw [decide_eq_true q]; exact e1.2 q
    · rw [decide_eq_false q]
      cases z : ((decide ((cutW w x).Hi = x.Hi)) && ((decide ((cutW w x).Lo = x.Lo)) && true)) with
      | false => rfl
      | true => exact absurd (e1.1 z) q
  rw [e]; exact z
theorem PMA.setL (x : PMA h p bo bl sd st so sl F m) {k : Int} {s : Sl} {l : List S_api_Cap} (b : Buf cCp 3 N_api_Cap h' s l) (bt : But (fun c => ∃ s0, alook sl k = some s0 ∧ s0.foot c) h h') (d : ∀ c, h' c = none → h c = none) (nw : ∀ c, s.foot c → h c = none ∨ ∃ s0, alook sl k = some s0 ∧ s0.foot c) {key val : Value} (hk : key = .int .i64 k) (hv : val = Sl.val s) {t : TypeId} (hu : Try.prog.underlying t = some (.int .i64)) {kk : H → Prop}
    (y : ∀ h2 F2, PM h2 p F2 { m with ls := aset m.ls k l } → KChg F F2 h h2 → kk h2) : mMapSet (eqV Try.prog 40 t) (some bl) key val kk h' := by
  have nbl : ¬ ∃ s0, alook sl k = some s0 ∧ s0.foot bl := fun ⟨s0, e, g⟩ => x.ml.untyped (x.ls.typed e g) rfl
  refine w_mapSet (keyP hu) (x.ml.but bt nbl) hk hv fun h2 m2 b2 d2 => ?_
  have r1 : Rows cCp 3 N_api_Cap h' (fun c => F c ∨ s.foot c) (aset sl k s) (aset m.ls k l) := x.ls.set b bt (fun c g => ⟨.inr g, nw c g⟩) fun c g => .inl g
  have ml' := x.ml.but bt nbl
  have r2 := r1.but b2 fun i s q c g e => ml'.untyped (r1.typed q g) e
  have bb : But (fun c => c = bl ∨ ∃ s0, alook sl k = some s0 ∧ s0.foot c) h h2 := (bt.mono fun c g => Or.inr g).trans b2 fun n e => .inl (.inl e)
  have dd : ∀ c, h2 c = none → h c = none := fun c z => d c (d2 c z)
  have x2 := x.reL bb (fun c g => g.imp id fun ⟨s0, e, g⟩ => .inl (x.ls.typed e g)) m2 r2 (fun c g => .inl g) fun c g => g.elim (fun g z => x.has c g (dd c z)) fun g z => b.has g (d2 c z)
  refine y h2 _ ⟨_, _, _, _, _, _, x2⟩ ⟨bb.mono fun c g => g.elim (fun e => by rw [e]; exact x.fp.2.2) fun ⟨s0, e, g⟩ => x.ls.foot _ _ e c g, fun c g => g.elim .inl fun g => (nw c g).elim .inr fun ⟨s0, e, g⟩ => .inl (x.ls.foot _ _ e c g), dd⟩
theorem t_pAdd (x : PM h p F m) (i : MSI m) {c : S_api_Call} (gw : GoodW c.Cap.Pass) {K : S_api_Reply → H → Prop} (y : ∀ h' F', PM h' p F' (addO m c).2 → KChg F F' h h' → K ⟨(addO m c).1.code, cap0, Sl.nil, 0⟩ h') : m_plain_Model_add (some ⟨p, 0, none⟩) c K h := by
  unfold m_plain_Model_add
  unfold addO at y
  have x0 := x
  obtain ⟨bo, bl, sd, st, so, sl, x⟩ := x
  have kr : KChg F F h h := .of (.refl h)
  have bu := x.ls.get c.By
  have be : (alook m.ls c.By).getD [] = listO m c.By := rfl
  rw [be] at bu
  have hlen := bu.len
  have l32 := i.list' c.By
  refine w_deref (w_load x.f15 (w_lookup (keyP (by kernel_rfl)) x.ml (w_deref (w_load x.fWid (w_Fits gw i.cfg.1.1 ?_)))))
  by_cases q1 : cutW m.c.Width c.Cap.Pass = c.Cap.Pass
  · simp only [if_pos q1] at y
    refine w_ifF (by rw [decide_eq_true q1]; rfl) (w_deref (w_load x.fLis (w_if' (fun q2 => ?_) fun q2 => ?_)))
    · have q2 : m.c.List ≤ ((((alook sl c.By).getD Sl.nil).len : Nat) : Int) := q2
      rw [hlen] at q2
      simp only [if_pos q2] at y
      exact w_pure _ (fun _ _ z => z) (y h F x0 kr)
    · have q2 : ¬ m.c.List ≤ ((((alook sl c.By).getD Sl.nil).len : Nat) : Int) := q2
      rw [hlen] at q2
      simp only [if_neg q2] at y
      have ap : ∀ {k : Sl → H → Prop}, (∀ s' h', Buf cCp 3 N_api_Cap h' s' (listO m c.By ++ [c.Cap]) → But (fun z => ∃ s0, alook sl c.By = some s0 ∧ s0.foot z) h h' → (∀ z, h' z = none → h z = none) → (∀ z, s'.foot z → h z = none ∨ ∃ s0, alook sl c.By = some s0 ∧ s0.foot z) → k s' h') → mApp 39 3 24 #[(Value.int .i64 0), (Value.int .u64 0), (Value.int .u64 0)] 1 [(Value.int .i64 c.Cap.Obj), (Value.int .u64 c.Cap.Pass.Hi), (Value.int .u64 c.Cap.Pass.Lo)] ((alook sl c.By).getD Sl.nil) k h := fun {k} z => by
        have fs : ∀ z, ((alook sl c.By).getD Sl.nil).foot z → ∃ s0, alook sl c.By = some s0 ∧ s0.foot z := fun z g => by
          cases q : alook sl c.By with
          | none => rw [q] at g; obtain ⟨_, q', _⟩ := g; cases q'
          | some s0 => rw [q] at g; exact ⟨s0, rfl, g⟩
        exact w_app cap_len rfl bu [c.Cap] rfl rfl (.inl (by show (2 * (_ + 1) + 192) * 24 ≤ 2 ^ 48; omega)) fun s' h' b' bt f' d' => z s' h' b' (bt.mono fs) d' fun v g => (f' v g).elim (fun g => .inr (fs v g)) .inl
      refine w_deref (w_joinP (fun (z : Option Nat × Sl) hh => z.1 = some bl ∧ Buf cCp 3 N_api_Cap hh z.2 (listO m c.By ++ [c.Cap]) ∧ But (fun z => ∃ s0, alook sl c.By = some s0 ∧ s0.foot z) h hh ∧ (∀ z, hh z = none → h z = none) ∧ ∀ v, z.2.foot v → h v = none ∨ ∃ s0, alook sl c.By = some s0 ∧ s0.foot v) (fun j hj => w_both (w_load x.f15 (ap fun s' h' b' bt d' f' => hj _ _ ⟨rfl, b', bt, d', f'⟩)) (ap fun s' h' b' bt d' f' => w_load ?_ (hj _ _ ⟨rfl, b', bt, d', f'⟩))) ?_)
      · exact x.f15.but bt fun ⟨s0, e, g⟩ => (x.ls.typed e g).ne x.tagP (by decide) rfl
      · rintro ⟨_, s'⟩ h1 ⟨rfl, b', bt, d', f'⟩
        exact x.setL b' bt d' f' rfl rfl (by kernel_rfl) fun h2 F2 x2 k2 => y h2 F2 x2 k2
  · simp only [if_neg q1] at y
    exact w_ifT (by rw [decide_eq_false q1]; rfl) (w_pure _ (fun _ _ z => z) (y h F x0 kr))
theorem t_pRemove (x : PM h p F m) (i : MSI m) {c : S_api_Call} (hi : inB c.Index 0 65535) {K : S_api_Reply → H → Prop} (y : ∀ h' F', PM h' p F' (removeO m c).2 → KChg F F' h h' → K ⟨(removeO m c).1.code, cap0, Sl.nil, 0⟩ h') : m_plain_Model_remove (some ⟨p, 0, none⟩) c K h := by
  unfold m_plain_Model_remove
  unfold removeO at y
  have x0 := x
  obtain ⟨bo, bl, sd, st, so, sl, x⟩ := x
  have kr : KChg F F h h := .of (.refl h)
  have bu := x.ls.get c.By
  have be : (alook m.ls c.By).getD [] = listO m c.By := rfl
  rw [be] at bu
  have hlen := bu.len
  have l32 := i.list' c.By
  unfold inB at hi
  refine w_deref (w_load x.f15 (w_lookup (keyP (by kernel_rfl)) x.ml (w_if' (fun q => ?_) fun q => ?_)))
  · have q : ((((alook sl c.By).getD Sl.nil).len : Nat) : Int) ≤ c.Index := q
    rw [hlen] at q
    simp only [if_pos q] at y
    exact w_pure _ (fun _ _ z => z) (y h F x0 kr)
  · have q : ¬ ((((alook sl c.By).getD Sl.nil).len : Nat) : Int) ≤ c.Index := q
    rw [hlen] at q
    simp only [if_neg q] at y
    obtain ⟨n, en⟩ : ∃ n : Nat, c.Index = n := ⟨c.Index.toNat, by omega⟩
    rw [en, Int.toNat_natCast] at y
    rw [en]
    have fs : ∀ z, ((alook sl c.By).getD Sl.nil).foot z → ∃ s0, alook sl c.By = some s0 ∧ s0.foot z := fun z g => by
      cases q : alook sl c.By with
      | none => rw [q] at g; obtain ⟨_, q', _⟩ := g; cases q'
      | some s0 => rw [q] at g; exact ⟨s0, rfl, g⟩
    have dl : ∀ {k : Sl → H → Prop}, (∀ s' h', Buf cCp 3 N_api_Cap h' s' ((listO m c.By).eraseIdx n) → But (fun z => ∃ s0, alook sl c.By = some s0 ∧ s0.foot z) h h' → (∀ z, h' z = none → h z = none) → (∀ z, s'.foot z → h z = none ∨ ∃ s0, alook sl c.By = some s0 ∧ s0.foot z) → k s' h') → m_slices_Delete_api_Cap_api_Cap ((alook sl c.By).getD Sl.nil) (n : Int) (iAdd .i64 (n : Int) 1) k h := fun {k} z => by
      unfold m_slices_Delete_api_Cap_api_Cap
      exact w_delete (by_ := 24) (e := N_api_Cap) cap_len cap_plain (⟨0, ⟨0, 0⟩⟩ : S_api_Cap) rfl bu (i := n) (by omega) (by omega) rfl (ia1 n (by omega)) fun s' h' b' f' bt d' => z s' h' b' (bt.mono fs) d' fun v g => .inr (fs v (f' v g))
    refine w_deref (w_joinP (fun (z : Option Nat × Sl) hh => z.1 = some bl ∧ Buf cCp 3 N_api_Cap hh z.2 ((listO m c.By).eraseIdx n) ∧ But (fun z => ∃ s0, alook sl c.By = some s0 ∧ s0.foot z) h hh ∧ (∀ z, hh z = none → h z = none) ∧ ∀ v, z.2.foot v → h v = none ∨ ∃ s0, alook sl c.By = some s0 ∧ s0.foot v) (fun j hj => w_both (w_load x.f15 (dl fun s' h' b' bt d' f' => hj _ _ ⟨rfl, b', bt, d', f'⟩)) (dl fun s' h' b' bt d' f' => w_load ?_ (hj _ _ ⟨rfl, b', bt, d', f'⟩))) ?_)
    · exact x.f15.but bt fun ⟨s0, e, g⟩ => (x.ls.typed e g).ne x.tagP (by decide) rfl
    · rintro ⟨_, s'⟩ h1 ⟨rfl, b', bt, d', f'⟩
      exact x.setL b' bt d' f' rfl rfl (by kernel_rfl) fun h2 F2 x2 k2 => y h2 F2 x2 k2
end
section
variable {h h' : H} {p bo bl : Nat} {sd st : Sl} {so sl : List (Int × Sl)} {F F' G : Nat → Prop} {m m' : MdS}
theorem Rows.give {T : Type} {cells : T → List Value} {sz : Nat} {e : TypeId} {ob : List (Int × List T)} (x : Rows cells sz e h F so ob) {k : Int} {s : Sl} {xs : List T} (b : Buf cells sz e h s xs) (nw : ∀ c, s.foot c → ¬ F c) : Rows cells sz e h (fun c => F c ∨ s.foot c) (aset so k s) (aset ob k xs) := by
  refine ⟨by rw [aset_map, aset_map, x.keys], x.once.set k xs, fun i t ys q1 q2 => ?_, fun i j t t' ne q1 q2 => ?_, fun i t q1 => ?_⟩
  · rw [alook_set] at q1 q2
    by_cases c : i = k
    · rw [if_pos c] at q1 q2; cases q1; cases q2; exact b
    · rw [if_neg c] at q1 q2
      exact x.buf i t ys q1 q2
  · rw [alook_set] at q1 q2
    by_cases c : i = k
    · by_cases c' : j = k
      · exact absurd (c.trans c'.symm) ne
      · rw [if_pos c] at q1; rw [if_neg c'] at q2; cases q1
        exact fun z g g' => nw z g (x.foot j t' q2 z g')
    · rw [if_neg c] at q1
      by_cases c' : j = k
      · rw [if_pos c'] at q2; cases q2
        exact fun z g g' => nw z g' (x.foot i t q1 z g)
      · rw [if_neg c'] at q2
        exact x.apart i j t t' ne q1 q2
  · rw [alook_set] at q1
    by_cases c : i = k
    · rw [if_pos c] at q1; cases q1; exact fun z g => .inr g
    · rw [if_neg c] at q1; exact fun z g => .inl (x.foot i t q1 z g)
theorem PMA.giveL (x : PMA h p bo bl sd st so sl F m) {k : Int} {s : Sl} {l : List S_api_Cap} (b : Buf cCp 3 N_api_Cap h s l) (nw : ∀ c, s.foot c → ¬ F c) {key val : Value} (hk : key = .int .i64 k) (hv : val = Sl.val s) {t : TypeId} (hu : Try.prog.underlying t = some (.int .i64)) {kk : H → Prop}
    (y : ∀ h2, PM h2 p (fun c => F c ∨ s.foot c) { m with ls := aset m.ls k l } → But (· = bl) h h2 → (∀ c, h2 c = none → h c = none) → kk h2) : mMapSet (eqV Try.prog 40 t) (some bl) key val kk h := by
  refine w_mapSet (keyP hu) x.ml hk hv fun h2 m2 b2 d2 => ?_
  have r1 := x.ls.give (k := k) b nw
  have r2 := r1.but b2 fun i s q c g e => x.ml.untyped (r1.typed q g) e
  exact y h2 ⟨_, _, _, _, _, _, x.reL b2 (fun c g => .inl g) m2 r2 (fun c g => .inl g) fun c g => g.elim (fun g z => x.has c g (d2 c z)) fun g z => b.has g (d2 c z)⟩ b2 d2
theorem gifts_none {l : List S_api_Cap} {g : Int} {r : List Int} (e : l[g.toNat]? = none) : giftsO l (g :: r) = none := by rw [giftsO, e]
theorem gifts_some {l : List S_api_Cap} {g : Int} {r : List Int} {c : S_api_Cap} (e : l[g.toNat]? = some c) : giftsO l (g :: r) = (giftsO l r).map (c :: ·) := by rw [giftsO, e]
theorem t_pSpawn (x : PM h p F m) (i : MSI m) {c : S_api_Call} {gs : List Int} (ar : Arr (cInt .i64) h c.Gifts gs) (hg : gs.length ≤ 255) (hgs : ∀ g ∈ gs, inB g 0 65535) {K : S_api_Reply → H → Prop}
    (y : ∀ h' F', PM h' p F' (spawnO m c gs).2 → KChg F F' h h' → K ⟨(spawnO m c gs).1.code, cap0, Sl.nil, (spawnO m c gs).1.num⟩ h') : m_plain_Model_spawn (some ⟨p, 0, none⟩) c K h := by
  unfold m_plain_Model_spawn
  have x0 := x
  obtain ⟨bo, bl, sd, st, so, sl, x⟩ := x
  have bu := x.ls.get c.By
  have be : (alook m.ls c.By).getD [] = listO m c.By := rfl
  rw [be] at bu
  have hlen := bu.len
  have l32 := i.list' c.By
  have al := ar.len
  have sll : sl.length = m.ls.length := by
    have := congrArg List.length x.ls.keys
    rwa [List.length_map, List.length_map] at this
  have ln := i.lsn
  have inp := i.np
  refine w_for gs.length (fun n (z : Sl × Int) hh => ∃ (sg : Sl) (acc : List S_api_Cap), z = (sg, (n : Int)) ∧ acc.length = n ∧ Buf cCp 3 N_api_Cap hh sg acc ∧ (∀ v, sg.foot v → h v = none) ∧ Keeps h hh ∧ giftsO (listO m c.By) gs = (giftsO (listO m c.By) (gs.drop n)).map (acc ++ ·)) ?_
    ⟨Sl.nil, [], rfl, rfl, Buf.nil, fun _ ⟨_, q, _⟩ => (by cases q), .refl _, by rw [List.drop_zero]; cases giftsO (listO m c.By) gs <;> rfl⟩
  rintro rec n _ hh hn ⟨sg, acc, rfl, ea, ba, fa, kh, eg⟩ more
  have xh := x.keep kh
  have xh' : PM hh p F m := ⟨_, _, _, _, _, _, xh⟩
  refine w_if' (fun q => ?_) fun q => ?_
  · have q : (n : Int) < (c.Gifts.len : Int) := q
    have hnl : n < gs.length := by omega
    have ht := List.getElem?_eq_getElem hnl
    have hd : gs.drop n = gs[n] :: gs.drop (n + 1) := List.drop_eq_getElem_cons hnl
    have hb := hgs _ (List.getElem_mem hnl)
    generalize gs[n] = g at ht hd hb
    unfold inB at hb
    rw [hd] at eg
    refine w_get ci_len (ar.keep kh) ht rfl (v' := g) rfl (w_deref (w_load xh.f15 (w_lookup (keyP (by kernel_rfl)) xh.ml (w_if' (fun q1 => ?_) fun q1 => ?_))))
    · have q1 : ((((alook sl c.By).getD Sl.nil).len : Nat) : Int) ≤ g := q1
      rw [gifts_none (List.getElem?_eq_none (by omega)), Option.map_none] at eg
      unfold spawnO at y
      rw [eg] at y
      exact w_pure _ (fun _ _ z => z) (y hh F xh' (.of kh))
    · have q1 : ¬ ((((alook sl c.By).getD Sl.nil).len : Nat) : Int) ≤ g := q1
      obtain ⟨gn, egn⟩ : ∃ gn : Nat, g = gn := ⟨g.toNat, by omega⟩
      subst egn
      have hgl : gn < (listO m c.By).length := by omega
      have hv := List.getElem?_eq_getElem hgl
      generalize (listO m c.By)[gn] = v at hv
      rw [gifts_some (c := v) (by rw [Int.toNat_natCast]; exact hv)] at eg
      refine w_deref (w_load xh.f15 (w_lookup (keyP (by kernel_rfl)) xh.ml (w_get cap_len (bu.keep kh).arr hv rfl rfl ?_)))
      refine w_app cap_len rfl ba [v] rfl rfl (.inl (by show (2 * (_ + 1) + 192) * 24 ≤ 2 ^ 48; omega)) fun s2 h2 b2 bt f2 d2 => ?_
      refine more _ _ hnl ⟨s2, acc ++ [v], by rw [ia1 n (by omega)], by rw [List.length_append, ea]; rfl, b2, fun w g => (f2 w g).elim (fa w) fun z => kh.fresh z, kh.but bt fun w g => fa w g, ?_⟩
      rw [eg]
      cases giftsO (listO m c.By) (gs.drop (n + 1)) <;> simp
  · have q : ¬ (n : Int) < (c.Gifts.len : Int) := q
    have en : n = gs.length := by omega
    rw [List.drop_of_length_le (by omega)] at eg
    have eg : giftsO (listO m c.By) gs = some acc := by rw [eg]; simp [giftsO]
    unfold spawnO at y
    rw [eg] at y
    have bl2 := ba.len
    refine w_deref (w_load xh.fLis (w_if' (fun q1 => ?_) fun q1 => ?_))
    · have q1 : m.c.List < (sg.len : Int) := q1
      rw [bl2] at q1
      simp only [if_pos q1] at y
      exact w_pure _ (fun _ _ z => z) (y hh F xh' (.of kh))
    have q1 : ¬ m.c.List < (sg.len : Int) := q1
    rw [bl2] at q1
    simp only [if_neg q1] at y
    refine w_deref (w_deref (w_load xh.f15 (w_mapLen xh.ml (by omega) (w_load xh.fPro (w_joinV (decide (m.c.Procs ≤ (m.ls.length : Int) ∨ 65535 < m.np)) (fun j hj => ?_) ?_)))))
    · rw [sll]
      refine w_if' (fun q2 => ?_) fun q2 => ?_
      · have q2 : m.c.Procs ≤ (m.ls.length : Int) := q2
        rw [decide_eq_true (.inl q2)] at hj; exact hj
      · have q2 : ¬ m.c.Procs ≤ (m.ls.length : Int) := q2
        refine w_deref (w_load xh.f17 ?_)
        have e1 : decide (m.c.Procs ≤ (m.ls.length : Int) ∨ 65535 < m.np) = decide (65535 < m.np) := decide_eq_decide.2 ⟨fun z => z.elim (fun z => absurd z q2) id, .inr⟩
        rw [e1] at hj; exact hj
    by_cases q2 : m.c.Procs ≤ (m.ls.length : Int) ∨ 65535 < m.np
    · simp only [if_pos q2] at y
      exact w_ifT (decide_eq_true q2) (w_pure _ (fun _ _ z => z) (y hh F xh' (.of kh)))
    simp only [if_neg q2] at y
    have q2' : ¬ 65535 < m.np := fun z => q2 (.inr z)
    refine w_ifF (decide_eq_false q2) (w_deref (w_load xh.f17 (w_deref (w_load xh.f17 (w_deref ?_)))))
    rw [show iAdd .i64 m.np 1 = m.np + 1 from iAdd_eq (by omega) (by omega)]
    refine xh.put (m' := { m with np := m.np + 1 }) (st' := st) (l1 := xh.cs.take 17) (l2 := cInt .i64 m.np) (l3 := []) (new := [.int .i64 (m.np + 1)]) rfl rfl rfl rfl fun h4 c4 b4 d4 => ?_
    have x4 := xh.atP b4 d4 c4 rfl rfl rfl rfl
    have k4 : KChg F F hh h4 := ⟨b4.mono fun c e => by rw [e]; exact x.fp.1, fun c g => .inl g, d4⟩
    have ba4 : Buf cCp 3 N_api_Cap h4 sg acc := ba.but b4 fun ad hd e => (ba.typed ⟨ad, hd, rfl⟩).ne xh.tagP (by decide) e
    have nk : m.np ∉ m.ls.map (·.1) := fun z => by
      obtain ⟨q, hq, e⟩ := List.mem_map.1 z
      have := (i.lsk q hq).2
      omega
    have e6 : aset m.ls m.np acc = m.ls ++ [(m.np, acc)] := aset_new nk
    refine w_deref (w_load x4.f15 ?_)
    refine x4.giveL ba4 (fun w g z => x.has w z (fa w g)) rfl rfl (by kernel_rfl) fun h5 x5 b5 d5 => ?_
    have x5 : PM h5 p (fun c => F c ∨ sg.foot c) { m with np := m.np + 1, ls := aset m.ls m.np acc } := x5
    rw [e6] at x5
    exact y h5 _ x5 ⟨((But.of kh).trans b4 fun w e => by rw [e]; exact .inl x.fp.1).trans b5 fun w e => by rw [e]; exact .inl x.fp.2.2, fun w g => g.elim .inl fun g => .inr (fa w g), fun w z => kh.fresh (d4 w (d5 w z))⟩
end
section
variable {h h' : H}
def usedO (c : S_api_Call) : S_api_Call :=
  if c.Op = 1 then ⟨c.Op, c.By, c.Size, cap0, false, 0, 0, 0, Sl.nil, 0, Sl.nil⟩ else
  if c.Op = 2 ∨ c.Op = 4 ∨ c.Op = 7 then ⟨c.Op, c.By, 0, c.Cap, false, 0, 0, 0, Sl.nil, 0, Sl.nil⟩ else
  if c.Op = 3 then ⟨c.Op, c.By, 0, c.Cap, false, c.Rights, 0, 0, Sl.nil, 0, Sl.nil⟩ else
  if c.Op = 5 then ⟨c.Op, c.By, 0, c.Cap, c.Given, 0, c.Off, c.N, Sl.nil, 0, Sl.nil⟩ else
  if c.Op = 6 then ⟨c.Op, c.By, 0, c.Cap, c.Given, 0, c.Off, 0, c.Data, 0, Sl.nil⟩ else
  if c.Op = 8 then ⟨c.Op, c.By, 0, cap0, false, 0, 0, 0, Sl.nil, c.Index, Sl.nil⟩ else
  if c.Op = 9 then ⟨c.Op, c.By, 0, cap0, false, 0, 0, 0, Sl.nil, 0, c.Gifts⟩ else ⟨c.Op, c.By, 0, cap0, false, 0, 0, 0, Sl.nil, 0, Sl.nil⟩
def rowCl (u : S_api_Call) : Int × Int × Int × Int × Int × Int × Bool × Int × Int × Int × Sl × Int × Sl := (u.Op, u.By, u.Size, u.Cap.Obj, u.Cap.Pass.Hi, u.Cap.Pass.Lo, u.Given, u.Rights, u.Off, u.N, u.Data, u.Index, u.Gifts)
theorem t_used {c : S_api_Call} {K : S_api_Call → H → Prop} (y : K (usedO c) h) : m_plain_used c K h := by
  unfold m_plain_used
  refine w_joinV (rowCl (usedO c)) (fun j hj => ?_) y
  unfold usedO at hj
  refine w_if' (fun q => ?_) fun q => ?_
  · rw [if_pos q] at hj; exact hj
  rw [if_neg q] at hj
  refine w_joinV (decide (c.Op = 2 ∨ c.Op = 4 ∨ c.Op = 7)) (fun j2 hj2 => ?_) ?_
  · refine w_if' (fun q1 => ?_) fun q1 => w_if' (fun q2 => ?_) fun q2 => ?_
    · rw [decide_eq_true (.inl q1)] at hj2; rw [decide_eq_true q1]; exact hj2
    · rw [decide_eq_true (.inr (.inl q2))] at hj2; rw [decide_eq_true q2]; exact hj2
    · have e : decide (c.Op = 2 ∨ c.Op = 4 ∨ c.Op = 7) = decide (c.Op = 7) := decide_eq_decide.2 ⟨fun z => z.elim (fun z => absurd z q1) fun z => z.elim (fun z => absurd z q2) id, fun z => .inr (.inr z)⟩
      rw [e] at hj2; exact hj2
  refine w_if' (fun q1 => ?_) fun q1 => ?_
  · rw [if_pos q1] at hj; exact hj
  rw [if_neg q1] at hj
  refine w_if' (fun q2 => ?_) fun q2 => ?_
  · rw [if_pos q2] at hj
    exact w_joinV (c.Rights, c.Op, c.By, 0, c.Cap.Obj, c.Cap.Pass.Hi, c.Cap.Pass.Lo, false, 0, 0, 0, Sl.nil, 0, Sl.nil) (fun j3 hj3 => by repeat' first | exact hj3 | refine w_both ?_ ?_) hj
  rw [if_neg q2] at hj
  refine w_if' (fun q3 => ?_) fun q3 => ?_
  · rw [if_pos q3] at hj
    exact w_joinV (c.N, c.Op, c.By, 0, c.Cap.Obj, c.Cap.Pass.Hi, c.Cap.Pass.Lo, c.Given, 0, c.Off, 0, Sl.nil, 0, Sl.nil) (fun j3 hj3 => by repeat' first | exact hj3 | refine w_both ?_ ?_) hj
  rw [if_neg q3] at hj
  refine w_if' (fun q4 => ?_) fun q4 => ?_
  · rw [if_pos q4] at hj
    exact w_joinV (c.Data, c.Op, c.By, 0, c.Cap.Obj, c.Cap.Pass.Hi, c.Cap.Pass.Lo, c.Given, 0, c.Off, 0, Sl.nil, 0, Sl.nil) (fun j3 hj3 => by repeat' first | exact hj3 | refine w_both ?_ ?_) hj
  rw [if_neg q4] at hj
  refine w_if' (fun q5 => ?_) fun q5 => ?_
  · rw [if_pos q5] at hj; exact hj
  rw [if_neg q5] at hj
  refine w_if' (fun q6 => ?_) fun q6 => ?_
  · rw [if_pos q6] at hj; exact hj
  rw [if_neg q6] at hj; exact hj
theorem w_andJ {a b : Bool} {j : Bool → H → Prop} {X : H → Prop} (hX : j b h → X h) (hj : j (a && b) h) : mIf a X (j false) h := by
  cases a with
  | false => exact w_ifF rfl hj
  | true => exact w_ifT rfl (hX hj)
theorem w_within {a lo hi : Int} {k : Bool → H → Prop} (y : k (decide (inB a lo hi)) h) : mPure (m_plain_within a lo hi) k h := by
  refine w_pure _ (fun _ _ z => z) ?_
  have e : ((decide (lo ≤ a)) && (decide (a ≤ hi))) = decide (inB a lo hi) := (Bool.decide_and _ _).symm
  rw [e]; exact y
theorem w_short {a : Int} {k : Bool → H → Prop} (y : k (decide (inB a (-2147483648) 2147483647)) h) : mCallV (T := Bool) Try.prog (fun r => (Value.bool r)) (Value.func (Fn.func 172) #[] #[]) [(Value.int .i64 a)] k h := by
  refine callV_of s_plain_formed_1 (first := #[]) (cap := #[]) (args := [.int .i64 a]) a rfl ?_
  show m_plain_formed_1 a k h
  unfold m_plain_formed_1
  exact w_within y
theorem w_odd {a : Int} {k : Bool → H → Prop} (y : k (!decide (inB a 0 65535)) h) : mCallV (T := Bool) Try.prog (fun r => (Value.bool r)) (Value.func (Fn.func 173) #[] #[]) [(Value.int .i64 a)] k h := by
  refine callV_of s_plain_formed_2 (first := #[]) (cap := #[]) (args := [.int .i64 a]) a rfl ?_
  show m_plain_formed_2 a k h
  unfold m_plain_formed_2
  exact w_within y
theorem t_anyOdd {s : Sl} {gs : List Int} (x : Arr (cInt .i64) h s gs) (hn : gs.length ≤ 2 ^ 40) {K : Bool → H → Prop} (y : K (!decide (∀ g ∈ gs, inB g 0 65535)) h) : m_slices_ContainsFunc_int_int s (⟨Value.func (Fn.func 173) #[] #[], rfl, rfl⟩ : PV) K h := by
  unfold m_slices_ContainsFunc_int_int m_slices_IndexFunc_int_int
  have hl := x.len
  refine w_for gs.length (fun i (z : Int) h' => z = (i : Int) ∧ h' = h ∧ ∀ g ∈ gs.take i, inB g 0 65535) ?_ ⟨rfl, rfl, by simp⟩
  rintro rec i _ _ hi ⟨rfl, rfl, hz⟩ more
  refine w_if' (fun c => ?_) fun c => ?_
  · have c : (i : Int) < (s.len : Int) := c
    have hil : i < gs.length := by omega
    have ht := List.getElem?_eq_getElem hil
    generalize gs[i] = t at ht
    refine w_get ci_len x ht rfl (v' := t) rfl (w_odd (w_if (fun q => ?_) fun q => ?_))
    · have q : ¬ inB t 0 65535 := by simpa using q
      rw [decide_eq_false (fun z => q (z t (List.mem_of_getElem? ht)))] at y
      show K (decide ((0 : Int) ≤ (i : Int))) _
      rw [decide_eq_true (by omega)]; exact y
    · have q : inB t 0 65535 := by simpa using q
      refine more _ _ hil ⟨ia1 i (by omega), rfl, fun g hg => ?_⟩
      rw [List.take_add_one, ht, List.mem_append] at hg
      rcases hg with z | z
      · exact hz g z
      · have : g = t := by simpa using z
        rw [this]; exact q
  · have c : ¬ (i : Int) < (s.len : Int) := c
    rw [List.take_of_length_le (by omega)] at hz
    rw [decide_eq_true hz] at y
    exact y
def sameB (u c : S_api_Call) : Bool := (((((((((decide (u.Size = c.Size)) && ((decide (u.Cap.Obj = c.Cap.Obj)) && (((decide (u.Cap.Pass.Hi = c.Cap.Pass.Hi)) && ((decide (u.Cap.Pass.Lo = c.Cap.Pass.Lo)) && true)) && true))) && (u.Given == c.Given)) && (decide (u.Rights = c.Rights))) && (decide (u.Off = c.Off))) && (decide (u.N = c.N))) && (decide ((u.Data.len : Int) = (c.Data.len : Int)))) && (decide (u.Index = c.Index))) && (decide ((u.Gifts.len : Int) = (c.Gifts.len : Int))))
def rangeB (c : S_api_Call) : Bool := sameB (usedO c) c && decide (inB c.Op 1 10) && !(!decide (inB c.By 0 65535)) && !(!decide (inB c.Index 0 65535)) && decide (inB c.Size (-2147483648) 2147483647) && decide (inB c.Off (-2147483648) 2147483647) && decide (inB c.N (-2147483648) 2147483647) && decide (inB c.Cap.Obj 0 4611686018427387904) && decide (inB c.Rights 0 255)
def namedB (c : S_api_Call) : Bool := (!((((decide (c.Op = 5)) || (decide (c.Op = 6))) && (!c.Given)) && (!((decide (c.Cap.Pass.Hi = 0)) && ((decide (c.Cap.Pass.Lo = 0)) && true)))))
theorem t_formedB {c : S_api_Call} {gs : List Int} (ar : Arr (cInt .i64) h c.Gifts gs) {K : Bool → H → Prop} (y : K (((rangeB c && (decide ((c.Data.len : Int) ≤ 1025))) && (decide ((c.Gifts.len : Int) ≤ 255))) && ((!(!decide (∀ g ∈ gs, inB g 0 65535))) && namedB c)) h) : m_plain_formed c K h := by
  unfold m_plain_formed
  have al := ar.len
  refine w_pure _ (fun _ _ z => t_used z) (w_joinV (sameB (usedO c) c && decide (inB c.Op 1 10)) (fun j hj => w_andJ (fun z => w_within z) hj) ?_)
  refine w_joinV (sameB (usedO c) c && decide (inB c.Op 1 10) && !(!decide (inB c.By 0 65535))) (fun j hj => w_andJ (fun z => w_odd z) hj) ?_
  refine w_joinV (sameB (usedO c) c && decide (inB c.Op 1 10) && !(!decide (inB c.By 0 65535)) && !(!decide (inB c.Index 0 65535))) (fun j hj => w_andJ (fun z => w_odd z) hj) ?_
  refine w_joinV (sameB (usedO c) c && decide (inB c.Op 1 10) && !(!decide (inB c.By 0 65535)) && !(!decide (inB c.Index 0 65535)) && decide (inB c.Size (-2147483648) 2147483647)) (fun j hj => w_andJ (fun z => w_short z) hj) ?_
  refine w_joinV (sameB (usedO c) c && decide (inB c.Op 1 10) && !(!decide (inB c.By 0 65535)) && !(!decide (inB c.Index 0 65535)) && decide (inB c.Size (-2147483648) 2147483647) && decide (inB c.Off (-2147483648) 2147483647)) (fun j hj => w_andJ (fun z => w_short z) hj) ?_
  refine w_joinV (sameB (usedO c) c && decide (inB c.Op 1 10) && !(!decide (inB c.By 0 65535)) && !(!decide (inB c.Index 0 65535)) && decide (inB c.Size (-2147483648) 2147483647) && decide (inB c.Off (-2147483648) 2147483647) && decide (inB c.N (-2147483648) 2147483647)) (fun j hj => w_andJ (fun z => w_short z) hj) ?_
  refine w_joinV (sameB (usedO c) c && decide (inB c.Op 1 10) && !(!decide (inB c.By 0 65535)) && !(!decide (inB c.Index 0 65535)) && decide (inB c.Size (-2147483648) 2147483647) && decide (inB c.Off (-2147483648) 2147483647) && decide (inB c.N (-2147483648) 2147483647) && decide (inB c.Cap.Obj 0 4611686018427387904)) (fun j hj => w_andJ (fun z => w_within z) hj) ?_
  refine w_joinV (rangeB c) (fun j hj => w_andJ (fun z => w_within z) hj) ?_
  refine w_if (fun q => ?_) fun q => ?_
  · rw [q, Bool.true_and] at y
    have hg : (c.Gifts.len : Int) ≤ 255 := by
      rw [Bool.and_eq_true] at q
      exact of_decide_eq_true q.2
    exact t_anyOdd ar (by omega) y
  · rw [q, Bool.false_and] at y; exact y
end
section
variable {h h' : H}
theorem same_iff {c : S_api_Call} {ds : List UInt8} {gs : List Int} (hd : c.Data.len = ds.length) (hg : c.Gifts.len = gs.length) (ho : inB c.Op 1 10) : sameB (usedO c) c = true ↔ ((c.Op ≠ 1 → c.Size = 0) ∧ ((c.Op = 1 ∨ 8 ≤ c.Op) → c.Cap = cap0) ∧ ((c.Op ≠ 5 ∧ c.Op ≠ 6) → c.Given = false ∧ c.Off = 0) ∧ (c.Op ≠ 3 → c.Rights = 0) ∧ (c.Op ≠ 5 → c.N = 0) ∧ (c.Op ≠ 6 → ds = []) ∧ (c.Op ≠ 8 → c.Index = 0) ∧ (c.Op ≠ 9 → gs = [])) := by
  obtain ⟨op, b, size, ⟨obj, ⟨hi, lo⟩⟩, given, rights, off, n, data, index, gifts⟩ := c
  have e1 : ds = [] ↔ data.len = 0 := by rw [show data.len = ds.length from hd, List.length_eq_zero_iff]
  have e2 : gs = [] ↔ gifts.len = 0 := by rw [show gifts.len = gs.length from hg, List.length_eq_zero_iff]
  rw [e1, e2]
  unfold inB at ho
  have ho : 1 ≤ op ∧ op ≤ 10 := ho
  have hc : op = 1 ∨ op = 2 ∨ op = 3 ∨ op = 4 ∨ op = 5 ∨ op = 6 ∨ op = 7 ∨ op = 8 ∨ op = 9 ∨ op = 10 := by omega
  have n0 : Sl.nil.len = 0 := rfl
  clear hd hg e1 e2 ho
  rcases hc with rfl | rfl | rfl | rfl | rfl | rfl | rfl | rfl | rfl | rfl <;>
    simp only [sameB, usedO, cap0, Bool.and_eq_true, decide_eq_true_eq, beq_iff_eq, n0, S_api_Cap.mk.injEq, S_api_Word.mk.injEq, Bool.and_true, reduceIte, Int.reduceEq, Int.reduceLE, ne_eq, not_true_eq_false, not_false_eq_true, true_implies, false_implies, true_and, and_true, or_self, or_false, or_true,  and_self, and_false] <;>
    grind
theorem named_iff {c : S_api_Call} : namedB c = true ↔ ((c.Op = 5 ∨ c.Op = 6) → c.Given = false → c.Cap.Pass = ⟨0, 0⟩) := by
  obtain ⟨op, b, size, ⟨obj, ⟨hi, lo⟩⟩, given, rights, off, n, data, index, gifts⟩ := c
  simp only [namedB, S_api_Word.mk.injEq]
  cases given
  · simp; omega
  · simp
theorem formed_eq {c : S_api_Call} {ds : List UInt8} {gs : List Int} (hd : c.Data.len = ds.length) (hg : c.Gifts.len = gs.length) : (((rangeB c && (decide ((c.Data.len : Int) ≤ 1025))) && (decide ((c.Gifts.len : Int) ≤ 255))) && ((!(!decide (∀ g ∈ gs, inB g 0 65535))) && namedB c)) = decide (formedO c ds gs) := by
  by_cases ho : inB c.Op 1 10
  · have e := same_iff hd hg ho
    have en := named_iff (c := c)
    rw [Bool.eq_iff_iff, decide_eq_true_iff]
    unfold rangeB formedO
    simp only [Bool.and_eq_true, decide_eq_true_eq, Bool.not_not, e, en, hd, hg]
    constructor
    · rintro ⟨⟨⟨⟨⟨⟨⟨⟨⟨⟨⟨⟨s1, s2, s3, s4, s5, s6, s7, s8⟩, o⟩, b⟩, ix⟩, sz⟩, of_⟩, nn⟩, ob⟩, rg⟩, dl⟩, gl⟩, gi, nm⟩
      exact ⟨⟨b, ix, sz, of_, nn, ob, rg, by omega, by omega, gi⟩, o, s1, s2, s3, s4, s5, s6, s7, s8, nm⟩
    · rintro ⟨⟨b, ix, sz, of_, nn, ob, rg, dl, gl, gi⟩, o, s1, s2, s3, s4, s5, s6, s7, s8, nm⟩
      exact ⟨⟨⟨⟨⟨⟨⟨⟨⟨⟨⟨⟨s1, s2, s3, s4, s5, s6, s7, s8⟩, o⟩, b⟩, ix⟩, sz⟩, of_⟩, nn⟩, ob⟩, rg⟩, by omega⟩, by omega⟩, gi, nm⟩
  · have e1 : rangeB c = false := by
      unfold rangeB
      rw [decide_eq_false ho]; simp
    rw [e1, Bool.false_and, Bool.false_and, Bool.false_and, decide_eq_false fun z => ho z.2.1]
theorem t_formed {c : S_api_Call} {ds : List UInt8} {gs : List Int} (hd : c.Data.len = ds.length) (ar : Arr (cInt .i64) h c.Gifts gs) {K : Bool → H → Prop} (y : K (decide (formedO c ds gs)) h) : m_plain_formed c K h :=
  t_formedB ar (by rw [formed_eq hd ar.len]; exact y)
variable {p : Nat} {F : Nat → Prop} {m : MdS}
theorem create_sh (n : Int) : (createO m n).1.data = [] ∧ (createO m n).1.num = 0 := by
  unfold createO refO
  repeat' split
  all_goals exact ⟨rfl, rfl⟩
theorem destroy_sh (c : S_api_Cap) : (destroyO m c).1.cap = cap0 ∧ (destroyO m c).1.data = [] ∧ (destroyO m c).1.num = 0 := by
  unfold destroyO refO
  split <;> exact ⟨rfl, rfl, rfl⟩
theorem revoke_sh (c : S_api_Cap) : (revokeO m c).1.cap = cap0 ∧ (revokeO m c).1.data = [] ∧ (revokeO m c).1.num = 0 := by
  unfold revokeO refO
  repeat' split
  all_goals exact ⟨rfl, rfl, rfl⟩
theorem der_sh (o r name : Int) : ∀ n tk, (derO m o r name tk n).1.data = [] ∧ (derO m o r name tk n).1.num = 0
  | 0, _ => ⟨rfl, rfl⟩
  | n + 1, tk => by
    rw [derO]
    split
    · exact ⟨rfl, rfl⟩
    · split
      · exact der_sh o r name n (tk + 1)
      · exact ⟨rfl, rfl⟩
theorem derive_sh (c : S_api_Cap) (r : Int) : (deriveO m c r).1.data = [] ∧ (deriveO m c r).1.num = 0 := by
  unfold deriveO
  repeat' split
  all_goals first | exact der_sh _ _ _ _ _ | exact ⟨rfl, rfl⟩
theorem read_sh (c : S_api_Call) : (readO m c).2 = m ∧ (readO m c).1.cap = cap0 ∧ (readO m c).1.num = 0 := by
  unfold readO
  dsimp only
  repeat' split
  all_goals exact ⟨rfl, rfl, rfl⟩
theorem write_sh (c : S_api_Call) (ds : List UInt8) : (writeO m c ds).1.cap = cap0 ∧ (writeO m c ds).1.data = [] ∧ (writeO m c ds).1.num = 0 := by
  unfold writeO
  dsimp only
  repeat' split
  all_goals exact ⟨rfl, rfl, rfl⟩
theorem add_sh (c : S_api_Call) : (addO m c).1.cap = cap0 ∧ (addO m c).1.data = [] ∧ (addO m c).1.num = 0 := by
  unfold addO
  repeat' split
  all_goals exact ⟨rfl, rfl, rfl⟩
theorem remove_sh (c : S_api_Call) : (removeO m c).1.cap = cap0 ∧ (removeO m c).1.data = [] ∧ (removeO m c).1.num = 0 := by
  unfold removeO
  repeat' split
  all_goals exact ⟨rfl, rfl, rfl⟩
theorem spawn_sh (c : S_api_Call) (gs : List Int) : (spawnO m c gs).1.cap = cap0 ∧ (spawnO m c gs).1.data = [] := by
  unfold spawnO
  repeat' split
  all_goals exact ⟨rfl, rfl⟩
theorem t_pDo (x : PM h p F m) (i : MSI m) {c : S_api_Call} {ds : List UInt8} {gs : List Int} (ad : Arr cU8 h c.Data ds) (ag : Arr (cInt .i64) h c.Gifts gs) (gw : GoodW c.Cap.Pass) {K : S_api_Reply → H → Prop}
    (y : ∀ s h' F', PM h' p F' (doO m c ds gs).2 → KChg F F' h h' → Buf cU8 1 N_u8 h' s (doO m c ds gs).1.data → (∀ b, s.foot b → h b = none ∧ ¬ F' b) → K ⟨(doO m c ds gs).1.code, (doO m c ds gs).1.cap, s, (doO m c ds gs).1.num⟩ h') : m_plain_Model_Do (some ⟨p, 0, none⟩) c K h := by
  unfold m_plain_Model_Do
  have kr : KChg F F h h := .of (.refl h)
  have nf : ∀ {P : Nat → Prop} (b : Nat), Sl.nil.foot b → P b := fun _ ⟨_, q, _⟩ => (by cases q)
  have x0 := x
  unfold doO at y
  refine t_formed ad.len ag ?_
  by_cases q0 : formedO c ds gs
  · simp only [if_pos q0] at y
    obtain ⟨bo, bl, sd, st, so, sl, x⟩ := x
    refine w_ifF (by rw [decide_eq_true q0]; rfl) (w_deref (w_load x.f15 (w_lookup (keyP (by kernel_rfl)) x.ml ?_)))
    rw [alook_some x.ls.keys]
    by_cases q1 : (alook m.ls c.By).isSome = true
    · simp only [if_pos q1] at y
      refine w_ifF (by show (!(alook m.ls c.By).isSome) = false; rw [q1]; rfl) ?_
      obtain ⟨⟨_, fi, fs, fo, fn, _, _, fdl, fgl, fgs⟩, _⟩ := q0
      refine w_if' (fun q => ?_) fun q => ?_
      · have q : c.Op = 1 := q
        simp only [if_pos q] at y
        obtain ⟨s1, s2⟩ := create_sh (m := m) c.Size
        rw [s1, s2] at y
        exact t_pCreate x0 i fun h1 F1 x1 k1 => y _ h1 F1 x1 k1 Buf.nil nf
      have q : ¬ c.Op = 1 := q
      simp only [if_neg q] at y
      refine w_if' (fun q => ?_) fun q => ?_
      · have q : c.Op = 2 := q
        simp only [if_pos q] at y
        obtain ⟨s0, s1, s2⟩ := destroy_sh (m := m) c.Cap
        rw [s0, s1, s2] at y
        exact t_pDestroy x0 i.tsn' fun h1 x1 k1 => y _ h1 F x1 k1 Buf.nil nf
      have q : ¬ c.Op = 2 := q
      simp only [if_neg q] at y
      refine w_if' (fun q => ?_) fun q => ?_
      · have q : c.Op = 3 := q
        simp only [if_pos q] at y
        obtain ⟨s1, s2⟩ := derive_sh (m := m) c.Cap c.Rights
        rw [s1, s2] at y
        exact t_pDerive x0 i fun h1 F1 x1 k1 => y _ h1 F1 x1 k1 Buf.nil nf
      have q : ¬ c.Op = 3 := q
      simp only [if_neg q] at y
      refine w_if' (fun q => ?_) fun q => ?_
      · have q : c.Op = 4 := q
        simp only [if_pos q] at y
        obtain ⟨s0, s1, s2⟩ := revoke_sh (m := m) c.Cap
        rw [s0, s1, s2] at y
        exact t_pRevoke x0 i.tsn' fun h1 x1 k1 => y _ h1 F x1 k1 Buf.nil nf
      have q : ¬ c.Op = 4 := q
      simp only [if_neg q] at y
      refine w_if' (fun q => ?_) fun q => ?_
      · have q : c.Op = 5 := q
        simp only [if_pos q] at y
        obtain ⟨s0, s1, s2⟩ := read_sh (m := m) c
        rw [s0, s1, s2] at y
        exact t_pRead x0 i fo fn fun s h1 _ _ k1 b1 f1 => y s h1 F (x0.keep k1) (.of k1) b1 fun b g => ⟨f1 b g, fun z => x0.has b z (f1 b g)⟩
      have q : ¬ c.Op = 5 := q
      simp only [if_neg q] at y
      refine w_if' (fun q => ?_) fun q => ?_
      · have q : c.Op = 6 := q
        simp only [if_pos q] at y
        obtain ⟨s0, s1, s2⟩ := write_sh (m := m) c ds
        rw [s0, s1, s2] at y
        exact t_pWrite x0 i ad (by omega) fo fun h1 x1 k1 => y _ h1 F x1 k1 Buf.nil nf
      have q : ¬ c.Op = 6 := q
      simp only [if_neg q] at y
      refine w_if' (fun q => ?_) fun q => ?_
      · have q : c.Op = 7 := q
        simp only [if_pos q] at y
        obtain ⟨s0, s1, s2⟩ := add_sh (m := m) c
        rw [s0, s1, s2] at y
        exact t_pAdd x0 i gw fun h1 F1 x1 k1 => y _ h1 F1 x1 k1 Buf.nil nf
      have q : ¬ c.Op = 7 := q
      simp only [if_neg q] at y
      refine w_if' (fun q => ?_) fun q => ?_
      · have q : c.Op = 8 := q
        simp only [if_pos q] at y
        obtain ⟨s0, s1, s2⟩ := remove_sh (m := m) c
        rw [s0, s1, s2] at y
        exact t_pRemove x0 i fi fun h1 F1 x1 k1 => y _ h1 F1 x1 k1 Buf.nil nf
      have q : ¬ c.Op = 8 := q
      simp only [if_neg q] at y
      refine w_if' (fun q => ?_) fun q => ?_
      · have q : c.Op = 9 := q
        simp only [if_pos q] at y
        obtain ⟨s0, s1⟩ := spawn_sh (m := m) c gs
        rw [s0, s1] at y
        exact t_pSpawn x0 i ag fgl fgs fun h1 F1 x1 k1 => y _ h1 F1 x1 k1 Buf.nil nf
      have q : ¬ c.Op = 9 := q
      simp only [if_neg q] at y
      refine w_deref (w_load x.f15 (w_mapDel (keyP (by kernel_rfl)) x.ml rfl fun h2 m2 b2 d2 => ?_))
      have rl : Rows cCp 3 N_api_Cap h2 F (adel sl c.By) (adel m.ls c.By) := (x.ls.but b2 fun i s q c g e => x.ml.untyped (x.bls i s q c g) e).del c.By
      have x2 := x.reL b2 (fun c g => .inl g) m2 rl (fun _ g => g) fun c g z => x.has c g (d2 c z)
      exact y Sl.nil h2 F ⟨_, _, _, _, _, _, x2⟩ ⟨b2.mono fun c e => by rw [e]; exact x.fp.2.2, fun c g => .inl g, d2⟩ Buf.nil nf
    · simp only [if_neg q1] at y
      exact w_ifT (by show (!(alook m.ls c.By).isSome) = true; cases z : (alook m.ls c.By).isSome; rfl; exact absurd z q1) (w_pure _ (fun _ _ z => z) (y Sl.nil h F x0 kr Buf.nil nf))
  · simp only [if_neg q0] at y
    exact w_ifT (by rw [decide_eq_false q0]; rfl) (w_pure _ (fun _ _ z => z) (y Sl.nil h F x0 kr Buf.nil nf))
end
section
variable {m : MdS}
theorem MSI.subT (i : MSI m) {ts : List Tk} (s : ts.Sublist m.ts) : MSI { m with ts := ts } :=
  ⟨i.cfg, i.drn, i.drg, i.tk, i.nm, i.obo, i.obn, i.obs, i.obk, i.ni, Nat.le_trans s.length_le i.tsn, fun t h => i.tso t (s.subset h), fun t h => i.tsm t (s.subset h), i.tsp.sublist s, i.lso, i.lsn, i.lsl, i.lsk, i.np⟩
theorem MSI.issue (i : MSI m) (lt : m.nm < m.tk) (room : m.ts.length < 256) {c : S_api_Cap} {r q : Int} (ho : c.Obj ∈ m.ob.map (·.1)) (hq : 0 ≤ q ∧ q ≤ m.nm) : MSI (issueT m c r q) := by
  refine ⟨i.cfg, i.drn, i.drg, i.tk, by show m.nm + 1 ≤ m.tk; omega, i.obo, i.obn, i.obs, i.obk, i.ni, ?_, ?_, ?_, ?_, i.lso, i.lsn, i.lsl, i.lsk, i.np⟩
  · show (m.ts ++ _).length ≤ 256
    rw [List.length_append, List.length_singleton]; omega
  · intro t ht
    rcases List.mem_append.1 ht with z | z
    · exact i.tso t z
    · rw [List.mem_singleton] at z; subst z; exact ho
  · intro t ht
    show 1 ≤ t.xname ∧ t.xname ≤ ((m.nm + 1 : Nat) : Int) ∧ _
    rcases List.mem_append.1 ht with z | z
    · obtain ⟨a, b, c, d⟩ := i.tsm t z
      exact ⟨a, by omega, c, d⟩
    · rw [List.mem_singleton] at z; subst z
      show 1 ≤ ((m.nm + 1 : Nat) : Int) ∧ ((m.nm + 1 : Nat) : Int) ≤ ((m.nm + 1 : Nat) : Int) ∧ 0 ≤ q ∧ q < ((m.nm + 1 : Nat) : Int)
      omega
  · refine List.pairwise_append.2 ⟨i.tsp, List.pairwise_singleton _ _, fun t ht u hu => ?_⟩
    rw [List.mem_singleton] at hu; subst hu
    have := (i.tsm t ht).2.1
    show t.xname < ((m.nm + 1 : Nat) : Int)
    omega
theorem MSI.gone (i : MSI m) (o : Int) : MSI (goneO m o) := by
  have ks : ∀ k, k ∈ (adel m.ob o).map (·.1) ↔ k ≠ o ∧ k ∈ m.ob.map (·.1) := fun k => by
    rw [adel_keys _ _ i.obo, List.Nodup.mem_erase_iff i.obo]
  have sub := adel_sub o m.ob
  refine ⟨i.cfg, i.drn, i.drg, i.tk, i.nm, i.obo.del o, ?_, fun q hq => i.obs q (sub q hq), fun q hq => i.obk q (sub q hq), i.ni, Nat.le_trans (List.length_filter_le _ _) i.tsn, fun t ht => ?_, fun t ht => i.tsm t (List.mem_filter.1 ht).1, i.tsp.sublist List.filter_sublist, i.lso, i.lsn, i.lsl, i.lsk, i.np⟩
  · have e := congrArg List.length (adel_keys o m.ob i.obo)
    rw [List.length_map] at e
    have e2 := List.length_erase_le (a := o) (l := m.ob.map (·.1))
    rw [List.length_map] at e2
    have := i.obn
    show (adel m.ob o).length ≤ 64
    omega
  · obtain ⟨h1, h2⟩ := List.mem_filter.1 ht
    exact (ks _).2 ⟨by simpa using h2, i.tso t h1⟩
theorem find_mem {ts : List Tk} {c : S_api_Cap} {t : Tk} (q : findT ts c = some t) : t ∈ ts ∧ t.xcap = c := by
  unfold findT at q
  have hc := List.find?_some q
  exact ⟨List.mem_of_find?_eq_some q, of_decide_eq_true hc⟩
theorem given_iv {ts : List Tk} {c : S_api_Cap} {need : Int} {t : Tk} {e : Int} (q : givenT ts c need = (some t, e)) : t ∈ ts ∧ t.xcap = c := by
  cases z : findT ts c with
  | none => rw [givenT_none z] at q; cases q
  | some u =>
    rw [givenT_some z] at q
    split at q
    · cases q; exact find_mem z
    · cases q
theorem der_inv (i : MSI m) {o r name : Int} (ho : o ∈ m.ob.map (·.1)) (hn : 0 ≤ name ∧ name ≤ m.nm) (room : m.ts.length < 256) : ∀ n tk, m.tk ≤ tk → tk ≤ m.dr.length → MSI (derO m o r name tk n).2
  | 0, tk, h1, h2 => i.atTk h1 h2
  | n + 1, tk, h1, h2 => by
    cases e : m.dr[tk]? with
    | none => rw [derO_none e]; exact i.atTk h1 h2
    | some w =>
      have lt := lt_of_get e
      rw [derO_some e]
      split
      · exact der_inv i ho hn room n (tk + 1) (by omega) (by omega)
      · have nm := i.nm
        exact (i.atTk (tk := tk + 1) (by omega) (by omega)).issue (by show m.nm < tk + 1; omega) room ho hn
theorem derive_inv (i : MSI m) (c : S_api_Cap) (r : Int) : MSI (deriveO m c r).2 := by
  unfold deriveO
  split
  · exact i
  · next t e q =>
    obtain ⟨ht, hc⟩ := given_iv q
    obtain ⟨a, b, _, _⟩ := i.tsm t ht
    have he := i.cfg.2.2.2.1.2
    split
    · split
      · exact i
      · split
        · exact i
        · next z => exact der_inv i (by rw [← hc]; exact i.tso t ht) ⟨by omega, b⟩ (by omega) 9 m.tk (Nat.le_refl _) i.tk
    · exact i
theorem destroy_inv (i : MSI m) (c : S_api_Cap) : MSI (destroyO m c).2 := by
  unfold destroyO
  split
  · exact i
  · exact i.gone _
theorem revoke_inv (i : MSI m) (c : S_api_Cap) : MSI (revokeO m c).2 := by
  unfold revokeO
  split
  · exact i
  · split
    · exact i.gone _
    · exact i.subT List.filter_sublist
theorem create_inv (i : MSI m) (n : Int) : MSI (createO m n).2 := by
  unfold createO
  split
  · exact i
  split
  · exact i
  next q2 =>
  split
  · exact i
  split
  · exact i
  next q1 _ q4 =>
  cases e : m.dr[m.tk]? with
  | none => exact i
  | some w =>
    have lt := lt_of_get e
    have nm := i.nm
    have he := i.cfg.2.2.2.1.2
    have hob := i.cfg.2.1.2
    have inn := i.ni
    have nk : m.ni ∉ m.ob.map (·.1) := fun z => by
      obtain ⟨q, hq, e⟩ := List.mem_map.1 z
      have := (i.obk q hq).2
      omega
    have j : MSI { m with tk := m.tk + 1, ni := m.ni + 1, ob := m.ob ++ [(m.ni, List.replicate n.toNat 0)] } := by
      refine ⟨i.cfg, i.drn, i.drg, by show m.tk + 1 ≤ m.dr.length; omega, by show m.nm ≤ m.tk + 1; omega, ?_, ?_, ?_, ?_, by show 1 ≤ m.ni + 1 ∧ m.ni + 1 ≤ _; omega, i.tsn, fun t ht => ?_, i.tsm, i.tsp, i.lso, i.lsn, i.lsl, i.lsk, i.np⟩
      · rw [← aset_new (v := List.replicate n.toNat (0 : UInt8)) nk]; exact i.obo.set _ _
      · show (m.ob ++ _).length ≤ 64
        rw [List.length_append, List.length_singleton]; omega
      · intro q hq
        rcases List.mem_append.1 hq with z | z
        · exact i.obs q z
        · rw [List.mem_singleton] at z; subst z
          show (List.replicate n.toNat (0 : UInt8)).length ≤ 4096
          rw [List.length_replicate]; omega
      · intro q hq
        show 1 ≤ q.1 ∧ q.1 < m.ni + 1
        rcases List.mem_append.1 hq with z | z
        · have := i.obk q z; omega
        · rw [List.mem_singleton] at z; subst z
          show 1 ≤ m.ni ∧ m.ni < m.ni + 1
          omega
      · show _ ∈ (m.ob ++ _).map (·.1)
        rw [List.map_append]; exact List.mem_append_left _ (i.tso t ht)
    exact j.issue (by show m.nm < m.tk + 1; omega) (by show m.ts.length < 256; omega) (by show m.ni ∈ (m.ob ++ _).map (·.1); simp) ⟨Int.le_refl _, by show (0 : Int) ≤ (m.nm : Int); omega⟩
theorem MSI.setO (i : MSI m) {k : Int} {b : List UInt8} (hk : k ∈ m.ob.map (·.1)) (hb : b.length ≤ 4096) : MSI { m with ob := aset m.ob k b } := by
  have ek : (aset m.ob k b).map (·.1) = m.ob.map (·.1) := by rw [aset_map, if_pos hk]
  have el : (aset m.ob k b).length = m.ob.length := by
    have := congrArg List.length ek
    rwa [List.length_map, List.length_map] at this
  refine ⟨i.cfg, i.drn, i.drg, i.tk, i.nm, i.obo.set k b, by show (aset m.ob k b).length ≤ 64; rw [el]; exact i.obn, fun q hq => ?_, fun q hq => ?_, i.ni, i.tsn, fun t ht => by show _ ∈ (aset m.ob k b).map (·.1); rw [ek]; exact i.tso t ht, i.tsm, i.tsp, i.lso, i.lsn, i.lsl, i.lsk, i.np⟩
  · rcases aset_mem k b m.ob q hq with z | z
    · rw [z]; exact hb
    · exact i.obs q z
  · have : q.1 ∈ m.ob.map (·.1) := by rw [← ek]; exact List.mem_map_of_mem hq
    obtain ⟨q', hq', e⟩ := List.mem_map.1 this
    have := i.obk q' hq'
    rw [e] at this; exact this
theorem write_inv (i : MSI m) (c : S_api_Call) (ds : List UInt8) : MSI (writeO m c ds).2 := by
  unfold writeO
  dsimp only
  split
  · next q1 =>
    split
    · next q2 =>
      obtain ⟨g1, g2, g3, g4⟩ := place_ok q2
      refine i.setO (may_here i q1) ?_
      have := i.obs' c.Cap.Obj
      unfold overO
      rw [List.length_append, List.length_append, List.length_take, List.length_drop]; omega
    · exact i
  · exact i
theorem MSI.setL (i : MSI m) {k : Int} {l : List S_api_Cap} (hk : k ∈ m.ls.map (·.1)) (hl : l.length ≤ 32) : MSI { m with ls := aset m.ls k l } := by
  have ek : (aset m.ls k l).map (·.1) = m.ls.map (·.1) := by rw [aset_map, if_pos hk]
  have el : (aset m.ls k l).length = m.ls.length := by
    have := congrArg List.length ek
    rwa [List.length_map, List.length_map] at this
  refine ⟨i.cfg, i.drn, i.drg, i.tk, i.nm, i.obo, i.obn, i.obs, i.obk, i.ni, i.tsn, i.tso, i.tsm, i.tsp, i.lso.set k l, by show (aset m.ls k l).length ≤ 32; rw [el]; exact i.lsn, fun q hq => ?_, fun q hq => ?_, i.np⟩
  · rcases aset_mem k l m.ls q hq with z | z
    · rw [z]; exact hl
    · exact i.lsl q z
  · have : q.1 ∈ m.ls.map (·.1) := by rw [← ek]; exact List.mem_map_of_mem hq
    obtain ⟨q', hq', e⟩ := List.mem_map.1 this
    have := i.lsk q' hq'
    rw [e] at this; exact this
theorem look_key {V : Type} {l : List (Int × V)} {k : Int} (h : (alook l k).isSome = true) : k ∈ l.map (·.1) := by
  cases e : alook l k with
  | none => rw [e] at h; cases h
  | some v => exact List.mem_map.2 ⟨_, alook_mem e, rfl⟩
theorem add_inv (i : MSI m) (c : S_api_Call) (hl : (alook m.ls c.By).isSome = true) : MSI (addO m c).2 := by
  have hb := i.cfg.2.2.2.2.2.2.1.2
  unfold addO
  split
  · split
    · exact i
    · refine i.setL (look_key hl) ?_
      rw [List.length_append, List.length_singleton]; omega
  · exact i
theorem remove_inv (i : MSI m) (c : S_api_Call) (hl : (alook m.ls c.By).isSome = true) : MSI (removeO m c).2 := by
  unfold removeO
  split
  · exact i
  · exact i.setL (look_key hl) (Nat.le_trans (List.length_eraseIdx_le _ _) (i.list' c.By))
theorem spawn_inv (i : MSI m) (c : S_api_Call) (gs : List Int) : MSI (spawnO m c gs).2 := by
  have hb := i.cfg.2.2.2.2.2.2.1.2
  have hp := i.cfg.2.2.2.2.2.1.2
  have inp := i.np
  unfold spawnO
  split
  · exact i
  · next l _ =>
    split
    · exact i
    · next q1 =>
      split
      · exact i
      · next q2 =>
        have nk : m.np ∉ m.ls.map (·.1) := fun z => by
          obtain ⟨q, hq, e⟩ := List.mem_map.1 z
          have := (i.lsk q hq).2
          omega
        refine ⟨i.cfg, i.drn, i.drg, i.tk, i.nm, i.obo, i.obn, i.obs, i.obk, i.ni, i.tsn, i.tso, i.tsm, i.tsp, ?_, ?_, ?_, ?_, by show 1 ≤ m.np + 1 ∧ m.np + 1 ≤ 65536; omega⟩
        · rw [← aset_new (v := l) nk]; exact i.lso.set _ _
        · show (m.ls ++ _).length ≤ 32
          rw [List.length_append, List.length_singleton]; omega
        · intro q hq
          rcases List.mem_append.1 hq with z | z
          · exact i.lsl q z
          · rw [List.mem_singleton] at z; subst z
            show l.length ≤ 32
            omega
        · intro q hq
          show 0 ≤ q.1 ∧ q.1 < m.np + 1
          rcases List.mem_append.1 hq with z | z
          · have := i.lsk q z; omega
          · rw [List.mem_singleton] at z; subst z
            show 0 ≤ m.np ∧ m.np < m.np + 1
            omega
theorem exit_inv (i : MSI m) (k : Int) : MSI { m with ls := adel m.ls k } := by
  have sub := adel_sub k m.ls
  refine ⟨i.cfg, i.drn, i.drg, i.tk, i.nm, i.obo, i.obn, i.obs, i.obk, i.ni, i.tsn, i.tso, i.tsm, i.tsp, i.lso.del k, ?_, fun q hq => i.lsl q (sub q hq), fun q hq => i.lsk q (sub q hq), i.np⟩
  have e := congrArg List.length (adel_keys k m.ls i.lso)
  rw [List.length_map] at e
  have e2 := List.length_erase_le (a := k) (l := m.ls.map (·.1))
  rw [List.length_map] at e2
  have := i.lsn
  show (adel m.ls k).length ≤ 32
  omega
theorem do_inv (i : MSI m) (c : S_api_Call) (ds : List UInt8) (gs : List Int) : MSI (doO m c ds gs).2 := by
  unfold doO
  by_cases q0 : formedO c ds gs
  · rw [if_pos q0]
    by_cases hl : (alook m.ls c.By).isSome = true
    · rw [if_pos hl]
      by_cases q : c.Op = 1
      · rw [if_pos q]; exact create_inv i _
      rw [if_neg q]
      clear q
      by_cases q : c.Op = 2
      · rw [if_pos q]; exact destroy_inv i _
      rw [if_neg q]
      clear q
      by_cases q : c.Op = 3
      · rw [if_pos q]; exact derive_inv i _ _
      rw [if_neg q]
      clear q
      by_cases q : c.Op = 4
      · rw [if_pos q]; exact revoke_inv i _
      rw [if_neg q]
      clear q
      by_cases q : c.Op = 5
      · rw [if_pos q]; rw [(read_sh c).1]; exact i
      rw [if_neg q]
      clear q
      by_cases q : c.Op = 6
      · rw [if_pos q]; exact write_inv i _ _
      rw [if_neg q]
      clear q
      by_cases q : c.Op = 7
      · rw [if_pos q]; exact add_inv i _ hl
      rw [if_neg q]
      clear q
      by_cases q : c.Op = 8
      · rw [if_pos q]; exact remove_inv i _ hl
      rw [if_neg q]
      clear q
      by_cases q : c.Op = 9
      · rw [if_pos q]; exact spawn_inv i _ _
      rw [if_neg q]
      clear q
      exact exit_inv i _
    · rw [if_neg hl]; exact i
  · rw [if_neg q0]; exact i
end
section
variable {h : H}
theorem mayO_and (c : S_api_Config) : (decide (inB c.Width 1 128) && decide (inB c.Objects 1 64) && decide (inB c.Pages 1 256) && decide (inB c.Entries 1 256) && decide (inB c.Quota 1 256) && decide (inB c.Procs 1 32) && decide (inB c.List 1 32) && decide (inB c.Sets 0 16) && decide (inB c.Ways 1 4) && decide (inB c.Knob 0 64)) = decide (mayO c) := by
  rw [Bool.eq_iff_iff, decide_eq_true_iff]
  unfold mayO
  simp only [Bool.and_eq_true, decide_eq_true_eq, and_assoc]
theorem w_may {c : S_api_Config} {k : Bool → H → Prop} (y : k (decide (mayO c)) h) : mPure (m_plain_may c) k h := by
  refine w_pure _ (fun K0 h0 z => ?_) y
  unfold m_plain_may
  rw [← mayO_and] at z
  refine w_within (w_joinV (decide (inB c.Width 1 128) && decide (inB c.Objects 1 64)) (fun j hj => w_andJ (fun z => w_within z) hj) ?_)
  refine w_joinV (decide (inB c.Width 1 128) && decide (inB c.Objects 1 64) && decide (inB c.Pages 1 256)) (fun j hj => w_andJ (fun z => w_within z) hj) ?_
  refine w_joinV (decide (inB c.Width 1 128) && decide (inB c.Objects 1 64) && decide (inB c.Pages 1 256) && decide (inB c.Entries 1 256)) (fun j hj => w_andJ (fun z => w_within z) hj) ?_
  refine w_joinV (decide (inB c.Width 1 128) && decide (inB c.Objects 1 64) && decide (inB c.Pages 1 256) && decide (inB c.Entries 1 256) && decide (inB c.Quota 1 256)) (fun j hj => w_andJ (fun z => w_within z) hj) ?_
  refine w_joinV (decide (inB c.Width 1 128) && decide (inB c.Objects 1 64) && decide (inB c.Pages 1 256) && decide (inB c.Entries 1 256) && decide (inB c.Quota 1 256) && decide (inB c.Procs 1 32)) (fun j hj => w_andJ (fun z => w_within z) hj) ?_
  refine w_joinV (decide (inB c.Width 1 128) && decide (inB c.Objects 1 64) && decide (inB c.Pages 1 256) && decide (inB c.Entries 1 256) && decide (inB c.Quota 1 256) && decide (inB c.Procs 1 32) && decide (inB c.List 1 32)) (fun j hj => w_andJ (fun z => w_within z) hj) ?_
  refine w_joinV (decide (inB c.Width 1 128) && decide (inB c.Objects 1 64) && decide (inB c.Pages 1 256) && decide (inB c.Entries 1 256) && decide (inB c.Quota 1 256) && decide (inB c.Procs 1 32) && decide (inB c.List 1 32) && decide (inB c.Sets 0 16)) (fun j hj => w_andJ (fun z => w_within z) hj) ?_
  refine w_joinV (decide (inB c.Width 1 128) && decide (inB c.Objects 1 64) && decide (inB c.Pages 1 256) && decide (inB c.Entries 1 256) && decide (inB c.Quota 1 256) && decide (inB c.Procs 1 32) && decide (inB c.List 1 32) && decide (inB c.Sets 0 16) && decide (inB c.Ways 1 4)) (fun j hj => w_andJ (fun z => w_within z) hj) ?_
  generalize (decide (inB c.Width 1 128) && decide (inB c.Objects 1 64) && decide (inB c.Pages 1 256) && decide (inB c.Entries 1 256) && decide (inB c.Quota 1 256) && decide (inB c.Procs 1 32) && decide (inB c.List 1 32) && decide (inB c.Sets 0 16) && decide (inB c.Ways 1 4)) = b at z
  cases b with
  | true => exact w_ifT rfl (w_within z)
  | false => exact w_ifF rfl z
structure NW (h h' : H) (xs : List S_api_Word) (sd : Option Sl) (ob : Option Nat) (ls : Option (Nat × Bool)) : Prop where
  k : Keeps h h'
  s : ∀ s, sd = some s → Buf cW 2 N_api_Word h' s xs ∧ ∀ c, s.foot c → h c = none
  o : ∀ b, ob = some b → MapOf (Value.int .i64) Sl.val h' b ([] : List (Int × Sl)) ∧ h b = none
  l : ∀ b q, ls = some (b, q) → MapOf (Value.int .i64) Sl.val h' b (if q = true then [((0 : Int), Sl.nil)] else []) ∧ h b = none
  ne : ∀ b c q, ob = some b → ls = some (c, q) → b ≠ c
variable {h' : H} {xs : List S_api_Word} {sd : Option Sl} {ob : Option Nat} {ls : Option (Nat × Bool)}
theorem NW.keep {h2 : H} (x : NW h h' xs sd ob ls) (k : Keeps h' h2) : NW h h2 xs sd ob ls :=
  ⟨x.k.trans k, fun s e => ⟨(x.s s e).1.keep k, (x.s s e).2⟩, fun b e => ⟨(x.o b e).1.keep k, (x.o b e).2⟩, fun b q e => ⟨(x.l b q e).1.keep k, (x.l b q e).2⟩, x.ne⟩
theorem nw_clone {a : Sl} (x : NW h h' xs none ob ls) (ar : Arr cW h a xs) (hn : xs.length ≤ 2 ^ 20) {k : Sl → H → Prop} (y : ∀ s h2, NW h h2 xs (some s) ob ls → k s h2) : m_slices_Clone_api_Word_api_Word a k h' := by
  unfold m_slices_Clone_api_Word_api_Word
  refine w_clone (by_ := 16) (e := N_api_Word) word_len word_plain rfl (ar.keep x.k) (by omega) fun s h2 b2 k2 f2 => y s h2 ?_
  have x2 := x.keep k2
  exact ⟨x2.k, fun s' e => by cases e; exact ⟨b2, fun c g => x.k.fresh (f2 c g)⟩, x2.o, x2.l, x2.ne⟩
theorem nw_mkO (x : NW h h' xs sd none ls) {k : Option Nat → H → Prop} (y : ∀ b h2, NW h h2 xs sd (some b) ls → k (some b) h2) : mMakeMap k h' := by
  refine w_makeMap (Value.int .i64) Sl.val fun b h2 fb m2 k2 => y b h2 ?_
  have x2 := x.keep k2
  refine ⟨x2.k, x2.s, fun b' e => by cases e; exact ⟨m2, x.k.fresh fb⟩, x2.l, fun b' c q e e' => ?_⟩
  cases e
  intro z
  subst z
  obtain ⟨_, _, q', _⟩ := (x.l _ q e').1
  rw [fb] at q'; cases q'
theorem nw_mkL (x : NW h h' xs sd ob none) {k : Option Nat → H → Prop} (y : ∀ b h2, NW h h2 xs sd ob (some (b, false)) → k (some b) h2) : mMakeMap k h' := by
  refine w_makeMap (Value.int .i64) Sl.val fun b h2 fb m2 k2 => y b h2 ?_
  have x2 := x.keep k2
  refine ⟨x2.k, x2.s, x2.o, fun b' q e => by cases e; exact ⟨m2, x.k.fresh fb⟩, fun b' c q e e' => ?_⟩
  cases e'
  intro z
  subst z
  obtain ⟨_, _, q', _⟩ := (x.o _ e).1
  rw [fb] at q'; cases q'
theorem nw_set {b : Nat} {t : TypeId} (hu : Try.prog.underlying t = some (.int .i64)) (x : NW h h' xs sd ob (some (b, false))) {k : H → Prop} (y : ∀ h2, NW h h2 xs sd ob (some (b, true)) → k h2) : mMapSet (eqV Try.prog 40 t) (some b) (Value.int .i64 0) (Sl.val Sl.nil) k h' := by
  obtain ⟨mb, fb⟩ := x.l b false rfl
  refine w_mapSet (k := (0 : Int)) (v := Sl.nil) (keyP hu) mb rfl rfl fun h2 m2 b2 d2 => y h2 ?_
  refine ⟨x.k.but b2 fun n e => by rw [e]; exact fb, fun s e => ⟨(x.s s e).1.but b2 fun ad ha z => mb.untyped ((x.s s e).1.typed ⟨ad, ha, rfl⟩) z, (x.s s e).2⟩, fun b' e => ⟨(x.o b' e).1.but b2 (x.ne b' b false e rfl), (x.o b' e).2⟩, fun b' q e => by cases e; exact ⟨m2, fb⟩, fun b' c q e e' => ?_⟩
  cases e'
  exact x.ne b' b false e rfl
theorem t_pNew {c : S_api_Config} {a : Sl} (ar : Arr cW h a xs) (gw : ∀ w ∈ xs, GoodW w) {K : Option Addr × Int → H → Prop} (no1 : ¬ mayO c → K (none, 16) h) (no2 : mayO c → 4096 < xs.length → K (none, 23) h)
    (yes : mayO c → xs.length ≤ 4096 → ∀ p F h', PM h' p F (newO c xs) → MSI (newO c xs) → Keeps h h' → (∀ c, F c → h c = none) → K (some ⟨p, 0, none⟩, 0) h') : m_plain_New c a K h := by
  unfold m_plain_New
  have al := ar.len
  refine w_may ?_
  by_cases q0 : mayO c
  · refine w_ifF (by rw [decide_eq_true q0]; rfl) (w_if' (fun q1 => no2 q0 (by omega)) fun q1 => ?_)
    have hn : xs.length ≤ 4096 := by omega
    have hn' : xs.length ≤ 2 ^ 20 := by omega
    refine w_joinP (fun (z : Sl × Option Nat × Option Nat) hh => ∃ s b l, z = (s, some b, some l) ∧ NW h hh xs (some s) (some b) (some (l, true))) (fun j hj => ?_) ?_
    · have n0 : NW h h xs none none none := ⟨.refl _, fun _ e => (by cases e), fun _ e => (by cases e), fun _ _ e => (by cases e), fun _ _ _ e => (by cases e)⟩
      have fin : ∀ {s b l h2}, NW h h2 xs (some s) (some b) (some (l, true)) → j (s, some b, some l) h2 := fun x => hj _ _ ⟨_, _, _, rfl, x⟩
      exact w_both (nw_clone n0 ar hn' fun _ _ n1 => nw_mkL n1 fun _ _ n2 => w_both (nw_mkO n2 fun _ _ n3 => nw_set (by kernel_rfl) n3 fun _ n4 => fin n4) (nw_set (by kernel_rfl) n2 fun _ n3 => nw_mkO n3 fun _ _ n4 => fin n4)) (w_both (nw_mkO n0 fun _ _ n1 => w_both (nw_clone n1 ar hn' fun _ _ n2 => nw_mkL n2 fun _ _ n3 => nw_set (by kernel_rfl) n3 fun _ n4 => fin n4) (nw_mkL n1 fun _ _ n2 => w_both (nw_clone n2 ar hn' fun _ _ n3 => nw_set (by kernel_rfl) n3 fun _ n4 => fin n4) (nw_set (by kernel_rfl) n2 fun _ n3 => nw_clone n3 ar hn' fun _ _ n4 => fin n4))) (nw_mkL n0 fun _ _ n1 => w_both (nw_clone n1 ar hn' fun _ _ n2 => w_both (nw_mkO n2 fun _ _ n3 => nw_set (by kernel_rfl) n3 fun _ n4 => fin n4) (nw_set (by kernel_rfl) n2 fun _ n3 => nw_mkO n3 fun _ _ n4 => fin n4)) (w_both (nw_mkO n1 fun _ _ n2 => w_both (nw_clone n2 ar hn' fun _ _ n3 => nw_set (by kernel_rfl) n3 fun _ n4 => fin n4) (nw_set (by kernel_rfl) n2 fun _ n3 => nw_clone n3 ar hn' fun _ _ n4 => fin n4)) (nw_set (by kernel_rfl) n1 fun _ n2 => w_both (nw_clone n2 ar hn' fun _ _ n3 => nw_mkO n3 fun _ _ n4 => fin n4) (nw_mkO n2 fun _ _ n3 => nw_clone n3 ar hn' fun _ _ n4 => fin n4)))))
    · rintro _ h1 ⟨s, b, l, rfl, x⟩
      obtain ⟨bs, fs⟩ := x.s s rfl
      obtain ⟨mo, fo⟩ := x.o b rfl
      obtain ⟨ml, fl⟩ := x.l l true rfl
      have ml : MapOf (Value.int .i64) Sl.val h1 l [((0 : Int), Sl.nil)] := ml
      refine w_new fun p hp => ?_
      have k2 : Keeps h1 (upd h1 p (.cells (S_plain_Model.cells ⟨c, s, (0 : Nat), some b, Sl.nil, (0 : Nat), some l, 1, 1⟩).toArray N_plain_Model (0, 0))) := Keeps.new hp
      have q2 : (upd h1 p (.cells (S_plain_Model.cells ⟨c, s, (0 : Nat), some b, Sl.nil, (0 : Nat), some l, 1, 1⟩).toArray N_plain_Model (0, 0))) p = some (.cells (S_plain_Model.cells ⟨c, s, (0 : Nat), some b, Sl.nil, (0 : Nat), some l, 1, 1⟩).toArray N_plain_Model (0, 0)) := upd_same _ _ _
      show K (some ⟨p, 0, none⟩, 0) (upd h1 p (.cells (S_plain_Model.cells ⟨c, s, (0 : Nat), some b, Sl.nil, (0 : Nat), some l, 1, 1⟩).toArray N_plain_Model (0, 0)))
      generalize (upd h1 p (.cells (S_plain_Model.cells ⟨c, s, (0 : Nat), some b, Sl.nil, (0 : Nat), some l, 1, 1⟩).toArray N_plain_Model (0, 0))) = h2 at k2 q2
      have bs2 := bs.keep k2
      have mo2 := mo.keep k2
      have ml2 := ml.keep k2
      refine yes q0 hn p (fun z => z = p ∨ z = b ∨ z = l ∨ s.foot z) h2 ⟨b, l, s, Sl.nil, [], [(0, Sl.nil)], ⟨q2, bs2, Buf.nil, mo2, ml2, Rows.nil, ⟨rfl, by show Once [((0 : Int), ([] : List S_api_Cap))]; simp [Once], fun k s' xs' q q' => ?_, fun k k' s' s'' ne q q' => ?_, fun k s' q => ?_⟩, x.ne b l true rfl rfl, ⟨.inl rfl, .inr (.inl rfl), .inr (.inr (.inl rfl))⟩, fun _ g => .inr (.inr (.inr g)), fun _ ⟨_, e, _⟩ => (by cases e), fun z g => ?_⟩⟩ ?_ (x.k.trans k2) fun z g => ?_
      · have q' : alook [((0 : Int), ([] : List S_api_Cap))] k = some xs' := q'
        rw [alook_cons] at q q'
        split at q
        · next e => rw [if_pos e] at q'; cases q; cases q'; exact Buf.nil
        · cases q
      · rw [alook_cons] at q q'
        split at q
        · cases q; exact fun _ ⟨_, e, _⟩ => (by cases e)
        · cases q
      · rw [alook_cons] at q
        split at q
        · cases q; exact fun _ ⟨_, e, _⟩ => (by cases e)
        · cases q
      · rcases g with rfl | rfl | rfl | g
        · rw [q2]; simp
        · obtain ⟨_, _, e, _⟩ := mo2; rw [e]; simp
        · obtain ⟨_, _, e, _⟩ := ml2; rw [e]; simp
        · exact bs2.has g
      · exact ⟨q0, hn, gw, Nat.zero_le _, Nat.le_refl _, List.nodup_nil, Nat.zero_le _, fun _ q => (by cases q), fun _ q => (by cases q), by show (1 : Int) ≤ 1 ∧ (1 : Int) ≤ 4611686018427387905; decide, Nat.zero_le _, fun _ q => (by cases q), fun _ q => (by cases q), List.Pairwise.nil, by show Once [((0 : Int), ([] : List S_api_Cap))]; simp [Once], by show 1 ≤ 32; decide, fun q hq => by rw [List.mem_singleton.1 hq]; exact Nat.zero_le _, fun q hq => by rw [List.mem_singleton.1 hq]; exact ⟨Int.le_refl _, by show (0 : Int) < 1; decide⟩, by show (1 : Int) ≤ 1 ∧ (1 : Int) ≤ 65536; decide⟩
      · rcases g with rfl | rfl | rfl | g
        · exact x.k.fresh hp
        · exact fo
        · exact fl
        · exact fs z g
  · exact w_ifT (by rw [decide_eq_false q0]; rfl) (no1 q0)
end
end Go.Proofs.Ytbjkfllncegpcaa.K
