/- deriveTwins: true at every input, the arguments as they were: no condition. Part 4 of 4. -/
import Derived.Test.YtdleanjofhghnaaDoorZD3
namespace Go.Proofs.YtdleanjofhghnaaDoor.K
open Go Go.Proofs
def m_catalogue_New (a0 : Int) (a1 : Int) (K : (Option Addr × Int) → H → Prop) : H → Prop :=
 mIf ((((decide (a0 < 1)) || (decide (256 < a0))) || (decide (a1 < 0))) || (decide (64 < a1))) (
 K (none, 16)
 ) (
 m_slots_New_int a0 a1 fun r1 =>
 mIf (!decide (r1.2 = 0)) (
 K (none, r1.2)
 ) (
 m_kin_New a0 fun r2 =>
 mIf (!decide (r2.2 = 0)) (
 K (none, r2.2)
 ) (
 mJoin (fun (s3 : Sl × Sl × Option Nat × Option Nat) =>
 mNew 94 #[(Value.pointer r1.1), (Value.pointer r2.1), (Sl.val s3.1), (Sl.val s3.2.1), (Value.map s3.2.2.1), (Value.map s3.2.2.2)] fun ad65 =>
 K ((some ad65), 0)
 ) (fun j4 =>
 mBoth (
 mMake 55 40 #[(Value.int .i64 0), (Value.int .u64 0), (Value.int .u64 0), (Value.int .i64 0), (Value.int .i64 0)] a0 a0 fun s5 =>
 mBoth (
 mMake 4 1 #[(Value.bool false)] a0 a0 fun s6 =>
 mMakeMap fun m7 =>
 mMakeMap fun m8 =>
 j4 (s5, s6, m7, m8)
 ) (
 mBoth (
 mMakeMap fun m9 =>
 mBoth (
 mMake 4 1 #[(Value.bool false)] a0 a0 fun s10 =>
 mMakeMap fun m11 =>
 j4 (s5, s10, m9, m11)
 ) (
 mMakeMap fun m12 =>
 mMake 4 1 #[(Value.bool false)] a0 a0 fun s13 =>
 j4 (s5, s13, m9, m12)
 )
 ) (
 mMakeMap fun m14 =>
 mBoth (
 mMake 4 1 #[(Value.bool false)] a0 a0 fun s15 =>
 mMakeMap fun m16 =>
 j4 (s5, s15, m16, m14)
 ) (
 mMakeMap fun m17 =>
 mMake 4 1 #[(Value.bool false)] a0 a0 fun s18 =>
 j4 (s5, s18, m17, m14)
 )
 )
 )
 ) (
 mBoth (
 mMake 4 1 #[(Value.bool false)] a0 a0 fun s19 =>
 mBoth (
 mMake 55 40 #[(Value.int .i64 0), (Value.int .u64 0), (Value.int .u64 0), (Value.int .i64 0), (Value.int .i64 0)] a0 a0 fun s20 =>
 mMakeMap fun m21 =>
 mMakeMap fun m22 =>
 j4 (s20, s19, m21, m22)
 ) (
 mBoth (
 mMakeMap fun m23 =>
 mBoth (
 mMake 55 40 #[(Value.int .i64 0), (Value.int .u64 0), (Value.int .u64 0), (Value.int .i64 0), (Value.int .i64 0)] a0 a0 fun s24 =>
 mMakeMap fun m25 =>
 j4 (s24, s19, m23, m25)
 ) (
 mMakeMap fun m26 =>
 mMake 55 40 #[(Value.int .i64 0), (Value.int .u64 0), (Value.int .u64 0), (Value.int .i64 0), (Value.int .i64 0)] a0 a0 fun s27 =>
 j4 (s27, s19, m23, m26)
 )
 ) (
 mMakeMap fun m28 =>
 mBoth (
 mMake 55 40 #[(Value.int .i64 0), (Value.int .u64 0), (Value.int .u64 0), (Value.int .i64 0), (Value.int .i64 0)] a0 a0 fun s29 =>
 mMakeMap fun m30 =>
 j4 (s29, s19, m30, m28)
 ) (
 mMakeMap fun m31 =>
 mMake 55 40 #[(Value.int .i64 0), (Value.int .u64 0), (Value.int .u64 0), (Value.int .i64 0), (Value.int .i64 0)] a0 a0 fun s32 =>
 j4 (s32, s19, m31, m28)
 )
 )
 )
 ) (
 mBoth (
 mMakeMap fun m33 =>
 mBoth (
 mMake 55 40 #[(Value.int .i64 0), (Value.int .u64 0), (Value.int .u64 0), (Value.int .i64 0), (Value.int .i64 0)] a0 a0 fun s34 =>
 mBoth (
 mMake 4 1 #[(Value.bool false)] a0 a0 fun s35 =>
 mMakeMap fun m36 =>
 j4 (s34, s35, m33, m36)
 ) (
 mMakeMap fun m37 =>
 mMake 4 1 #[(Value.bool false)] a0 a0 fun s38 =>
 j4 (s34, s38, m33, m37)
 )
 ) (
 mBoth (
 mMake 4 1 #[(Value.bool false)] a0 a0 fun s39 =>
 mBoth (
 mMake 55 40 #[(Value.int .i64 0), (Value.int .u64 0), (Value.int .u64 0), (Value.int .i64 0), (Value.int .i64 0)] a0 a0 fun s40 =>
 mMakeMap fun m41 =>
 j4 (s40, s39, m33, m41)
 ) (
 mMakeMap fun m42 =>
 mMake 55 40 #[(Value.int .i64 0), (Value.int .u64 0), (Value.int .u64 0), (Value.int .i64 0), (Value.int .i64 0)] a0 a0 fun s43 =>
 j4 (s43, s39, m33, m42)
 )
 ) (
 mMakeMap fun m44 =>
 mBoth (
 mMake 55 40 #[(Value.int .i64 0), (Value.int .u64 0), (Value.int .u64 0), (Value.int .i64 0), (Value.int .i64 0)] a0 a0 fun s45 =>
 mMake 4 1 #[(Value.bool false)] a0 a0 fun s46 =>
 j4 (s45, s46, m33, m44)
 ) (
 mMake 4 1 #[(Value.bool false)] a0 a0 fun s47 =>
 mMake 55 40 #[(Value.int .i64 0), (Value.int .u64 0), (Value.int .u64 0), (Value.int .i64 0), (Value.int .i64 0)] a0 a0 fun s48 =>
 j4 (s48, s47, m33, m44)
 )
 )
 )
 ) (
 mMakeMap fun m49 =>
 mBoth (
 mMake 55 40 #[(Value.int .i64 0), (Value.int .u64 0), (Value.int .u64 0), (Value.int .i64 0), (Value.int .i64 0)] a0 a0 fun s50 =>
 mBoth (
 mMake 4 1 #[(Value.bool false)] a0 a0 fun s51 =>
 mMakeMap fun m52 =>
 j4 (s50, s51, m52, m49)
 ) (
 mMakeMap fun m53 =>
 mMake 4 1 #[(Value.bool false)] a0 a0 fun s54 =>
 j4 (s50, s54, m53, m49)
 )
 ) (
 mBoth (
 mMake 4 1 #[(Value.bool false)] a0 a0 fun s55 =>
 mBoth (
 mMake 55 40 #[(Value.int .i64 0), (Value.int .u64 0), (Value.int .u64 0), (Value.int .i64 0), (Value.int .i64 0)] a0 a0 fun s56 =>
 mMakeMap fun m57 =>
 j4 (s56, s55, m57, m49)
 ) (
 mMakeMap fun m58 =>
 mMake 55 40 #[(Value.int .i64 0), (Value.int .u64 0), (Value.int .u64 0), (Value.int .i64 0), (Value.int .i64 0)] a0 a0 fun s59 =>
 j4 (s59, s55, m58, m49)
 )
 ) (
 mMakeMap fun m60 =>
 mBoth (
 mMake 55 40 #[(Value.int .i64 0), (Value.int .u64 0), (Value.int .u64 0), (Value.int .i64 0), (Value.int .i64 0)] a0 a0 fun s61 =>
 mMake 4 1 #[(Value.bool false)] a0 a0 fun s62 =>
 j4 (s61, s62, m60, m49)
 ) (
 mMake 4 1 #[(Value.bool false)] a0 a0 fun s63 =>
 mMake 55 40 #[(Value.int .i64 0), (Value.int .u64 0), (Value.int .u64 0), (Value.int .i64 0), (Value.int .i64 0)] a0 a0 fun s64 =>
 j4 (s64, s63, m60, m49)
 )
 )
 )
 )
 )
 ))
 )
 )
 )
def x_catalogue_New : Cx Tryd.prog := ⟨tys, [s_slots_New_int, s_kin_New], [], [], mixed⟩
def h_catalogue_New : Hint := (.seq .d (.seq (.seq (.reg (.run [3, 7, 11] (.sel 11 14 28672 (.run [15, 19, 23] .nil) (.run [15, 19, 23] .nil) (.run [27] (.sel 15 18 458752 (.run [31, 35, 39] .nil) (.run [31, 35, 39] .nil) (.run [43] (.sel 19 22 7340032 (.run [47, 51, 55] .nil) (.run [47, 51, 55] .nil) .nil))))))) .d) (.seq .d (.seq .d (.seq .d (.seq .d (.seq (.reg (.run [0, 4, 8, 12, 20] (.join [.slot 44 tSl, .slot 46 tSl, .slot 47 tMap, .slot 48 tMap] 510173395288064 [] (.alt 4 (.alt 6 (.run [30, 34] .nil) (.both 7 8 (.both 6 8 (.run [34] .nil) (.run [27] .nil)) (.both 6 7 (.run [30] .nil) (.run [27] .nil)))) (.alt 6 (.alt 4 (.run [30, 34] .nil) (.both 7 8 (.both 4 8 (.run [34] .nil) (.run [19] .nil)) (.both 4 7 (.run [30] .nil) (.run [19] .nil)))) (.both 7 8 (.alt 4 (.both 6 8 (.run [34] .nil) (.run [27] .nil)) (.both 6 8 (.both 4 8 (.run [34] .nil) (.run [19] .nil)) (.both 4 6 (.run [27] .nil) (.run [19] .nil)))) (.alt 4 (.both 6 7 (.run [30] .nil) (.run [27] .nil)) (.both 6 7 (.both 4 7 (.run [30] .nil) (.run [19] .nil)) (.both 4 6 (.run [27] .nil) (.run [19] .nil))))))) (.run [36, 42, 44, 48] .nil)))) .d)))))))
def s_catalogue_New : Spec Tryd.prog := mkSpec x_catalogue_New 18 Tryd.f18 [(tInt .i64), (tInt .i64)] [tPtr, (tInt .i64)] false h_catalogue_New (fun a => m_catalogue_New a.1 a.2) (fun a K h => by kernel_rfl) callee18 rfl
def m_catalogue_Catalogue_In (a0 : Option Addr) (a1 : Int) (K : (Int) → H → Prop) : H → Prop :=
 mDeref a0 fun ad1 =>
 mLoad cMap (ad1.add 5) fun x2 =>
 mLookup (eqV Tryd.prog 40 3) (Value.int .i64) 0 x2 (Value.int .i64 a1) fun r3 =>
 K r3.1
def x_catalogue_Catalogue_In : Cx Tryd.prog := ⟨tys, [], [], [], mixed⟩
def h_catalogue_Catalogue_In : Hint := .d
def s_catalogue_Catalogue_In : Spec Tryd.prog := mkSpec x_catalogue_Catalogue_In 32 Tryd.f32 [tPtr, (tInt .i64)] [(tInt .i64)] false h_catalogue_Catalogue_In (fun a => m_catalogue_Catalogue_In a.1 a.2) (fun a K h => by kernel_rfl) callee32 rfl
def m_catalogue_Catalogue_free (a0 : Option Addr) (K : (Int) → H → Prop) : H → Prop :=
 mDeref a0 fun ad1 =>
 mLoad cSl (ad1.add 3) fun x2 =>
 mLoop (fun (rec4 : Int → H → Prop) (s3 : Int) =>
 mIf (decide (s3 < (x2.len : Int))) (
 mIdx x2 s3 1 fun ad5 =>
 mLoad cBool ad5 fun x6 =>
 mIf (!x6) (
 K s3
 ) (
 rec4 (iAdd .i64 s3 1)
 )
 ) (
 K (-1)
 )
 ) 0
def x_catalogue_Catalogue_free : Cx Tryd.prog := ⟨tys, [], [], [], mixed⟩
def h_catalogue_Catalogue_free : Hint := (.seq .d (.seq (.seq .d (.blk (.loop [.slot 10 (tInt .i64)] 523292 [] .d))) .d))
def s_catalogue_Catalogue_free : Spec Tryd.prog := mkSpec x_catalogue_Catalogue_free 52 Tryd.f52 [tPtr] [(tInt .i64)] false h_catalogue_Catalogue_free (fun a => m_catalogue_Catalogue_free a) (fun a K h => by kernel_rfl) callee52 rfl
def m_catalogue_Catalogue_put (a0 : Option Addr) (a1 : Int) (a2 : S_api_Token) (K : (Unit) → H → Prop) : H → Prop :=
 mDeref a0 fun ad1 =>
 mLoad cPtr ((ad1.add 0).add 0) fun x2 =>
 m_slots_Table_int_Put x2 a2.Cap a1 fun _ =>
 mDeref a0 fun ad4 =>
 mDeref a0 fun ad5 =>
 mLoad cSl (ad4.add 2) fun x6 =>
 mLoad cSl (ad5.add 3) fun x7 =>
 mIdx x6 a1 5 fun ad8 =>
 mStore ad8 [(Value.int .i64 a2.Cap.Obj), (Value.int .u64 a2.Cap.Pass.Hi), (Value.int .u64 a2.Cap.Pass.Lo), (Value.int .i64 a2.Rights), (Value.int .i64 a2.Parent)] <|
 mIdx x7 a1 1 fun ad9 =>
 mStore ad9 [(Value.bool true)] <|
 mDeref a0 fun ad10 =>
 mLoad cMap (ad10.add 5) fun x11 =>
 mLookup (eqV Tryd.prog 40 3) (Value.int .i64) 0 x11 (Value.int .i64 a2.Cap.Obj) fun r12 =>
 mMapSet (eqV Tryd.prog 40 3) x11 (Value.int .i64 a2.Cap.Obj) (Value.int .i64 (iAdd .i64 r12.1 1)) <|
 K ()
def x_catalogue_Catalogue_put : Cx Tryd.prog := ⟨tys, [s_slots_Table_int_Put], [5], [], mixed⟩
def h_catalogue_Catalogue_put : Hint := (.seq .d (.seq (.reg (.run [0, 4, 8, 12, 20, 28, 25, 18, 35] .nil)) (.seq (.reg (.run [0, 4, 8, 16, 20, 24, 28, 36, 41, 14, 34, 44, 51, 52, 59] .nil)) (.reg (.run [0, 4, 8, 16, 20, 25, 14, 30, 32, 39] .nil)))))
def s_catalogue_Catalogue_put : Spec Tryd.prog := mkSpec x_catalogue_Catalogue_put 55 Tryd.f55 [tPtr, (tInt .i64), S_api_Token.ty] [] false h_catalogue_Catalogue_put (fun a => m_catalogue_Catalogue_put a.1 a.2.1 a.2.2) (fun a K h => by kernel_rfl) callee55 rfl
def m_catalogue_Catalogue_Root (a0 : Option Addr) (a1 : S_api_Cap) (a2 : Int) (K : (Int × Int) → H → Prop) : H → Prop :=
 m_catalogue_Catalogue_free a0 fun r1 =>
 mPure (m_mask_Valid a2) fun r2 =>
 mIf (!r2) (
 K (0, 4)
 ) (
 mDeref a0 fun ad3 =>
 mLoad cMap (ad3.add 5) fun x4 =>
 mLookup (eqV Tryd.prog 40 3) (Value.int .i64) 0 x4 (Value.int .i64 a1.Obj) fun r5 =>
 mIf (decide (0 < r5.1)) (
 K (0, 19)
 ) (
 mIf (decide (r1 < 0)) (
 K (0, 10)
 ) (
 mDeref a0 fun ad6 =>
 mLoad cPtr ((ad6.add 0).add 1) fun x7 =>
 m_kin_Tree_Root x7 r1 fun _ =>
 m_catalogue_Catalogue_put a0 r1 (⟨⟨a1.Obj, ⟨a1.Pass.Hi, a1.Pass.Lo⟩⟩, a2, (-1)⟩ : S_api_Token) fun _ =>
 mDeref a0 fun ad10 =>
 mLoad cMap (ad10.add 4) fun x11 =>
 mMapSet (eqV Tryd.prog 40 3) x11 (Value.int .i64 a1.Obj) (Value.int .i64 r1) <|
 K (r1, 0)
 )
 )
 )
def x_catalogue_Catalogue_Root : Cx Tryd.prog := ⟨tys, [s_catalogue_Catalogue_free, s_mask_Valid, s_kin_Tree_Root, s_catalogue_Catalogue_put], [4], [], mixed⟩
def h_catalogue_Catalogue_Root : Hint := (.seq .d (.seq .d (.seq (.blk (.seq .d (.cond .d (.seq (.reg (.run [0, 4, 8, 16, 21, 14, 26, 28, 32] .nil)) .d)))) (.seq .d (.seq .d (.seq (.reg (.run [0, 4, 8, 16, 24, 21, 14, 31] .nil)) .d))))))
def s_catalogue_Catalogue_Root : Spec Tryd.prog := mkSpec x_catalogue_Catalogue_Root 36 Tryd.f36 [tPtr, S_api_Cap.ty, (tInt .i64)] [(tInt .i64), (tInt .i64)] false h_catalogue_Catalogue_Root (fun a => m_catalogue_Catalogue_Root a.1 a.2.1 a.2.2) (fun a K h => by kernel_rfl) callee36 rfl
def m_catalogue_Catalogue_Find (a0 : Option Addr) (a1 : S_api_Cap) (K : (Int × Bool) → H → Prop) : H → Prop :=
 mDeref a0 fun ad1 =>
 mLoad cPtr ((ad1.add 0).add 0) fun x2 =>
 m_slots_Table_int_Get x2 a1 fun r3 =>
 K (r3.1, r3.2)
def x_catalogue_Catalogue_Find : Cx Tryd.prog := ⟨tys, [s_slots_Table_int_Get], [3], [], mixed⟩
def h_catalogue_Catalogue_Find : Hint := (.seq .d (.seq (.reg (.run [0, 4, 8, 12, 21, 18, 27, 28, 32, 36, 40] .nil)) .d))
def s_catalogue_Catalogue_Find : Spec Tryd.prog := mkSpec x_catalogue_Catalogue_Find 38 Tryd.f38 [tPtr, S_api_Cap.ty] [(tInt .i64), tBool] false h_catalogue_Catalogue_Find (fun a => m_catalogue_Catalogue_Find a.1 a.2) (fun a K h => by kernel_rfl) callee38 rfl
def m_catalogue_Catalogue_At (a0 : Option Addr) (a1 : Int) (K : (S_api_Token × Bool) → H → Prop) : H → Prop :=
 mJoin (fun (s3 : Bool) =>
 mJoin (fun (s9 : Bool) =>
 mIf s9 (
 K ((⟨⟨0, ⟨0, 0⟩⟩, 0, 0⟩ : S_api_Token), false)
 ) (
 mDeref a0 fun ad11 =>
 mLoad cSl (ad11.add 2) fun x12 =>
 mIdx x12 a1 5 fun ad13 =>
 mLoad S_api_Token.cells ad13 fun x14 =>
 K (x14, true)
 )
 ) (fun j10 =>
 mIf s3 (
 j10 true
 ) (
 mDeref a0 fun ad15 =>
 mLoad cSl (ad15.add 3) fun x16 =>
 mIdx x16 a1 1 fun ad17 =>
 mLoad cBool ad17 fun x18 =>
 j10 (!x18)
 ))
 ) (fun j4 =>
 mIf (decide (a1 < 0)) (
 j4 true
 ) (
 mDeref a0 fun ad19 =>
 mLoad cSl (ad19.add 3) fun x20 =>
 j4 (decide ((x20.len : Int) ≤ a1))
 ))
def x_catalogue_Catalogue_At : Cx Tryd.prog := ⟨tys, [], [4], [], mixed⟩
def h_catalogue_Catalogue_At : Hint := (.seq .d (.seq (.seq (.reg (.run [3, 7, 11] (.join [.slot 16 tBool] 130560 [] (.split 8 (.run [15, 19, 23, 27, 31, 35, 39, 43] .nil) (.run [15, 19, 23, 27, 31, 35, 39, 43] .nil)) (.run [47] (.join [.slot 26 tBool] 133955584 [] (.split 17 (.run [51, 55, 59, 63, 67, 71, 75, 79, 83] .nil) (.run [51, 55, 59, 63, 67, 71, 75, 79, 83] .nil)) .nil))))) .d) .d))
def s_catalogue_Catalogue_At : Spec Tryd.prog := mkSpec x_catalogue_Catalogue_At 39 Tryd.f39 [tPtr, (tInt .i64)] [S_api_Token.ty, tBool] false h_catalogue_Catalogue_At (fun a => m_catalogue_Catalogue_At a.1 a.2) (fun a K h => by kernel_rfl) callee39 rfl
def m_catalogue_Catalogue_Child (a0 : Option Addr) (a1 : Int) (a2 : S_api_Cap) (a3 : Int) (K : (Int × Int) → H → Prop) : H → Prop :=
 m_catalogue_Catalogue_At a0 a1 fun r1 =>
 mIf (!r1.2) (
 K (0, 20)
 ) (
 mDeref a0 fun ad2 =>
 mLoad cPtr ((ad2.add 0).add 0) fun x3 =>
 m_slots_Table_int_Get x3 a2 fun r4 =>
 m_catalogue_Catalogue_free a0 fun r5 =>
 mIf (!decide (r1.1.Cap.Obj = a2.Obj)) (
 K (0, 3)
 ) (
 mPure (m_mask_Part a3 r1.1.Rights) fun r6 =>
 mIf (!r6) (
 K (0, 4)
 ) (
 mIf r4.2 (
 K (0, 19)
 ) (
 mIf (decide (r5 < 0)) (
 K (0, 10)
 ) (
 mDeref a0 fun ad7 =>
 mLoad cPtr ((ad7.add 0).add 1) fun x8 =>
 m_kin_Tree_Child x8 a1 r5 fun _ =>
 m_catalogue_Catalogue_put a0 r5 (⟨⟨a2.Obj, ⟨a2.Pass.Hi, a2.Pass.Lo⟩⟩, a3, a1⟩ : S_api_Token) fun _ =>
 K (r5, 0)
 )
 )
 )
 )
 )
def x_catalogue_Catalogue_Child : Cx Tryd.prog := ⟨tys, [s_catalogue_Catalogue_At, s_mask_Part, s_catalogue_Catalogue_free, s_catalogue_Catalogue_put, s_slots_Table_int_Get, s_kin_Tree_Child], [6, 10], [], mixed⟩
def h_catalogue_Catalogue_Child : Hint := (.seq .d (.seq .d (.seq .d (.seq (.reg (.run [0, 4, 8, 12, 21, 18, 27, 28, 32, 36, 40, 44] .nil)) .d))))
def s_catalogue_Catalogue_Child : Spec Tryd.prog := mkSpec x_catalogue_Catalogue_Child 43 Tryd.f43 [tPtr, (tInt .i64), S_api_Cap.ty, (tInt .i64)] [(tInt .i64), (tInt .i64)] false h_catalogue_Catalogue_Child (fun a => m_catalogue_Catalogue_Child a.1 a.2.1 a.2.2.1 a.2.2.2) (fun a K h => by kernel_rfl) callee43 rfl
end Go.Proofs.YtdleanjofhghnaaDoor.K
namespace Go.Proofs.YtdleanjofhghnaaDoor.K
open Go
abbrev En := Option (S_api_Token × List Int)
def ndOf : En → Nd
  | none => nd0
  | some (t, ks) => ⟨true, t.Parent, ks⟩
def nds (es : List En) : List Nd := es.map ndOf
abbrev Has (es : List En) (i : Nat) (t : S_api_Token) (ks : List Int) : Prop := es[i]? = some (some (t, ks))
structure CWF (es : List En) : Prop where
  len : 1 ≤ es.length ∧ es.length ≤ 256
  nd : ∀ i t ks, Has es i t ks → ks.Nodup
  down : ∀ i t ks, Has es i t ks → ∀ k ∈ ks, ∃ (j : Nat) (u : S_api_Token) (us : List Int), k = j ∧ Has es j u us ∧ u.Parent = i
  up : ∀ j u us, Has es j u us → u.Parent = -1 ∨ ∃ (i : Nat) (t : S_api_Token) (ks : List Int), u.Parent = i ∧ Has es i t ks ∧ (j : Int) ∈ ks ∧ t.Cap.Obj = u.Cap.Obj ∧ partOf u.Rights t.Rights = true
  rank : ∃ (w : Nat → Nat) (B : Nat), ∀ j u us, Has es j u us → w j ≤ B ∧ ∀ i : Nat, u.Parent = i → w i < w j
  cap : ∀ i j t ks u us, Has es i t ks → Has es j u us → t.Cap = u.Cap → i = j
  one : ∀ i j t ks u us, Has es i t ks → Has es j u us → t.Parent = -1 → u.Parent = -1 → t.Cap.Obj = u.Cap.Obj → i = j
  right : ∀ i t ks, Has es i t ks → 1 ≤ t.Rights ∧ t.Rights ≤ 31
theorem Has.lt {es : List En} {i : Nat} {t ks} (x : Has es i t ks) : i < es.length := lt_of_get x
theorem Has.uniq {es : List En} {i : Nat} {t ks u us} (x : Has es i t ks) (y : Has es i u us) : t = u ∧ ks = us := by
  have := x.symm.trans y
  simpa using this
theorem nds_get {es : List En} {i : Nat} {t ks} (x : Has es i t ks) : (nds es)[i]? = some ⟨true, t.Parent, ks⟩ := by
  unfold nds
  rw [List.getElem?_map, x]; rfl
theorem nds_len (es : List En) : (nds es).length = es.length := List.length_map ..
theorem hasN_nds {es : List En} {z : Int} : hasN (nds es) z = true ↔ ∃ (i : Nat) (t : S_api_Token) (ks : List Int), z = i ∧ Has es i t ks := by
  constructor
  · intro x
    obtain ⟨i, d, rfl, hd, ht, _⟩ := hasN_nat x
    unfold nds at hd
    rw [List.getElem?_map] at hd
    cases e : es[i]? with
    | none => rw [e] at hd; cases hd
    | some o =>
      cases o with
      | none => rw [e] at hd; cases hd; cases ht
      | some p => obtain ⟨t, ks⟩ := p; exact ⟨i, t, ks, rfl, e⟩
  · rintro ⟨i, t, ks, rfl, x⟩
    exact hasN_iff.2 ⟨_, nds_get x, rfl⟩
theorem chN_mem {es : List En} {z k : Int} (x : k ∈ chN (nds es) z) : ∃ (i : Nat) (t : S_api_Token) (ks : List Int), z = i ∧ Has es i t ks ∧ k ∈ ks := by
  by_cases h0 : 0 ≤ z
  · obtain ⟨i, rfl⟩ : ∃ i : Nat, z = i := ⟨z.toNat, by omega⟩
    rw [chN_nat] at x
    unfold nds at x
    rw [List.getElem?_map] at x
    cases e : es[i]? with
    | none => rw [e] at x; cases x
    | some o =>
      cases o with
      | none => rw [e] at x; cases x
      | some p => obtain ⟨t, ks⟩ := p; rw [e] at x; exact ⟨i, t, ks, rfl, e, x⟩
  · unfold chN at x
    rw [if_neg h0] at x; cases x
theorem nodup_le : ∀ (n : Nat) (l : List Int), l.Nodup → (∀ z ∈ l, ∃ i : Nat, i < n ∧ z = i) → l.length ≤ n := by
  intro n
  induction n with
  | zero =>
    intro l _ h
    cases l with
    | nil => exact Nat.le_refl _
    | cons a r => obtain ⟨i, hi, _⟩ := h a (List.mem_cons_self ..); omega
  | succ n ih =>
    intro l hn h
    have := ih (l.erase (n : Int)) (hn.erase _) fun z hz => by
      obtain ⟨q1, q2⟩ := (List.Nodup.mem_erase_iff hn).1 hz
      obtain ⟨i, hi, rfl⟩ := h z q2
      exact ⟨i, by omega, rfl⟩
    rw [List.length_erase] at this
    split at this <;> omega
def capsG : Nat → List En → List (S_api_Cap × Int)
  | _, [] => []
  | k, none :: r => capsG (k + 1) r
  | k, some (t, _) :: r => (t.Cap, (k : Int)) :: capsG (k + 1) r
theorem capsG_mem {c : S_api_Cap} {v : Int} : ∀ {es : List En} {k : Nat}, (c, v) ∈ capsG k es ↔ ∃ (i : Nat) (t : S_api_Token) (ks : List Int), Has es i t ks ∧ t.Cap = c ∧ v = ((k + i : Nat) : Int) := by
  intro es
  induction es with
  | nil =>
    intro k
    constructor
    · intro h; cases h
    · rintro ⟨i, t, ks, h, _⟩; cases h
  | cons e r ih =>
    intro k
    cases e with
    | none =>
      rw [capsG, ih]
      constructor
      · rintro ⟨i, t, ks, a, b, c⟩; exact ⟨i + 1, t, ks, a, b, by omega⟩
      · rintro ⟨i, t, ks, a, b, c⟩
        cases i with
        | zero => cases a
        | succ i => exact ⟨i, t, ks, a, b, by omega⟩
    | some p =>
      obtain ⟨u, us⟩ := p
      rw [capsG, List.mem_cons, ih]
      constructor
      · rintro (a | ⟨i, t, ks, a, b, c⟩)
        · cases a; exact ⟨0, u, us, rfl, rfl, by simp⟩
        · exact ⟨i + 1, t, ks, a, b, by omega⟩
      · rintro ⟨i, t, ks, a, b, c⟩
        cases i with
        | zero =>
          have a : some (some (u, us)) = some (some (t, ks)) := a
          cases a; left; rw [b, c]; simp
        | succ i => exact .inr ⟨i, t, ks, a, b, by omega⟩
theorem capsG_new {t : S_api_Token} {ks : List Int} : ∀ {es : List En} {i k : Nat}, es[i]? = some none → (capsG k (es.set i (some (t, ks)))).Perm ((t.Cap, ((k + i : Nat) : Int)) :: capsG k es) := by
  intro es
  induction es with
  | nil => intro i k h; cases h
  | cons e r ih =>
    intro i k h
    cases i with
    | zero => cases h; exact .refl _
    | succ i =>
      have h : r[i]? = some none := h
      have := ih (k := k + 1) h
      rw [List.set_cons_succ]
      rw [show k + 1 + i = k + (i + 1) by omega] at this
      cases e with
      | none => exact this
      | some p =>
        obtain ⟨u, us⟩ := p
        exact (this.cons _).trans (.swap ..)
theorem capsG_congr : ∀ {es es' : List En} {k : Nat}, es.map (Option.map Prod.fst) = es'.map (Option.map Prod.fst) → capsG k es = capsG k es' := by
  intro es
  induction es with
  | nil =>
    intro es' k h
    cases es' with
    | nil => rfl
    | cons a r => cases h
  | cons e r ih =>
    intro es' k h
    cases es' with
    | nil => cases h
    | cons e' r' =>
      rw [List.map_cons, List.map_cons, List.cons.injEq] at h
      have := ih (k := k + 1) h.2
      cases e with
      | none =>
        cases e' with
        | none => exact this
        | some p => cases h.1
      | some p =>
        cases e' with
        | none => cases h.1
        | some p' =>
          obtain ⟨u, us⟩ := p; obtain ⟨u', us'⟩ := p'
          have h1 : some u = some u' := h.1
          cases h1
          rw [capsG, capsG, this]
def cnt (es : List En) (o : Int) : Nat := (capsG 0 es).countP fun p => decide (p.1.Obj = o)
theorem cnt_le (es : List En) (o : Int) : cnt es o ≤ es.length := by
  have h : ∀ (es : List En) (k : Nat), (capsG k es).length ≤ es.length := by
    intro es
    induction es with
    | nil => exact fun _ => Nat.le_refl _
    | cons e r ih =>
      intro k
      have := ih (k + 1)
      cases e with
      | none => rw [capsG]; simp only [List.length_cons]; omega
      | some p => obtain ⟨u, us⟩ := p; rw [capsG]; simp only [List.length_cons]; omega
  exact Nat.le_trans List.countP_le_length (h es 0)
theorem cnt_pos {es : List En} {o : Int} : 0 < cnt es o ↔ ∃ (i : Nat) (t : S_api_Token) (ks : List Int), Has es i t ks ∧ t.Cap.Obj = o := by
  unfold cnt
  rw [List.countP_pos_iff]
  constructor
  · rintro ⟨⟨c, v⟩, hm, e⟩
    obtain ⟨i, t, ks, a, b, _⟩ := capsG_mem.1 hm
    exact ⟨i, t, ks, a, by rw [b]; simpa using e⟩
  · rintro ⟨i, t, ks, a, b⟩
    exact ⟨(t.Cap, ((0 + i : Nat) : Int)), capsG_mem.2 ⟨i, t, ks, a, rfl, rfl⟩, by simpa using b⟩
theorem CWF.empty {n : Nat} (h1 : 1 ≤ n) (h2 : n ≤ 256) : CWF (List.replicate n none) := by
  have no : ∀ {i t ks}, ¬ Has (List.replicate n none) i t ks := fun h => by
    have := List.eq_of_mem_replicate (List.mem_of_getElem? h)
    cases this
  exact ⟨by rw [List.length_replicate]; exact ⟨h1, h2⟩, fun _ _ _ h => (no h).elim, fun _ _ _ h => (no h).elim, fun _ _ _ h => (no h).elim, ⟨fun _ => 0, 0, fun _ _ _ h => (no h).elim⟩, fun _ _ _ _ _ _ h => (no h).elim, fun _ _ _ _ _ _ h => (no h).elim, fun _ _ _ h => (no h).elim⟩
def rootE (es : List En) (n : Nat) (t : S_api_Token) : List En := es.set n (some (t, []))
def childE (es : List En) (q n : Nat) (t : S_api_Token) : List En := match es[q]? with
  | some (some (u, us)) => (es.set n (some (t, []))).set q (some (u, us ++ [(n : Int)]))
  | _ => es
theorem CWF.parent {es : List En} (w : CWF es) {n : Nat} (hn : es[n]? = some none) {j u us} (h : Has es j u us) : u.Parent ≠ n := fun e => by
  rcases w.up j u us h with q | ⟨i, t, ks, q, hi, _⟩
  · omega
  · obtain rfl : i = n := by omega
    unfold Has at hi; rw [hn] at hi; cases hi
theorem CWF.kid {es : List En} (w : CWF es) {n : Nat} (hn : es[n]? = some none) {j u us} (h : Has es j u us) : (n : Int) ∉ us := fun e => by
  obtain ⟨i, t, ks, q, hi, _⟩ := w.down j u us h _ e
  obtain rfl : n = i := by omega
  unfold Has at hi; rw [hn] at hi; cases hi
theorem has_set {es : List En} {n : Nat} (hn : n < es.length) {e : En} {i : Nat} {t ks} : Has (es.set n e) i t ks ↔ (i = n ∧ e = some (t, ks)) ∨ (i ≠ n ∧ Has es i t ks) := by
  unfold Has
  rw [List.getElem?_set]
  by_cases q : n = i
  · subst q
    rw [if_pos rfl, if_pos hn]
    constructor
    · intro h; cases h; exact .inl ⟨rfl, rfl⟩
    · rintro (⟨_, h⟩ | ⟨h, _⟩)
      · rw [h]
      · exact absurd rfl h
  · rw [if_neg q]
    constructor
    · intro h; exact .inr ⟨fun z => q z.symm, h⟩
    · rintro (⟨h, _⟩ | ⟨_, h⟩)
      · exact absurd h.symm q
      · exact h
theorem CWF.root {es : List En} (w : CWF es) {n : Nat} (hn : es[n]? = some none) {c : S_api_Cap} {r : Int} (hr : 1 ≤ r ∧ r ≤ 31) (h0 : cnt es c.Obj = 0) : CWF (rootE es n ⟨c, r, -1⟩) := by
  have hlt := lt_of_get hn
  have no : ∀ {i t ks}, Has es i t ks → t.Cap.Obj ≠ c.Obj := fun h e => by
    have := cnt_pos.2 ⟨_, _, _, h, e⟩
    omega
  have neN : ∀ {i t ks}, Has es i t ks → i ≠ n := fun h e => by subst e; unfold Has at h; rw [hn] at h; cases h
  refine ⟨by unfold rootE; rw [List.length_set]; exact w.len, fun i t ks h => ?_, fun i t ks h k hk => ?_, fun j u us h => ?_, ?_, fun i j t ks u us a b e => ?_, fun i j t ks u us a b e e' e'' => ?_, fun i t ks h => ?_⟩
  · rcases (has_set hlt).1 h with ⟨rfl, q⟩ | ⟨_, h⟩
    · cases q; exact List.nodup_nil
    · exact w.nd i t ks h
  · rcases (has_set hlt).1 h with ⟨rfl, q⟩ | ⟨_, h⟩
    · cases q; cases hk
    · obtain ⟨j, u, us, a, b, c⟩ := w.down i t ks h k hk
      exact ⟨j, u, us, a, (has_set hlt).2 (.inr ⟨neN b, b⟩), c⟩
  · rcases (has_set hlt).1 h with ⟨rfl, q⟩ | ⟨_, h⟩
    · cases q; exact .inl rfl
    · rcases w.up j u us h with q | ⟨i, t, ks, q, hi, z⟩
      · exact .inl q
      · exact .inr ⟨i, t, ks, q, (has_set hlt).2 (.inr ⟨neN hi, hi⟩), z⟩
  · obtain ⟨wt, B, hw⟩ := w.rank
    refine ⟨fun i => if i = n then 0 else wt i, B, fun j u us h => ?_⟩
    rcases (has_set hlt).1 h with ⟨rfl, q⟩ | ⟨hne, h⟩
    · cases q
      exact ⟨by dsimp only; rw [if_pos rfl]; omega, fun i e => by have e : (-1 : Int) = i := e; omega⟩
    · obtain ⟨a, b⟩ := hw j u us h
      refine ⟨by dsimp only; rw [if_neg hne]; exact a, fun i e => ?_⟩
      dsimp only
      rw [if_neg (fun q : i = n => w.parent hn h (q ▸ e)), if_neg hne]
      exact b i e
  · rcases (has_set hlt).1 a with ⟨rfl, q⟩ | ⟨_, a'⟩
    · cases q
      rcases (has_set hlt).1 b with ⟨rfl, _⟩ | ⟨_, b'⟩
      · rfl
      · exact absurd (by rw [← e]) (no b')
    · rcases (has_set hlt).1 b with ⟨rfl, q⟩ | ⟨_, b'⟩
      · cases q; exact absurd (by rw [e]) (no a')
      · exact w.cap i j t ks u us a' b' e
  · rcases (has_set hlt).1 a with ⟨rfl, q⟩ | ⟨_, a'⟩
    · cases q
      rcases (has_set hlt).1 b with ⟨rfl, _⟩ | ⟨_, b'⟩
      · rfl
      · exact absurd e''.symm (no b')
    · rcases (has_set hlt).1 b with ⟨rfl, q⟩ | ⟨_, b'⟩
      · cases q; exact absurd e'' (no a')
      · exact w.one i j t ks u us a' b' e e' e''
  · rcases (has_set hlt).1 h with ⟨rfl, q⟩ | ⟨_, h⟩
    · cases q; exact hr
    · exact w.right i t ks h
theorem nds_root {es : List En} {n : Nat} {c : S_api_Cap} {r : Int} : nds (rootE es n ⟨c, r, -1⟩) = rootN (nds es) n := by
  unfold nds rootE rootN
  rw [List.map_set]; rfl
theorem has_child {es : List En} {q n : Nat} {t : S_api_Token} {u us} (hq : Has es q u us) (hn : es[n]? = some none) {i : Nat} {v vs} : Has (childE es q n t) i v vs ↔ (i = n ∧ v = t ∧ vs = []) ∨ (i = q ∧ v = u ∧ vs = us ++ [(n : Int)]) ∨ (i ≠ n ∧ i ≠ q ∧ Has es i v vs) := by
  have hlt := lt_of_get hn
  have hne : n ≠ q := fun e => by subst e; unfold Has at hq; rw [hn] at hq; cases hq
  have e0 : childE es q n t = (es.set n (some (t, []))).set q (some (u, us ++ [(n : Int)])) := by unfold childE; rw [hq]
  rw [e0, has_set (by rw [List.length_set]; exact hq.lt), has_set hlt]
  constructor
  · rintro (⟨a, b⟩ | ⟨a, ⟨b, c⟩ | ⟨b, c⟩⟩)
    · cases b; exact .inr (.inl ⟨a, rfl, rfl⟩)
    · cases c; exact .inl ⟨b, rfl, rfl⟩
    · exact .inr (.inr ⟨b, a, c⟩)
  · rintro (⟨a, b, c⟩ | ⟨a, b, c⟩ | ⟨a, b, c⟩)
    · subst a b c; exact .inr ⟨hne, .inl ⟨rfl, rfl⟩⟩
    · subst a b c; exact .inl ⟨rfl, rfl⟩
    · exact .inr ⟨b, .inr ⟨a, c⟩⟩
theorem CWF.child {es : List En} (w : CWF es) {q n : Nat} {u us} (hq : Has es q u us) (hn : es[n]? = some none) {c : S_api_Cap} {r : Int} (ho : u.Cap.Obj = c.Obj) (hp : partOf r u.Rights = true) (hr : 1 ≤ r ∧ r ≤ 31) (h0 : ∀ i t ks, Has es i t ks → t.Cap ≠ c) : CWF (childE es q n ⟨c, r, q⟩) := by
  have H := fun {i v vs} => has_child (t := ⟨c, r, q⟩) (i := i) (v := v) (vs := vs) hq hn
  have neN : ∀ {i t ks}, Has es i t ks → i ≠ n := fun h e => by subst e; unfold Has at h; rw [hn] at h; cases h
  have hqn : q ≠ n := neN hq
  have old : ∀ {i v vs}, Has es i v vs → ∃ vs', Has (childE es q n ⟨c, r, q⟩) i v vs' ∧ (∀ k ∈ vs, k ∈ vs') := fun {i v vs} h => by
    by_cases e : i = q
    · subst e
      obtain ⟨rfl, rfl⟩ := hq.uniq h
      exact ⟨_, H.2 (.inr (.inl ⟨rfl, rfl, rfl⟩)), fun k hk => List.mem_append_left _ hk⟩
    · exact ⟨vs, H.2 (.inr (.inr ⟨neN h, e, h⟩)), fun k hk => hk⟩
  have back : ∀ {i v vs}, Has (childE es q n ⟨c, r, q⟩) i v vs → i ≠ n → ∃ vs', Has es i v vs' := fun {i v vs} h e => by
    rcases H.1 h with ⟨a, _⟩ | ⟨rfl, rfl, _⟩ | ⟨_, _, h⟩
    · exact absurd a e
    · exact ⟨_, hq⟩
    · exact ⟨_, h⟩
  have newc : ∀ {i v vs}, Has (childE es q n ⟨c, r, q⟩) i v vs → i = n → v = ⟨c, r, q⟩ := fun {i v vs} h e => by
    rcases H.1 h with ⟨_, a, _⟩ | ⟨a, _, _⟩ | ⟨a, _, _⟩
    · exact a
    · exact absurd (a.symm.trans e) hqn
    · exact absurd e a
  refine ⟨?_, fun i t ks h => ?_, fun i t ks h k hk => ?_, fun j v vs h => ?_, ?_, fun i j t ks v vs a b e => ?_, fun i j t ks v vs a b e e' e'' => ?_, fun i t ks h => ?_⟩
  · unfold childE; rw [hq]; simp only [List.length_set]; exact w.len
  · rcases H.1 h with ⟨_, _, rfl⟩ | ⟨rfl, rfl, rfl⟩ | ⟨_, _, h⟩
    · exact List.nodup_nil
    · rw [List.nodup_append]
      refine ⟨w.nd _ _ _ hq, by simp, fun a ha b hb e => ?_⟩
      obtain rfl := List.mem_singleton.1 hb
      subst e
      exact w.kid hn hq ha
    · exact w.nd i t ks h
  · have lift : ∀ {k : Int} {i : Nat} {t ks}, Has es i t ks → k ∈ ks → ∃ (j : Nat) (u : S_api_Token) (us : List Int), k = j ∧ Has (childE es q n ⟨c, r, q⟩) j u us ∧ u.Parent = i := fun hi hk => by
      obtain ⟨j, v, vs, a, b, c⟩ := w.down _ _ _ hi _ hk
      obtain ⟨vs', b', _⟩ := old b
      exact ⟨j, v, vs', a, b', c⟩
    rcases H.1 h with ⟨_, _, rfl⟩ | ⟨rfl, rfl, rfl⟩ | ⟨_, _, h⟩
    · cases hk
    · rcases List.mem_append.1 hk with hk | hk
      · exact lift hq hk
      · obtain rfl := List.mem_singleton.1 hk
        exact ⟨n, _, _, rfl, H.2 (.inl ⟨rfl, rfl, rfl⟩), rfl⟩
    · exact lift h hk
  · by_cases e : j = n
    · have := newc h e
      subst this; subst e
      refine .inr ⟨q, u, us ++ [(j : Int)], rfl, H.2 (.inr (.inl ⟨rfl, rfl, rfl⟩)), ?_, ho, hp⟩
      simp
    · obtain ⟨vs', h⟩ := back h e
      rcases w.up j v vs' h with z | ⟨i, t, ks, z, hi, m, z'⟩
      · exact .inl z
      · obtain ⟨ks', hi', sub⟩ := old hi
        exact .inr ⟨i, t, ks', z, hi', sub _ m, z'⟩
  · obtain ⟨wt, B, hw⟩ := w.rank
    refine ⟨fun i => if i = n then wt q + 1 else wt i, B + 1, fun j v vs h => ?_⟩
    by_cases e : j = n
    · have := newc h e
      subst this; subst e
      refine ⟨by dsimp only; rw [if_pos rfl]; have := (hw q u us hq).1; omega, fun i e => ?_⟩
      dsimp only
      have e : (q : Int) = i := e
      obtain rfl : q = i := by omega
      rw [if_neg hqn, if_pos rfl]; omega
    · obtain ⟨vs', h⟩ := back h e
      obtain ⟨a, b⟩ := hw j v vs' h
      refine ⟨by dsimp only; rw [if_neg e]; omega, fun i z => ?_⟩
      dsimp only
      rw [if_neg (fun q : i = n => w.parent hn h (q ▸ z)), if_neg e]
      exact b i z
  · by_cases e1 : i = n
    · by_cases e2 : j = n
      · omega
      · obtain ⟨vs', b⟩ := back b e2
        have := newc a e1
        subst this
        exact absurd e.symm (h0 _ _ _ b)
    · obtain ⟨ks', a⟩ := back a e1
      by_cases e2 : j = n
      · have := newc b e2
        subst this
        exact absurd e (h0 _ _ _ a)
      · obtain ⟨vs', b⟩ := back b e2
        exact w.cap _ _ _ _ _ _ a b e
  · by_cases e1 : i = n
    · have := newc a e1
      subst this
      have e : (q : Int) = -1 := e
      omega
    · obtain ⟨ks', a⟩ := back a e1
      by_cases e2 : j = n
      · have := newc b e2
        subst this
        have e' : (q : Int) = -1 := e'
        omega
      · obtain ⟨vs', b⟩ := back b e2
        exact w.one _ _ _ _ _ _ a b e e' e''
  · by_cases e : i = n
    · have := newc h e
      subst this; exact hr
    · obtain ⟨ks', h⟩ := back h e
      exact w.right _ _ _ h
theorem nds_child {es : List En} {q n : Nat} {t : S_api_Token} (ht : t.Parent = q) {u us} (hq : Has es q u us) : nds (childE es q n t) = childN (nds es) q n := by
  unfold childN
  rw [nds_get hq]
  unfold childE
  rw [hq]
  simp only [nds]
  rw [List.map_set, List.map_set]
  show ((es.map ndOf).set n ⟨true, t.Parent, []⟩).set q ⟨true, u.Parent, us ++ [(n : Int)]⟩ = _
  rw [ht]
theorem CWF.kids_le {es : List En} (w : CWF es) {i t ks} (h : Has es i t ks) : ks.length ≤ es.length := by
  refine nodup_le _ _ (w.nd _ _ _ h) fun z hz => ?_
  obtain ⟨j, u, us, rfl, hj, _⟩ := w.down _ _ _ h _ hz
  exact ⟨j, hj.lt, rfl⟩
theorem keyN {t : TypeId} (hu : Tryd.prog.underlying t = some (.int .i64)) : KeyEq (eqV Tryd.prog 40 t) (Value.int .i64) := fun a b => by
  show eqV Tryd.prog (39 + 1) t _ _ = _
  rw [eqV.eq_2, hu]
  rfl
theorem keyNi : KeyEq (eqV Tryd.prog 40 3) (Value.int .i64) := keyN (by kernel_rfl)
structure CL where
  tp : Nat
  ts : Sl
  kp : Nat
  ks : Sl
  F : Nat → Prop
  tk : Sl
  us : Sl
  rb : Nat
  cb : Nat
def CL.obj (L : CL) : S_catalogue_Catalogue := ⟨⟨some ⟨L.tp, 0, none⟩, some ⟨L.kp, 0, none⟩⟩, L.tk, L.us, some L.rb, some L.cb⟩
abbrev cTok := S_api_Token.cells
theorem tok_len : ∀ x, (cTok x).length = 5 := fun _ => rfl
structure CatRaw (h : H) (p : Nat) (L : CL) (most knob : Int) (l : List (S_api_Cap × Int)) (ns : List Nd) (ts : List S_api_Token) (us : List Bool) (lr lc : List (Int × Int)) : Prop where
  cell : h p = some (.cells (S_catalogue_Catalogue.cells L.obj).toArray N_catalogue_Catalogue (0, 0))
  tab : Tab h L.tp L.ts most knob l
  tree : Tree h L.kp L.ks L.F ns
  tok : Buf cTok 5 N_api_Token h L.tk ts
  use : Buf cBool 1 4 h L.us us
  roots : MapOf (Value.int .i64) (Value.int .i64) h L.rb lr
  count : MapOf (Value.int .i64) (Value.int .i64) h L.cb lc
  ne : L.rb ≠ L.cb
def comp (p : Nat) (L : CL) : Nat → Nat → Prop
  | 0, c => c = p
  | 1, c => c = L.tp ∨ L.ts.foot c
  | 2, c => L.F c
  | 3, c => L.tk.foot c
  | 4, c => L.us.foot c
  | 5, c => c = L.rb
  | 6, c => c = L.cb
  | _, _ => False
def CFoot (p : Nat) (L : CL) (c : Nat) : Prop := ∃ i, i < 7 ∧ comp p L i c
def ctys : Nat → List TypeId
  | 0 => [N_catalogue_Catalogue]
  | 1 => [N_slots_Table_int, N_slots_place_int]
  | 2 => [N_kin_Tree, N_kin_node, N_int]
  | 3 => [N_api_Token]
  | 4 => [4]
  | _ => []
section
variable {h : H} {p : Nat} {L : CL} {most knob : Int} {l : List (S_api_Cap × Int)} {ns : List Nd} {ts : List S_api_Token} {us : List Bool} {lr lc : List (Int × Int)}
theorem CatRaw.kind (x : CatRaw h p L most knob l ns ts us lr lc) {i c : Nat} (hi : i < 5) (hc : comp p L i c) : ∃ e, e ∈ ctys i ∧ Typed h e c := by
  match i, hi, hc with
  | 0, _, hc => exact ⟨_, List.mem_singleton_self _, by cases hc; exact Typed.of x.cell⟩
  | 1, _, hc =>
    rcases x.tab.typed hc with q | q
    · exact ⟨_, List.mem_cons_self .., q⟩
    · exact ⟨_, List.mem_cons_of_mem _ (List.mem_cons_self ..), q⟩
  | 2, _, hc =>
    rcases x.tree.typed hc with q | q | q
    · exact ⟨_, List.mem_cons_self .., q⟩
    · exact ⟨_, List.mem_cons_of_mem _ (List.mem_cons_self ..), q⟩
    · exact ⟨_, List.mem_cons_of_mem _ (List.mem_cons_of_mem _ (List.mem_cons_self ..)), q⟩
  | 3, _, hc => exact ⟨_, List.mem_singleton_self _, x.tok.typed hc⟩
  | 4, _, hc => exact ⟨_, List.mem_singleton_self _, x.use.typed hc⟩
theorem ctys_apart : ∀ i, i < 5 → ∀ j, j < 5 → i ≠ j → ∀ e ∈ ctys i, ∀ e' ∈ ctys j, (e : Nat) ≠ e' := by decide
theorem CatRaw.excl (x : CatRaw h p L most knob l ns ts us lr lc) {i j c : Nat} (hi : comp p L i c) (hj : comp p L j c) : i = j := by
  have bnd : ∀ {i}, comp p L i c → i < 7 := fun {i} q => by
    match i, q with
    | 0, _ => omega
    | 1, _ => omega
    | 2, _ => omega
    | 3, _ => omega
    | 4, _ => omega
    | 5, _ => omega
    | 6, _ => omega
    | _ + 7, q => exact q.elim
  have b1 := bnd hi
  have b2 := bnd hj
  have low : ∀ {i j}, i < 5 → 5 ≤ j → j < 7 → comp p L i c → comp p L j c → False := fun {i j} a b b' q r => by
    obtain ⟨e, _, t⟩ := x.kind a q
    rcases (by omega : j = 5 ∨ j = 6) with rfl | rfl
    · exact x.roots.untyped t r
    · exact x.count.untyped t r
  rcases Nat.lt_or_ge i 5 with q1 | q1
  · rcases Nat.lt_or_ge j 5 with q2 | q2
    · rcases Nat.decEq i j with n | n
      · obtain ⟨e, he, t⟩ := x.kind q1 hi
        obtain ⟨e', he', t'⟩ := x.kind q2 hj
        exact absurd rfl (t.ne t' (ctys_apart i q1 j q2 n e he e' he'))
      · exact n
    · exact (low q1 q2 b2 hi hj).elim
  · rcases Nat.lt_or_ge j 5 with q2 | q2
    · exact (low q2 q1 b1 hj hi).elim
    · rcases (by omega : i = 5 ∨ i = 6) with rfl | rfl <;> rcases (by omega : j = 5 ∨ j = 6) with rfl | rfl
      · rfl
      · exact absurd (hi.symm.trans hj) x.ne
      · exact absurd (hj.symm.trans hi) x.ne
      · rfl
theorem CatRaw.keep {h' : H} (x : CatRaw h p L most knob l ns ts us lr lc) (k : Keeps h h') : CatRaw h' p L most knob l ns ts us lr lc := ⟨k _ _ x.cell, x.tab.keep k, x.tree.keep k, x.tok.keep k, x.use.keep k, x.roots.keep k, x.count.keep k, x.ne⟩
theorem CatRaw.but {h' : H} {E : Nat → Prop} (x : CatRaw h p L most knob l ns ts us lr lc) (k : But E h h') (f : ∀ c, E c → ¬ CFoot p L c) : CatRaw h' p L most knob l ns ts us lr lc :=
  ⟨k _ _ x.cell fun q => f _ q ⟨0, by omega, rfl⟩, x.tab.but k fun c q => ⟨fun r => f _ q ⟨1, by omega, .inl r⟩, fun r => f _ q ⟨1, by omega, .inr r⟩⟩, x.tree.but k fun c q r => f _ q ⟨2, by omega, r⟩, x.tok.but k fun a ha q => f _ q ⟨3, by omega, ⟨a, ha, rfl⟩⟩, x.use.but k fun a ha q => f _ q ⟨4, by omega, ⟨a, ha, rfl⟩⟩, x.roots.but k fun q => f _ q ⟨5, by omega, rfl⟩, x.count.but k fun q => f _ q ⟨6, by omega, rfl⟩, x.ne⟩
theorem CatRaw.has (x : CatRaw h p L most knob l ns ts us lr lc) {c : Nat} (f : CFoot p L c) : h c ≠ none := by
  obtain ⟨i, hi, hc⟩ := f
  rcases Nat.lt_or_ge i 5 with q | q
  · obtain ⟨e, _, t⟩ := x.kind q hc
    exact t.has
  · rcases (by omega : i = 5 ∨ i = 6) with rfl | rfl
    · obtain ⟨es, cl, e, _⟩ := x.roots.ex
      cases hc; rw [e]; exact fun q => by cases q
    · obtain ⟨es, cl, e, _⟩ := x.count.ex
      cases hc; rw [e]; exact fun q => by cases q
section
variable {h' : H} {E : Nat → Prop}
theorem CatRaw.setTab (x : CatRaw h p L most knob l ns ts us lr lc) (k : But E h h') (hE : ∀ c, E c → comp p L 1 c) {l' : List (S_api_Cap × Int)} (t : Tab h' L.tp L.ts most knob l') : CatRaw h' p L most knob l' ns ts us lr lc := by
  have no : ∀ {j c}, j ≠ 1 → comp p L j c → ¬ E c := fun hj hc e => hj (x.excl hc (hE _ e))
  exact ⟨k _ _ x.cell (no (j := 0) (by decide) rfl), t, x.tree.but k fun c q r => no (j := 2) (by decide) r q, x.tok.but k fun a ha => no (j := 3) (by decide) ⟨a, ha, rfl⟩, x.use.but k fun a ha => no (j := 4) (by decide) ⟨a, ha, rfl⟩, x.roots.but k (no (j := 5) (by decide) rfl), x.count.but k (no (j := 6) (by decide) rfl), x.ne⟩
def CL.withF (L : CL) (F : Nat → Prop) : CL := { L with F := F }
theorem CatRaw.setTree (x : CatRaw h p L most knob l ns ts us lr lc) (k : But E h h') (hE : ∀ c, E c → comp p L 2 c) {ns' : List Nd} {F' : Nat → Prop} (t : Tree h' L.kp L.ks F' ns') : CatRaw h' p (L.withF F') most knob l ns' ts us lr lc := by
  have no : ∀ {j c}, j ≠ 2 → comp p L j c → ¬ E c := fun hj hc e => hj (x.excl hc (hE _ e))
  exact ⟨k _ _ x.cell (no (j := 0) (by decide) rfl), x.tab.but k fun c q => ⟨fun r => no (j := 1) (by decide) (.inl r) q, fun r => no (j := 1) (by decide) (.inr r) q⟩, t, x.tok.but k fun a ha => no (j := 3) (by decide) ⟨a, ha, rfl⟩, x.use.but k fun a ha => no (j := 4) (by decide) ⟨a, ha, rfl⟩, x.roots.but k (no (j := 5) (by decide) rfl), x.count.but k (no (j := 6) (by decide) rfl), x.ne⟩
theorem CatRaw.setTok (x : CatRaw h p L most knob l ns ts us lr lc) (k : But E h h') (hE : ∀ c, E c → comp p L 3 c) {ts' : List S_api_Token} (t : Buf cTok 5 N_api_Token h' L.tk ts') : CatRaw h' p L most knob l ns ts' us lr lc := by
  have no : ∀ {j c}, j ≠ 3 → comp p L j c → ¬ E c := fun hj hc e => hj (x.excl hc (hE _ e))
  exact ⟨k _ _ x.cell (no (j := 0) (by decide) rfl), x.tab.but k fun c q => ⟨fun r => no (j := 1) (by decide) (.inl r) q, fun r => no (j := 1) (by decide) (.inr r) q⟩, x.tree.but k fun c q r => no (j := 2) (by decide) r q, t, x.use.but k fun a ha => no (j := 4) (by decide) ⟨a, ha, rfl⟩, x.roots.but k (no (j := 5) (by decide) rfl), x.count.but k (no (j := 6) (by decide) rfl), x.ne⟩
theorem CatRaw.setUse (x : CatRaw h p L most knob l ns ts us lr lc) (k : But E h h') (hE : ∀ c, E c → comp p L 4 c) {us' : List Bool} (t : Buf cBool 1 4 h' L.us us') : CatRaw h' p L most knob l ns ts us' lr lc := by
  have no : ∀ {j c}, j ≠ 4 → comp p L j c → ¬ E c := fun hj hc e => hj (x.excl hc (hE _ e))
  exact ⟨k _ _ x.cell (no (j := 0) (by decide) rfl), x.tab.but k fun c q => ⟨fun r => no (j := 1) (by decide) (.inl r) q, fun r => no (j := 1) (by decide) (.inr r) q⟩, x.tree.but k fun c q r => no (j := 2) (by decide) r q, x.tok.but k fun a ha => no (j := 3) (by decide) ⟨a, ha, rfl⟩, t, x.roots.but k (no (j := 5) (by decide) rfl), x.count.but k (no (j := 6) (by decide) rfl), x.ne⟩
theorem CatRaw.setRoots (x : CatRaw h p L most knob l ns ts us lr lc) (k : But E h h') (hE : ∀ c, E c → comp p L 5 c) {lr' : List (Int × Int)} (t : MapOf (Value.int .i64) (Value.int .i64) h' L.rb lr') : CatRaw h' p L most knob l ns ts us lr' lc := by
  have no : ∀ {j c}, j ≠ 5 → comp p L j c → ¬ E c := fun hj hc e => hj (x.excl hc (hE _ e))
  exact ⟨k _ _ x.cell (no (j := 0) (by decide) rfl), x.tab.but k fun c q => ⟨fun r => no (j := 1) (by decide) (.inl r) q, fun r => no (j := 1) (by decide) (.inr r) q⟩, x.tree.but k fun c q r => no (j := 2) (by decide) r q, x.tok.but k fun a ha => no (j := 3) (by decide) ⟨a, ha, rfl⟩, x.use.but k fun a ha => no (j := 4) (by decide) ⟨a, ha, rfl⟩, t, x.count.but k (no (j := 6) (by decide) rfl), x.ne⟩
theorem CatRaw.setCount (x : CatRaw h p L most knob l ns ts us lr lc) (k : But E h h') (hE : ∀ c, E c → comp p L 6 c) {lc' : List (Int × Int)} (t : MapOf (Value.int .i64) (Value.int .i64) h' L.cb lc') : CatRaw h' p L most knob l ns ts us lr lc' := by
  have no : ∀ {j c}, j ≠ 6 → comp p L j c → ¬ E c := fun hj hc e => hj (x.excl hc (hE _ e))
  exact ⟨k _ _ x.cell (no (j := 0) (by decide) rfl), x.tab.but k fun c q => ⟨fun r => no (j := 1) (by decide) (.inl r) q, fun r => no (j := 1) (by decide) (.inr r) q⟩, x.tree.but k fun c q r => no (j := 2) (by decide) r q, x.tok.but k fun a ha => no (j := 3) (by decide) ⟨a, ha, rfl⟩, x.use.but k fun a ha => no (j := 4) (by decide) ⟨a, ha, rfl⟩, x.roots.but k (no (j := 5) (by decide) rfl), t, x.ne⟩
end
theorem KChg.part {h' : H} {E : Nat → Prop} {i : Nat} (k : But E h h') (hi : i < 7) (hE : ∀ c, E c → comp p L i c) (d : ∀ c, h' c = none → h c = none) : KChg (CFoot p L) (CFoot p L) h h' := ⟨k.mono fun c e => ⟨i, hi, hE c e⟩, fun _ f => .inl f, d⟩
theorem comp_withF {F' : Nat → Prop} {i c : Nat} (hi : i ≠ 2) : comp p (L.withF F') i c ↔ comp p L i c := by
  match i, hi with
  | 0, _ => exact Iff.rfl
  | 1, _ => exact Iff.rfl
  | 3, _ => exact Iff.rfl
  | 4, _ => exact Iff.rfl
  | 5, _ => exact Iff.rfl
  | 6, _ => exact Iff.rfl
  | _ + 7, _ => exact Iff.rfl
theorem KChg.tree {h' : H} {F' : Nat → Prop} (k : KChg L.F F' h h') : KChg (CFoot p L) (CFoot p (L.withF F')) h h' := by
  refine ⟨k.but.mono fun c e => ⟨2, by omega, e⟩, fun c f => ?_, k.dom⟩
  obtain ⟨i, hi, hc⟩ := f
  by_cases q : i = 2
  · subst q
    exact (k.foot c hc).imp (fun r => ⟨2, by omega, r⟩) id
  · exact .inl ⟨i, hi, (comp_withF q).1 hc⟩
theorem CatRaw.f (x : CatRaw h p L most knob l ns ts us lr lc) {n : Nat} {l1 l2 l3 : List Value} (e : S_catalogue_Catalogue.cells L.obj = l1 ++ l2 ++ l3) (hn : l1.length = n) : At h ((⟨p, 0, none⟩ : Addr).add n) l2 := by
  rw [pt_add]
  exact At.own (t := N_catalogue_Catalogue) (by rw [← e]; exact x.cell) hn
theorem CatRaw.fTab (x : CatRaw h p L most knob l ns ts us lr lc) : At h (((⟨p, 0, none⟩ : Addr).add 0).add 0) (cPtr (some ⟨L.tp, 0, none⟩)) := by
  rw [pt_add]; exact x.f (l1 := []) (l3 := (S_catalogue_Catalogue.cells L.obj).drop 1) rfl rfl
theorem CatRaw.fTree (x : CatRaw h p L most knob l ns ts us lr lc) : At h (((⟨p, 0, none⟩ : Addr).add 0).add 1) (cPtr (some ⟨L.kp, 0, none⟩)) := by
  rw [pt_add]; exact x.f (l1 := (S_catalogue_Catalogue.cells L.obj).take 1) (l3 := (S_catalogue_Catalogue.cells L.obj).drop 2) rfl rfl
theorem CatRaw.fTok (x : CatRaw h p L most knob l ns ts us lr lc) : At h ((⟨p, 0, none⟩ : Addr).add 2) (cSl L.tk) := x.f (l1 := (S_catalogue_Catalogue.cells L.obj).take 2) (l3 := (S_catalogue_Catalogue.cells L.obj).drop 3) rfl rfl
theorem CatRaw.fUse (x : CatRaw h p L most knob l ns ts us lr lc) : At h ((⟨p, 0, none⟩ : Addr).add 3) (cSl L.us) := x.f (l1 := (S_catalogue_Catalogue.cells L.obj).take 3) (l3 := (S_catalogue_Catalogue.cells L.obj).drop 4) rfl rfl
theorem CatRaw.fRoots (x : CatRaw h p L most knob l ns ts us lr lc) : At h ((⟨p, 0, none⟩ : Addr).add 4) (cMap (some L.rb)) := x.f (l1 := (S_catalogue_Catalogue.cells L.obj).take 4) (l3 := (S_catalogue_Catalogue.cells L.obj).drop 5) rfl rfl
theorem CatRaw.fCount (x : CatRaw h p L most knob l ns ts us lr lc) : At h ((⟨p, 0, none⟩ : Addr).add 5) (cMap (some L.cb)) := x.f (l1 := (S_catalogue_Catalogue.cells L.obj).take 5) (l3 := []) rfl rfl
def freeU (us : List Bool) : Option Nat := us.findIdx? fun b => !b
def freeI (us : List Bool) : Int := match freeU us with
  | some n => n
  | none => -1
theorem t_free (x : CatRaw h p L most knob l ns ts us lr lc) (hl : us.length ≤ 2 ^ 40) {K : Int → H → Prop} (y : K (freeI us) h) : m_catalogue_Catalogue_free (some ⟨p, 0, none⟩) K h := by
  unfold m_catalogue_Catalogue_free
  refine w_deref (w_load x.fUse ?_)
  have hlen := x.use.len
  refine w_for us.length (fun i (z : Int) h' => z = (i : Int) ∧ h = h' ∧ ∀ j, j < i → us[j]? = some true) ?_ ⟨rfl, rfl, fun j hj => absurd hj (Nat.not_lt_zero _)⟩
  rintro rec i z h' hi ⟨rfl, rfl, hall⟩ more
  refine w_if' (fun c => ?_) fun c => ?_
  · have c : (i : Int) < (L.us.len : Int) := c
    have hil : i < us.length := by omega
    refine w_get cb_len x.use.arr (List.getElem?_eq_getElem hil) rfl (v' := us[i]) rfl (w_if (fun e => ?_) fun e => ?_)
    · have : freeU us = some i := by
        unfold freeU
        rw [List.findIdx?_eq_some_iff_getElem]
        refine ⟨hil, e, fun j hj => ?_⟩
        have := hall j hj
        rw [List.getElem?_eq_getElem (by omega)] at this
        simp only [Option.some.injEq] at this
        simp [this]
      unfold freeI at y
      rw [this] at y
      exact y
    · refine more _ _ hil ⟨ia1 i (by omega), rfl, fun j hj => ?_⟩
      by_cases q : j = i
      · subst q; rw [List.getElem?_eq_getElem hil]; simpa using e
      · exact hall j (by omega)
  · have c : ¬ (i : Int) < (L.us.len : Int) := c
    have : freeU us = none := by
      unfold freeU
      rw [List.findIdx?_eq_none_iff]
      intro b hb
      obtain ⟨j, hj⟩ := List.mem_iff_getElem?.1 hb
      have := hall j (by have := lt_of_get hj; omega)
      rw [hj] at this
      cases this; rfl
    unfold freeI at y
    rw [this] at y
    exact y
theorem t_Cput (x : CatRaw h p L most knob l ns ts us lr lc) {n : Nat} {t : S_api_Token} (no : alook l t.Cap = none) (room : (l.length : Int) < most) (hn : n < ts.length) (hu : n < us.length) (hc : (alook lc t.Cap.Obj).getD 0 < 2 ^ 40 ∧ 0 ≤ (alook lc t.Cap.Obj).getD 0) {K : Unit → H → Prop}
    (y : ∀ h', CatRaw h' p L most knob (l ++ [(t.Cap, (n : Int))]) ns (ts.set n t) (us.set n true) lr (aset lc t.Cap.Obj ((alook lc t.Cap.Obj).getD 0 + 1)) → KChg (CFoot p L) (CFoot p L) h h' → K () h') : m_catalogue_Catalogue_put (some ⟨p, 0, none⟩) (n : Int) t K h := by
  unfold m_catalogue_Catalogue_put
  refine w_deref (w_load x.fTab (t_TPut x.tab (fun q => absurd no q) (fun _ q => by omega) fun _ _ h1 t1 c1 => ?_))
  have x1 := x.setTab c1.but (fun _ e => e) t1
  have k1 : KChg (CFoot p L) (CFoot p L) h h1 := .part (i := 1) c1.but (by omega) (fun _ e => e) c1.dom
  refine w_deref (w_deref (w_load x1.fTok (w_load x1.fUse ?_)))
  refine w_put tok_len x1.tok hn rfl t rfl fun h2 b2 e2 d2 => ?_
  have x2 := x1.setTok e2 (fun _ e => e) b2
  have k2 := k1.trans (.part (i := 3) e2 (by omega) (fun _ e => e) d2)
  refine w_put cb_len x2.use hu rfl true rfl fun h3 b3 e3 d3 => ?_
  have x3 := x2.setUse e3 (fun _ e => e) b3
  have k3 := k2.trans (.part (i := 4) e3 (by omega) (fun _ e => e) d3)
  refine w_deref (w_load x3.fCount (w_lookup keyNi x3.count ?_))
  rw [iAdd_eq (by omega) (by omega)]
  refine w_mapSet keyNi x3.count rfl rfl fun h4 m4 e4 d4 => ?_
  exact y h4 (x3.setCount e4 (fun _ e => e) m4) (k3.trans (.part (i := 6) e4 (by omega) (fun _ e => e) d4))
end
structure CRel (es : List En) (l : List (S_api_Cap × Int)) (ts : List S_api_Token) (lr lc : List (Int × Int)) : Prop where
  tl : ts.length = es.length
  tok : ∀ i t ks, Has es i t ks → ts[i]? = some t
  caps : l.Perm (capsG 0 es)
  oc : Once lc
  count : ∀ o, alook lc o = if cnt es o = 0 then none else some (cnt es o : Int)
  or : Once lr
  roots : ∀ o r, alook lr o = some r ↔ ∃ (i : Nat) (t : S_api_Token) (ks : List Int), r = i ∧ Has es i t ks ∧ t.Cap.Obj = o ∧ t.Parent = -1
structure Cat (h : H) (p : Nat) (knob : Int) (G : Nat → Prop) (es : List En) : Prop where
  ex : ∃ L l ts lr lc, CatRaw h p L es.length knob l (nds es) ts (es.map Option.isSome) lr lc ∧ (∀ c, G c ↔ CFoot p L c) ∧ CRel es l ts lr lc
  wf : CWF es
section
variable {h : H} {p : Nat} {knob : Int} {G : Nat → Prop} {es : List En}
theorem Cat.keep {h' : H} (x : Cat h p knob G es) (k : Keeps h h') : Cat h' p knob G es := by
  obtain ⟨L, l, ts, lr, lc, a, b, c⟩ := x.ex
  exact ⟨⟨L, l, ts, lr, lc, a.keep k, b, c⟩, x.wf⟩
theorem Cat.but {h' : H} {E : Nat → Prop} (x : Cat h p knob G es) (k : But E h h') (f : ∀ c, E c → ¬ G c) : Cat h' p knob G es := by
  obtain ⟨L, l, ts, lr, lc, a, b, c⟩ := x.ex
  exact ⟨⟨L, l, ts, lr, lc, a.but k fun c e q => f c e ((b c).2 q), b, c⟩, x.wf⟩
theorem Cat.has (x : Cat h p knob G es) {c : Nat} (f : G c) : h c ≠ none := by
  obtain ⟨L, l, ts, lr, lc, a, b, _⟩ := x.ex
  exact a.has ((b c).1 f)
end
def freeE (es : List En) : Option Nat := freeU (es.map Option.isSome)
theorem freeE_some {es : List En} {n : Nat} (h : freeE es = some n) : es[n]? = some none := by
  unfold freeE freeU at h
  rw [List.findIdx?_eq_some_iff_getElem] at h
  obtain ⟨hn, e, _⟩ := h
  rw [List.length_map] at hn
  rw [List.getElem?_eq_getElem hn]
  rw [List.getElem_map] at e
  cases q : es[n] with
  | none => rfl
  | some v => rw [q] at e; cases e
theorem freeI_eq (es : List En) : freeI (es.map Option.isSome) = match freeE es with
  | some n => (n : Int)
  | none => -1 := rfl
def isCap (c : S_api_Cap) : En → Bool
  | some (t, _) => decide (t.Cap = c)
  | none => false
def findE (es : List En) (c : S_api_Cap) : Option Nat := es.findIdx? (isCap c)
theorem findE_has {es : List En} {c : S_api_Cap} {n : Nat} (h : findE es c = some n) : ∃ (t : S_api_Token) (ks : List Int), Has es n t ks ∧ t.Cap = c := by
  unfold findE at h
  rw [List.findIdx?_eq_some_iff_getElem] at h
  obtain ⟨hn, e, _⟩ := h
  cases q : es[n] with
  | none => rw [q] at e; cases e
  | some v =>
    obtain ⟨t, ks⟩ := v
    rw [q] at e
    exact ⟨t, ks, by unfold Has; rw [List.getElem?_eq_getElem hn, q], of_decide_eq_true e⟩
theorem findE_none {es : List En} {c : S_api_Cap} (h : findE es c = none) {i t ks} (x : Has es i t ks) : t.Cap ≠ c := fun e => by
  unfold findE at h
  rw [List.findIdx?_eq_none_iff] at h
  have := h _ (List.mem_of_getElem? x)
  simp [isCap, e] at this
theorem capsG_le : ∀ (es : List En) (k : Nat), (capsG k es).length ≤ es.length := by
  intro es
  induction es with
  | nil => exact fun _ => Nat.le_refl _
  | cons e r ih =>
    intro k
    have := ih (k + 1)
    cases e with
    | none => rw [capsG]; simp only [List.length_cons]; omega
    | some p => obtain ⟨u, us⟩ := p; rw [capsG]; simp only [List.length_cons]; omega
theorem CRel.look {es : List En} {l ts lr lc} (x : CRel es l ts lr lc) (_ : CWF es) (o : Once l) (c : S_api_Cap) : alook l c = (findE es c).map fun n : Nat => (n : Int) := by
  cases h : findE es c with
  | some n =>
    obtain ⟨t, ks, a, b⟩ := findE_has h
    exact o.look (x.caps.symm.subset (capsG_mem.2 ⟨n, t, ks, a, b, by simp⟩))
  | none =>
    cases e : alook l c with
    | none => rfl
    | some v =>
      obtain ⟨i, t, ks, a, b, _⟩ := capsG_mem.1 (x.caps.subset (alook_mem e))
      exact absurd b (findE_none h a)
theorem cnt_cons {es es' : List En} {c : S_api_Cap} {v : Int} (h : (capsG 0 es').Perm ((c, v) :: capsG 0 es)) (o : Int) : cnt es' o = cnt es o + if c.Obj = o then 1 else 0 := by
  unfold cnt
  rw [h.countP_eq, List.countP_cons]
  simp
theorem capsG_child {es : List En} {q n : Nat} {t : S_api_Token} {u us} (hq : Has es q u us) (hn : es[n]? = some none) : (capsG 0 (childE es q n t)).Perm ((t.Cap, (n : Int)) :: capsG 0 es) := by
  have := capsG_new (t := t) (ks := []) (k := 0) hn
  rw [Nat.zero_add] at this
  refine .trans (.of_eq (capsG_congr ?_)) this
  apply List.ext_getElem?
  intro i
  have hne : n ≠ q := fun e => by subst e; unfold Has at hq; rw [hn] at hq; cases hq
  unfold childE
  rw [hq]
  rw [List.getElem?_map, List.getElem?_map, List.getElem?_set]
  by_cases e : q = i
  · subst e
    rw [if_pos rfl, List.length_set, if_pos hq.lt, List.getElem?_set, if_neg hne, hq]; rfl
  · rw [if_neg e]
theorem isSome_root {es : List En} {n : Nat} {t : S_api_Token} : (rootE es n t).map Option.isSome = (es.map Option.isSome).set n true := by
  unfold rootE; rw [List.map_set]; rfl
theorem isSome_child {es : List En} {q n : Nat} {t : S_api_Token} {u us} (hq : Has es q u us) (hn : es[n]? = some none) : (childE es q n t).map Option.isSome = (es.map Option.isSome).set n true := by
  unfold childE
  rw [hq]
  have hne : n ≠ q := fun e => by subst e; unfold Has at hq; rw [hn] at hq; cases hq
  apply List.ext_getElem?
  intro i
  rw [List.map_set, List.map_set, List.getElem?_set]
  by_cases e : q = i
  · subst e
    rw [if_pos rfl, List.length_set, List.length_map, if_pos hq.lt, List.getElem?_set, if_neg hne, List.getElem?_map, hq]; rfl
  · rw [if_neg e]; rfl
def tok0 : S_api_Token := ⟨⟨0, ⟨0, 0⟩⟩, 0, 0⟩
def atE (es : List En) (i : Int) : En := if 0 ≤ i then (es[i.toNat]?).getD none else none
theorem atE_nat (es : List En) (i : Nat) : atE es (i : Int) = (es[i]?).getD none := by
  unfold atE; rw [if_pos (by omega), Int.toNat_natCast]
theorem atE_has {es : List En} {i : Int} {t ks} : atE es i = some (t, ks) ↔ ∃ n : Nat, i = n ∧ Has es n t ks := by
  constructor
  · intro h
    unfold atE at h
    split at h
    · rename_i h0
      refine ⟨i.toNat, by omega, ?_⟩
      unfold Has
      cases e : es[i.toNat]? with
      | none => rw [e] at h; cases h
      | some o => rw [e] at h; exact congrArg some h
    · cases h
  · rintro ⟨n, rfl, h⟩
    rw [atE_nat, h]; rfl
def atOut (es : List En) (i : Int) : S_api_Token × Bool := match atE es i with
  | some (t, _) => (t, true)
  | none => (tok0, false)
def rootOut (es : List En) (c : S_api_Cap) (r : Int) : (Int × Int) × List En :=
  if 1 ≤ r ∧ r ≤ 31 then
    if 0 < cnt es c.Obj then ((0, 19), es) else
    match freeE es with
    | none => ((0, 10), es)
    | some n => (((n : Int), 0), rootE es n ⟨c, r, -1⟩)
  else ((0, 4), es)
def childOut (es : List En) (q : Int) (c : S_api_Cap) (r : Int) : (Int × Int) × List En := match atE es q with
  | none => ((0, 20), es)
  | some (t, _) =>
    if t.Cap.Obj = c.Obj then
      if partOf r t.Rights = true then
        if (findE es c).isSome then ((0, 19), es) else
        match freeE es with
        | none => ((0, 10), es)
        | some n => (((n : Int), 0), childE es q.toNat n ⟨c, r, q⟩)
      else ((0, 4), es)
    else ((0, 3), es)
theorem CWF.rootOut {es : List En} (w : CWF es) (c : S_api_Cap) (r : Int) : CWF (rootOut es c r).2 := by
  unfold K.rootOut
  split
  · rename_i hr
    split
    · exact w
    · rename_i h0
      split
      · exact w
      · rename_i n hn
        exact w.root (freeE_some hn) hr (by omega)
  · exact w
theorem CWF.childOut {es : List En} (w : CWF es) (q : Int) (c : S_api_Cap) (r : Int) : CWF (childOut es q c r).2 := by
  unfold K.childOut
  split
  · exact w
  · rename_i t ks hq
    obtain ⟨q, rfl, hq'⟩ := atE_has.1 hq
    split
    · rename_i ho
      split
      · rename_i hp
        split
        · exact w
        · rename_i hf
          split
          · exact w
          · rename_i n hn
            rw [Int.toNat_natCast]
            refine w.child hq' (freeE_some hn) ho hp (partOf_r hp) fun i t ks a => findE_none ?_ a
            cases e : findE es c with
            | none => rfl
            | some v => rw [e] at hf; exact absurd rfl hf
      · exact w
    · exact w
section
variable {h : H} {p : Nat} {knob : Int} {G : Nat → Prop} {es : List En}
theorem t_CAt (x : Cat h p knob G es) {i : Int} {K : S_api_Token × Bool → H → Prop} (y : K (atOut es i) h) : m_catalogue_Catalogue_At (some ⟨p, 0, none⟩) i K h := by
  obtain ⟨L, l, ts, lr, lc, a, b, c⟩ := x.ex
  unfold m_catalogue_Catalogue_At
  have hl := a.use.len
  rw [List.length_map] at hl
  have hw := x.wf.len
  refine w_joinV (decide (i < 0 ∨ (es.length : Int) ≤ i)) (fun j hj => ?_) ?_
  · refine w_if' (fun q => ?_) fun q => w_deref (w_load a.fUse ?_)
    · rw [decide_eq_true (.inl q)] at hj; exact hj
    · have e : decide ((L.us.len : Int) ≤ i) = decide (i < 0 ∨ (es.length : Int) ≤ i) := by rw [decide_eq_decide, hl]; constructor <;> omega
      rw [e]; exact hj
  · by_cases q : i < 0 ∨ (es.length : Int) ≤ i
    · rw [decide_eq_true q]
      refine w_join (w_ifT rfl (w_ifT rfl ?_))
      have e : atE es i = none := by
        unfold atE
        split
        · rw [List.getElem?_eq_none (by omega)]; rfl
        · rfl
      unfold atOut at y
      rw [e] at y
      exact y
    · rw [decide_eq_false q]
      obtain ⟨n, rfl⟩ : ∃ n : Nat, i = n := ⟨i.toNat, by omega⟩
      have hn : n < es.length := by omega
      have hn' : n < (es.map Option.isSome).length := by rw [List.length_map]; exact hn
      have hu : (es.map Option.isSome)[n]? = some (es[n]).isSome := by rw [List.getElem?_map, List.getElem?_eq_getElem hn]; rfl
      refine w_join (w_ifF rfl (w_deref (w_load a.fUse (w_get cb_len a.use.arr hu rfl (v' := (es[n]).isSome) rfl ?_))))
      unfold atOut at y
      rw [atE_nat, List.getElem?_eq_getElem hn] at y
      cases e : es[n] with
      | none =>
        rw [e] at y
        exact w_ifT rfl y
      | some v =>
        obtain ⟨t, ks⟩ := v
        rw [e] at y
        have ht : Has es n t ks := by unfold Has; rw [List.getElem?_eq_getElem hn, e]
        exact w_ifF rfl (w_deref (w_load a.fTok (w_get tok_len a.tok.arr (c.tok n t ks ht) rfl (v' := t) rfl y)))
theorem t_CFind (x : Cat h p knob G es) {c : S_api_Cap} {K : Int × Bool → H → Prop} (y : K (((findE es c).map fun n : Nat => (n : Int)).getD 0, (findE es c).isSome) h) : m_catalogue_Catalogue_Find (some ⟨p, 0, none⟩) c K h := by
  obtain ⟨L, l, ts, lr, lc, a, b, r⟩ := x.ex
  unfold m_catalogue_Catalogue_Find
  refine w_deref (w_load a.fTab (t_TGet a.tab ?_))
  rw [r.look x.wf a.tab.once]
  dsimp only
  rw [Option.isSome_map]
  exact y
theorem t_CIn (x : Cat h p knob G es) {o : Int} {K : Int → H → Prop} (y : K (cnt es o : Nat) h) : m_catalogue_Catalogue_In (some ⟨p, 0, none⟩) o K h := by
  obtain ⟨L, l, ts, lr, lc, a, b, r⟩ := x.ex
  unfold m_catalogue_Catalogue_In
  refine w_deref (w_load a.fCount (w_lookup keyNi a.count ?_))
  have e : (alook lc o).getD 0 = (cnt es o : Int) := by
    rw [r.count]
    split
    · rename_i h0; rw [h0]; rfl
    · rfl
  rw [e]
  exact y
theorem CRel.cnt0 {l ts lr lc} (r : CRel es l ts lr lc) (o : Int) : (alook lc o).getD 0 = (cnt es o : Int) := by
  rw [r.count]
  split
  · rename_i h0; rw [h0]; rfl
  · rfl
theorem t_CRoot (x : Cat h p knob G es) {c : S_api_Cap} {r : Int} {K : Int × Int → H → Prop} (y : ∀ G' h', Cat h' p knob G' (rootOut es c r).2 → KChg G G' h h' → K (rootOut es c r).1 h') : m_catalogue_Catalogue_Root (some ⟨p, 0, none⟩) c r K h := by
  have wf := x.wf.rootOut c r
  obtain ⟨L, l, ts, lr, lc, a, b, rl⟩ := x.ex
  have hw := x.wf.len
  unfold rootOut at y wf
  unfold m_catalogue_Catalogue_Root
  refine t_free a (by rw [List.length_map]; omega) (w_Valid ?_)
  by_cases hr : 1 ≤ r ∧ r ≤ 31
  · rw [if_pos hr] at y wf
    rw [decide_eq_true hr]
    refine w_ifF rfl (w_deref (w_load a.fCount (w_lookup keyNi a.count ?_)))
    rw [rl.cnt0]
    refine w_if' (fun h0 => ?_) fun h0 => ?_
    · have h0 : 0 < (cnt es c.Obj : Int) := h0
      rw [if_pos (by omega)] at y
      exact y _ _ x (.refl _ _)
    · have h0 : ¬ 0 < (cnt es c.Obj : Int) := h0
      rw [if_neg (by omega)] at y wf
      rw [freeI_eq]
      cases hf : freeE es with
      | none =>
        rw [hf] at y
        exact w_ifT rfl (y _ _ x (.refl _ _))
      | some n =>
        rw [hf] at y wf
        dsimp only at y wf
        have hn := freeE_some hf
        have hlt := lt_of_get hn
        dsimp only
        refine w_ifF (decide_eq_false (by simp)) (w_deref (w_load a.fTree ?_))
        refine t_KRoot a.tree (by rw [nds_len]; exact hlt) ?_ fun h1 F1 t1 c1 => ?_
        · cases q : hasN (nds es) (n : Int) with
          | false => rfl
          | true =>
            obtain ⟨i, t, ks, e, hi⟩ := hasN_nds.1 q
            obtain rfl : n = i := by omega
            unfold Has at hi; rw [hn] at hi; cases hi
        have a1 := a.setTree c1.but (fun _ e => e) t1
        have k1 : KChg (CFoot p L) (CFoot p (L.withF F1)) h h1 := .tree c1
        have no : ∀ {i t ks}, Has es i t ks → t.Cap.Obj ≠ c.Obj := fun h e => by
          have := cnt_pos.2 ⟨_, _, _, h, e⟩
          omega
        have hfn : findE es c = none := by
          cases q : findE es c with
          | none => rfl
          | some v => obtain ⟨t, ks, z, e⟩ := findE_has q; exact absurd (by rw [e]) (no z)
        have hlook : alook l c = none := by rw [rl.look x.wf a.tab.once, hfn]; rfl
        have hnew := capsG_new (t := ⟨c, r, -1⟩) (ks := []) (k := 0) hn
        rw [Nat.zero_add] at hnew
        have hlen := hnew.length_eq
        have hle := capsG_le (es.set n (some (⟨c, r, -1⟩, []))) 0
        rw [List.length_set] at hle
        rw [List.length_cons] at hlen
        have hll := rl.caps.length_eq
        have e0 := rl.cnt0 c.Obj
        have hz : cnt es c.Obj = 0 := by omega
        refine t_Cput a1 (t := ⟨c, r, -1⟩) hlook (by omega) (by rw [rl.tl]; exact hlt) (by rw [List.length_map]; exact hlt) (by dsimp only; rw [e0, hz]; omega) fun h2 a2 k2 => ?_
        refine w_deref (w_load a2.fRoots (w_mapSet keyNi a2.roots rfl rfl fun h3 m3 e3 d3 => ?_))
        have a3 := a2.setRoots e3 (fun _ e => e) m3
        have k3 := (k1.trans k2).trans (KChg.part (i := 5) (p := p) (L := L.withF F1) e3 (by omega) (fun _ e => e) d3)
        have e1 : (rootE es n ⟨c, r, -1⟩).length = es.length := by unfold rootE; rw [List.length_set]
        have a4 := a3
        rw [← e1, ← nds_root (c := c) (r := r), ← isSome_root (t := ⟨c, r, -1⟩)] at a4
        refine y (CFoot p (L.withF F1)) h3 ⟨⟨L.withF F1, _, _, _, _, a4, fun _ => Iff.rfl, ?_⟩, wf⟩ ⟨k3.but.mono fun c f => (b c).2 f, fun c f => (k3.foot c f).imp (b c).2 id, k3.dom⟩
        · have H := fun {i t ks} => has_set (es := es) (n := n) hlt (e := some (⟨c, r, -1⟩, [])) (i := i) (t := t) (ks := ks)
          have neN : ∀ {i t ks}, Has es i t ks → i ≠ n := fun h e => by subst e; unfold Has at h; rw [hn] at h; cases h
          refine ⟨by unfold rootE; rw [List.length_set, List.length_set]; exact rl.tl, fun i t ks hi => ?_, ?_, rl.oc.set _ _, fun o => ?_, rl.or.set _ _, fun o v => ?_⟩
          · rw [List.getElem?_set]
            rcases H.1 hi with ⟨rfl, q⟩ | ⟨q, hi⟩
            · cases q; rw [if_pos rfl, if_pos (by rw [rl.tl]; exact hlt)]
            · rw [if_neg (fun z => q z.symm)]; exact rl.tok i t ks hi
          · exact (List.perm_append_comm (l₂ := [(c, (n : Int))])).trans ((rl.caps.cons _).trans hnew.symm)
          · rw [alook_set, cnt_cons (es' := rootE es n ⟨c, r, -1⟩) hnew]
            dsimp only
            rw [e0, rl.count o]
            by_cases q : o = c.Obj
            · subst q; rw [if_pos rfl, if_pos rfl, hz]; rfl
            · have q' : ¬ c.Obj = o := fun z => q z.symm
              simp only [if_neg q, if_neg q', Nat.add_zero]
          · rw [alook_set]
            by_cases q : o = c.Obj
            · subst q
              rw [if_pos rfl]
              constructor
              · intro e; cases e; exact ⟨n, _, _, rfl, H.2 (.inl ⟨rfl, rfl⟩), rfl, rfl⟩
              · rintro ⟨i, t, ks, rfl, hi, e, _⟩
                rcases H.1 hi with ⟨rfl, _⟩ | ⟨_, hi⟩
                · rfl
                · exact absurd e (no hi)
            · rw [if_neg q, rl.roots]
              constructor
              · rintro ⟨i, t, ks, rfl, hi, e⟩; exact ⟨i, t, ks, rfl, H.2 (.inr ⟨neN hi, hi⟩), e⟩
              · rintro ⟨i, t, ks, rfl, hi, e⟩
                rcases H.1 hi with ⟨_, z⟩ | ⟨_, hi⟩
                · cases z; exact absurd e.1.symm q
                · exact ⟨i, t, ks, rfl, hi, e⟩
  · rw [if_neg hr] at y
    rw [decide_eq_false hr]
    exact w_ifT rfl (y _ _ x (.refl _ _))
theorem t_CChild (x : Cat h p knob G es) {qi : Int} {c : S_api_Cap} {r : Int} {K : Int × Int → H → Prop} (y : ∀ G' h', Cat h' p knob G' (childOut es qi c r).2 → KChg G G' h h' → K (childOut es qi c r).1 h') : m_catalogue_Catalogue_Child (some ⟨p, 0, none⟩) qi c r K h := by
  have wf := x.wf.childOut qi c r
  have hw := x.wf.len
  unfold childOut at y wf
  unfold m_catalogue_Catalogue_Child
  refine t_CAt x ?_
  unfold atOut
  cases hqi : atE es qi with
  | none =>
    rw [hqi] at y
    exact w_ifT rfl (y _ _ x (.refl _ _))
  | some v =>
    obtain ⟨u, us⟩ := v
    rw [hqi] at y wf
    obtain ⟨q, rfl, hq⟩ := atE_has.1 hqi
    simp only at y wf
    obtain ⟨L, l, ts, lr, lc, a, b, rl⟩ := x.ex
    refine w_ifF rfl (w_deref (w_load a.fTab (t_TGet a.tab ?_)))
    rw [rl.look x.wf a.tab.once]
    refine t_free a (by rw [List.length_map]; omega) ?_
    by_cases ho : u.Cap.Obj = c.Obj
    · rw [if_pos ho] at y wf
      refine w_ifF (by simp [ho]) (w_Part ?_)
      cases hp : partOf r u.Rights with
      | false =>
        rw [if_neg (by rw [hp]; decide)] at y
        exact w_ifT rfl (y _ _ x (.refl _ _))
      | true =>
        rw [if_pos hp] at y wf
        refine w_ifF rfl ?_
        cases hf : findE es c with
        | some v =>
          rw [hf] at y
          exact w_ifT rfl (y _ _ x (.refl _ _))
        | none =>
          rw [hf] at y wf
          simp only [Option.isSome_none, Bool.false_eq_true, if_false] at y wf
          refine w_ifF rfl ?_
          rw [freeI_eq]
          cases hfr : freeE es with
          | none =>
            rw [hfr] at y
            exact w_ifT rfl (y _ _ x (.refl _ _))
          | some n =>
            rw [hfr] at y wf
            dsimp only at y wf
            dsimp only
            have hn := freeE_some hfr
            have hlt := lt_of_get hn
            refine w_ifF (decide_eq_false (by simp)) (w_deref (w_load a.fTree ?_))
            have hnN : hasN (nds es) (n : Int) = false := by
              cases z : hasN (nds es) (n : Int) with
              | false => rfl
              | true =>
                obtain ⟨i, t, ks, e, hi⟩ := hasN_nds.1 z
                obtain rfl : n = i := by omega
                unfold Has at hi; rw [hn] at hi; cases hi
            refine t_KChild a.tree (by rw [nds_len]; exact hlt) hnN (hasN_nds.2 ⟨q, u, us, rfl, hq⟩) (fun d hd => ?_) fun h1 F1 t1 c1 => ?_
            · rw [nds_get hq] at hd
              cases hd
              have := x.wf.kids_le hq
              show us.length ≤ 256
              omega
            have a1 := a.setTree c1.but (fun _ e => e) t1
            have k1 : KChg (CFoot p L) (CFoot p (L.withF F1)) h h1 := .tree c1
            have hlook : alook l c = none := by rw [rl.look x.wf a.tab.once, hf]; rfl
            have hnew := capsG_child (t := ⟨c, r, (q : Int)⟩) hq hn
            have hlen := hnew.length_eq
            have e1 : (childE es q n ⟨c, r, (q : Int)⟩).length = es.length := by unfold childE; rw [hq]; simp only [List.length_set]
            have hle := capsG_le (childE es q n ⟨c, r, (q : Int)⟩) 0
            rw [e1] at hle
            rw [List.length_cons] at hlen
            have hll := rl.caps.length_eq
            have e0 := rl.cnt0 c.Obj
            have hcl := cnt_le es c.Obj
            refine t_Cput a1 (t := ⟨c, r, (q : Int)⟩) hlook (by omega) (by rw [rl.tl]; exact hlt) (by rw [List.length_map]; exact hlt) (by dsimp only; rw [e0]; omega) fun h2 a2 k2 => ?_
            have k3 := k1.trans k2
            rw [Int.toNat_natCast] at y wf
            have a4 := a2
            rw [← e1, ← nds_child (t := ⟨c, r, (q : Int)⟩) rfl hq, ← isSome_child (t := ⟨c, r, (q : Int)⟩) hq hn] at a4
            refine y (CFoot p (L.withF F1)) h2 ⟨⟨L.withF F1, _, _, _, _, a4, fun _ => Iff.rfl, ?_⟩, wf⟩ ⟨k3.but.mono fun c f => (b c).2 f, fun c f => (k3.foot c f).imp (b c).2 id, k3.dom⟩
            · have H := fun {i v vs} => has_child (t := ⟨c, r, (q : Int)⟩) (i := i) (v := v) (vs := vs) hq hn
              have neN : ∀ {i t ks}, Has es i t ks → i ≠ n := fun h e => by subst e; unfold Has at h; rw [hn] at h; cases h
              refine ⟨by rw [e1, List.length_set]; exact rl.tl, fun i t ks hi => ?_, ?_, rl.oc.set _ _, fun o => ?_, rl.or, fun o v => ?_⟩
              · rw [List.getElem?_set]
                rcases H.1 hi with ⟨rfl, rfl, _⟩ | ⟨rfl, rfl, _⟩ | ⟨z, _, hi⟩
                · rw [if_pos rfl, if_pos (by rw [rl.tl]; exact hlt)]
                · rw [if_neg (fun z => neN hq z.symm)]; exact rl.tok _ _ _ hq
                · rw [if_neg (fun w => z w.symm)]; exact rl.tok i t ks hi
              · exact (List.perm_append_comm (l₂ := [(c, (n : Int))])).trans ((rl.caps.cons _).trans hnew.symm)
              · rw [alook_set, cnt_cons hnew]
                dsimp only
                rw [e0, rl.count o]
                by_cases z : o = c.Obj
                · subst z; rw [if_pos rfl, if_pos rfl, if_neg (by omega)]; rfl
                · have z' : ¬ c.Obj = o := fun w => z w.symm
                  simp only [if_neg z, if_neg z', Nat.add_zero]
              · rw [rl.roots]
                constructor
                · rintro ⟨i, t, ks, rfl, hi, e⟩
                  by_cases z : i = q
                  · subst z
                    obtain ⟨rfl, rfl⟩ := hq.uniq hi
                    exact ⟨i, _, _, rfl, H.2 (.inr (.inl ⟨rfl, rfl, rfl⟩)), e⟩
                  · exact ⟨i, t, ks, rfl, H.2 (.inr (.inr ⟨neN hi, z, hi⟩)), e⟩
                · rintro ⟨i, t, ks, rfl, hi, e⟩
                  rcases H.1 hi with ⟨rfl, rfl, _⟩ | ⟨rfl, rfl, _⟩ | ⟨_, _, hi⟩
                  · have := e.2; have : (q : Int) = -1 := this; omega
                  · exact ⟨i, _, _, rfl, hq, e⟩
                  · exact ⟨i, t, ks, rfl, hi, e⟩
    · rw [if_neg ho] at y
      exact w_ifT (by simp [ho]) (y _ _ x (.refl _ _))
end
structure NewSt (h : H) (t u : Option Sl) (ms : List Nat) (n : Nat) (h' : H) : Prop where
  keep : Keeps h h'
  tok : ∀ s, t = some s → Buf cTok 5 N_api_Token h' s (List.replicate n tok0) ∧ ∀ c, s.foot c → h c = none
  use : ∀ s, u = some s → Buf cBool 1 4 h' s (List.replicate n false) ∧ ∀ c, s.foot c → h c = none
  maps : ∀ m, m ∈ ms → MapOf (Value.int .i64) (Value.int .i64) h' m ([] : List (Int × Int)) ∧ h m = none
  nd : ms.Nodup
theorem NewSt.more {h h' h'' : H} {t u : Option Sl} {ms : List Nat} {n : Nat} (x : NewSt h t u ms n h') (k : Keeps h' h'') : NewSt h t u ms n h'' :=
  ⟨x.keep.trans k, fun s e => ⟨(x.tok s e).1.keep k, (x.tok s e).2⟩, fun s e => ⟨(x.use s e).1.keep k, (x.use s e).2⟩, fun m e => ⟨(x.maps m e).1.keep k, (x.maps m e).2⟩, x.nd⟩
theorem NewSt.doTok {h h' : H} {u : Option Sl} {ms : List Nat} {n : Nat} (x : NewSt h none u ms n h') (hn : n ≤ 256) {k : Sl → H → Prop} (y : ∀ s h'', NewSt h (some s) u ms n h'' → k s h'') : mMake N_api_Token 40 #[(Value.int .i64 0), (Value.int .u64 0), (Value.int .u64 0), (Value.int .i64 0), (Value.int .i64 0)] (n : Int) (n : Int) k h' := by
  refine w_make tok_len tok0 rfl rfl rfl (by omega) (by omega) fun s h2 bu k2 f2 _ => y s h2 ?_
  have z := x.more k2
  exact ⟨z.keep, fun s' e => by cases e; exact ⟨bu, fun c f => x.keep.fresh (f2 c f)⟩, z.use, z.maps, z.nd⟩
theorem NewSt.doUse {h h' : H} {t : Option Sl} {ms : List Nat} {n : Nat} (x : NewSt h t none ms n h') (hn : n ≤ 256) {k : Sl → H → Prop} (y : ∀ s h'', NewSt h t (some s) ms n h'' → k s h'') : mMake 4 1 #[(Value.bool false)] (n : Int) (n : Int) k h' := by
  refine w_make cb_len false rfl rfl rfl (by omega) (by omega) fun s h2 bu k2 f2 _ => y s h2 ?_
  have z := x.more k2
  exact ⟨z.keep, z.tok, fun s' e => by cases e; exact ⟨bu, fun c f => x.keep.fresh (f2 c f)⟩, z.maps, z.nd⟩
theorem NewSt.doMap {h h' : H} {t u : Option Sl} {ms : List Nat} {n : Nat} (x : NewSt h t u ms n h') {k : Option Nat → H → Prop} (y : ∀ m h'', NewSt h t u (m :: ms) n h'' → k (some m) h'') : mMakeMap k h' := by
  refine w_makeMap (Value.int .i64) (Value.int .i64) fun b h2 f2 mp k2 => y b h2 ?_
  have z := x.more k2
  refine ⟨z.keep, z.tok, z.use, fun m e => ?_, List.nodup_cons.2 ⟨fun e => ?_, x.nd⟩⟩
  · rcases List.mem_cons.1 e with q | q
    · subst q; exact ⟨mp, x.keep.fresh f2⟩
    · exact z.maps m q
  · obtain ⟨es, cl, q, _⟩ := (x.maps b e).1.ex
    rw [f2] at q; cases q
theorem cnt_none (n : Nat) (o : Int) : cnt (List.replicate n none) o = 0 := by
  cases e : cnt (List.replicate n none) o with
  | zero => rfl
  | succ k =>
    obtain ⟨i, t, ks, hi, _⟩ := cnt_pos.1 (by omega : 0 < cnt (List.replicate n none) o)
    have := List.eq_of_mem_replicate (List.mem_of_getElem? hi)
    cases this
theorem capsG_none : ∀ (n k : Nat), capsG k (List.replicate n none) = [] := by
  intro n
  induction n with
  | zero => exact fun _ => rfl
  | succ n ih => intro k; rw [List.replicate_succ, capsG, ih]
theorem t_CNew {h : H} {a0 a1 : Int} {K : Option Addr × Int → H → Prop} (bad : (a0 < 1 ∨ 256 < a0 ∨ a1 < 0 ∨ 64 < a1) → K (none, 16) h)
    (good : 0 ≤ a1 → a1 ≤ 64 → ∀ n : Nat, a0 = n → 1 ≤ n → n ≤ 256 → ∀ p G h', Cat h' p a1 G (List.replicate n none) → Keeps h h' → (∀ c, G c → h c = none) → K (some ⟨p, 0, none⟩, 0) h') : m_catalogue_New a0 a1 K h := by
  unfold m_catalogue_New
  refine w_if (fun c => bad ?_) fun c => ?_
  · simp only [Bool.or_eq_true, decide_eq_true_eq] at c; omega
  simp only [Bool.or_eq_false_iff, decide_eq_false_iff_not] at c
  obtain ⟨n, rfl⟩ : ∃ n : Nat, a0 = n := ⟨a0.toNat, by omega⟩
  refine t_TNew (fun q => by omega) fun _ _ _ _ tp ts h1 t1 k1 f1 f1' => w_ifF rfl ?_
  refine t_KNew (by omega) fun kp ks F h2 t2 k2 f2 => w_ifF rfl ?_
  have s0 : NewSt h2 none none [] n h2 := ⟨.refl _, fun s e => (by cases e), fun s e => (by cases e), fun m e => (by cases e), List.nodup_nil⟩
  refine w_joinP (fun s3 h' => ∃ tk us m1 m2, s3 = (tk, us, some m1, some m2) ∧ NewSt h2 (some tk) (some us) [m1, m2] n h') (fun j hj => ?_) ?_
  · have fin1 : ∀ {tk us m1 m2 h'}, NewSt h2 (some tk) (some us) [m1, m2] n h' → j (tk, us, some m1, some m2) h' := fun z => hj _ _ ⟨_, _, _, _, rfl, z⟩
    have fin2 : ∀ {tk us m1 m2 h'}, NewSt h2 (some tk) (some us) [m2, m1] n h' → j (tk, us, some m1, some m2) h' := fun z => hj _ _ ⟨_, _, _, _, rfl, z.keep, z.tok, z.use, fun m e => z.maps m (by simp only [List.mem_cons, List.not_mem_nil, or_false] at e ⊢; exact e.symm), (List.Perm.swap _ _ []).nodup_iff.1 z.nd⟩
    have hn : n ≤ 256 := by omega
    repeat' first
      | refine w_both ?_ ?_
      | refine NewSt.doTok (by assumption) hn fun _ _ _ => ?_
      | refine NewSt.doUse (by assumption) hn fun _ _ _ => ?_
      | refine NewSt.doMap (by assumption) fun _ _ _ => ?_
      | exact fin1 (by assumption)
      | exact fin2 (by assumption)
  · rintro s3 h3 ⟨tk, us, m1, m2, rfl, z⟩
    refine w_box fun p h4 f4 c4 k4 => ?_
    obtain ⟨bt, ft⟩ := z.tok _ rfl
    obtain ⟨bu, fu⟩ := z.use _ rfl
    obtain ⟨mp1, fm1⟩ := z.maps m1 (by simp)
    obtain ⟨mp2, fm2⟩ := z.maps m2 (by simp)
    have hne : m1 ≠ m2 := by have := z.nd; simpa using this
    have k02 := k1.trans k2
    refine good (by omega) (by omega) n rfl (by omega) (by omega) p (CFoot p ⟨tp, ts, kp, ks, F, tk, us, m1, m2⟩) h4 ⟨⟨⟨tp, ts, kp, ks, F, tk, us, m1, m2⟩, [], List.replicate n tok0, [], [], ⟨c4, ?_, ?_, bt.keep k4, ?_, mp1.keep k4, mp2.keep k4, hne⟩, fun _ => Iff.rfl, ?_⟩, CWF.empty (by omega) (by omega)⟩ ((k02.trans z.keep).trans k4) fun c f => ?_
    · have := ((t1.keep k2).keep z.keep).keep k4
      rw [List.length_replicate]
      exact this
    · have := (t2.keep z.keep).keep k4
      unfold nds
      rw [List.map_replicate]
      exact this
    · rw [List.map_replicate]; exact bu.keep k4
    · have no : ∀ {i t ks}, ¬ Has (List.replicate n none) i t ks := fun h => by
        have := List.eq_of_mem_replicate (List.mem_of_getElem? h)
        cases this
      refine ⟨by rw [List.length_replicate, List.length_replicate], fun i t ks h => (no h).elim, by rw [capsG_none], List.nodup_nil, fun o => by rw [cnt_none]; rfl, List.nodup_nil, fun o r => ⟨fun h => (by cases h), fun ⟨i, t, ks, _, h, _⟩ => (no h).elim⟩⟩
    · obtain ⟨i, hi, hc⟩ := f
      match i, hi, hc with
      | 0, _, hc => cases hc; exact k02.fresh (z.keep.fresh f4)
      | 1, _, hc =>
        rcases hc with q | q
        · cases q; exact f1
        · exact f1' c q
      | 2, _, hc => exact k1.fresh (f2 c hc)
      | 3, _, hc => exact k02.fresh (ft c hc)
      | 4, _, hc => exact k02.fresh (fu c hc)
      | 5, _, hc => cases hc; exact k02.fresh fm1
      | 6, _, hc => cases hc; exact k02.fresh fm2
end Go.Proofs.YtdleanjofhghnaaDoor.K
namespace Go.Proofs.YtdleanjofhghnaaDoor.K
open Go Go.Proofs
def m_ref11_New (a0 : Int) (a1 : Int) (K : (Option Addr × Int) → H → Prop) : H → Prop :=
 mIf ((((decide (a0 < 1)) || (decide (256 < a0))) || (decide (a1 < 0))) || (decide (64 < a1))) (
 K (none, 16)
 ) (
 mMake 207 56 #[(Value.bool false), (Value.int .i64 0), (Value.int .u64 0), (Value.int .u64 0), (Value.int .i64 0), (Value.int .i64 0), (Value.int .i64 0)] a0 a0 fun s1 =>
 mNew 108 #[(Sl.val s1), (Value.int .i64 0)] fun ad2 =>
 K ((some ad2), 0)
 )
def x_ref11_New : Cx Tryd.prog := ⟨tys, [], [], [], mixed⟩
def h_ref11_New : Hint := (.seq .d (.seq (.seq (.reg (.run [3, 7, 11] (.sel 8 11 3584 (.run [15, 19, 23] .nil) (.run [15, 19, 23] .nil) (.run [27] (.sel 12 15 57344 (.run [31, 35, 39] .nil) (.run [31, 35, 39] .nil) (.run [43] (.sel 16 19 917504 (.run [47, 51, 55] .nil) (.run [47, 51, 55] .nil) .nil))))))) .d) .d))
def s_ref11_New : Spec Tryd.prog := mkSpec x_ref11_New 21 Tryd.f21 [(tInt .i64), (tInt .i64)] [tPtr, (tInt .i64)] false h_ref11_New (fun a => m_ref11_New a.1 a.2) (fun a K h => by kernel_rfl) callee21 rfl
end Go.Proofs.YtdleanjofhghnaaDoor.K
namespace Go.Proofs.YtdleanjofhghnaaDoor.K
open Go
abbrev cPl := S_ref11_Place.cells
theorem rp_len : ∀ x, (cPl x).length = 7 := fun _ => rfl
def PlOk (q : S_ref11_Place) : En → Prop
  | none => q.Live = false
  | some (t, _) => q.Live = true ∧ q.Cap = t.Cap ∧ q.Rights = t.Rights ∧ q.Parent = t.Parent
def whenP (pl : List S_ref11_Place) (z : Int) : Int := ((pl[z.toNat]?).map S_ref11_Place.When).getD 0
structure RefRel (es : List En) (pl : List S_ref11_Place) (ev : Nat) : Prop where
  len : pl.length = es.length
  ent : ∀ (i : Nat) q e, pl[i]? = some q → es[i]? = some e → PlOk q e
  when : ∀ i t ks, Has es i t ks → 0 ≤ whenP pl (i : Int) ∧ whenP pl (i : Int) < ev
  kids : ∀ i t ks, Has es i t ks → ks.Pairwise fun a b => whenP pl a < whenP pl b
structure RefAt (h : H) (p : Nat) (s : Sl) (pl : List S_ref11_Place) (ev : Nat) : Prop where
  cell : h p = some (.cells (S_ref11_Catalogue.cells ⟨s, ev⟩).toArray N_ref11_Catalogue (0, 0))
  buf : Buf cPl 7 N_ref11_Place h s pl
structure Ref (h : H) (p : Nat) (ev : Nat) (G : Nat → Prop) (es : List En) : Prop where
  ex : ∃ s pl, RefAt h p s pl ev ∧ RefRel es pl ev ∧ ∀ c, G c ↔ c = p ∨ s.foot c
  wf : CWF es
section
variable {h : H} {p : Nat} {s : Sl} {pl : List S_ref11_Place} {ev : Nat} {es : List En}
theorem RefAt.but {h' : H} {E : Nat → Prop} (x : RefAt h p s pl ev) (k : But E h h') (f : ∀ c, E c → c ≠ p ∧ ¬ s.foot c) : RefAt h' p s pl ev := ⟨k _ _ x.cell fun q => (f _ q).1 rfl, x.buf.but k fun a ha q => (f _ q).2 ⟨a, ha, rfl⟩⟩
end
section
variable {h : H} {p : Nat} {ev : Nat} {G : Nat → Prop} {es : List En}
theorem Ref.but {h' : H} {E : Nat → Prop} (x : Ref h p ev G es) (k : But E h h') (f : ∀ c, E c → ¬ G c) : Ref h' p ev G es := by
  obtain ⟨s, pl, a, b, c⟩ := x.ex
  exact ⟨⟨s, pl, a.but k fun z e => ⟨fun q => f z e ((c z).2 (.inl q)), fun q => f z e ((c z).2 (.inr q))⟩, b, c⟩, x.wf⟩
theorem Ref.has (x : Ref h p ev G es) {c : Nat} (f : G c) : h c ≠ none := by
  obtain ⟨s, pl, a, b, d⟩ := x.ex
  rcases (d c).1 f with q | q
  · rw [q, a.cell]; exact fun z => by cases z
  · exact a.buf.has q
theorem t_RNew {a0 a1 : Int} {K : Option Addr × Int → H → Prop} (bad : (a0 < 1 ∨ 256 < a0 ∨ a1 < 0 ∨ 64 < a1) → K (none, 16) h)
    (good : 0 ≤ a1 → a1 ≤ 64 → ∀ n : Nat, a0 = n → 1 ≤ n → n ≤ 256 → ∀ p G h', Ref h' p 0 G (List.replicate n none) → Keeps h h' → (∀ c, G c → h c = none) → K (some ⟨p, 0, none⟩, 0) h') : m_ref11_New a0 a1 K h := by
  unfold m_ref11_New
  refine w_if (fun c => bad ?_) fun c => ?_
  · simp only [Bool.or_eq_true, decide_eq_true_eq] at c; omega
  simp only [Bool.or_eq_false_iff, decide_eq_false_iff_not] at c
  obtain ⟨n, rfl⟩ : ∃ n : Nat, a0 = n := ⟨a0.toNat, by omega⟩
  refine w_make rp_len ⟨false, ⟨0, ⟨0, 0⟩⟩, 0, 0, 0⟩ rfl rfl rfl (by omega) (by omega) fun s h1 bu k1 f1 _ => w_box fun p h2 f2 c2 k2 => ?_
  have no : ∀ {i t ks}, ¬ Has (List.replicate n none) i t ks := fun h => by
    have := List.eq_of_mem_replicate (List.mem_of_getElem? h)
    cases this
  refine good (by omega) (by omega) n rfl (by omega) (by omega) p _ h2 ⟨⟨s, _, ⟨c2, bu.keep k2⟩, ⟨by simp, fun i q e h1 h2 => ?_, fun i t ks h => (no h).elim, fun i t ks h => (no h).elim⟩, fun _ => Iff.rfl⟩, CWF.empty (by omega) (by omega)⟩ (k1.trans k2) fun c f => ?_
  · obtain rfl := List.eq_of_mem_replicate (List.mem_of_getElem? h1)
    obtain rfl := List.eq_of_mem_replicate (List.mem_of_getElem? h2)
    rfl
  · rcases f with rfl | f
    · exact k1.fresh f2
    · exact f1 c f
end
deriving instance DecidableEq for S_api_Token
def intoV (a b : Int) : Int := if a.tmod b < 0 then a.tmod b + b else a.tmod b
theorem intoV_rng (a : Int) {b : Int} (h : 0 < b) : 0 ≤ intoV a b ∧ intoV a b < b := by
  unfold intoV
  have h1 := Int.tmod_lt_of_pos a h
  have h2 := Int.lt_tmod_of_pos a h
  split <;> omega
end Go.Proofs.YtdleanjofhghnaaDoor.K
namespace Go.Proofs.YtdleanjofhghnaaDoor.K
open Go Go.Proofs
def m_quota_New (a0 : Int) (a1 : Int) (K : (Option Addr × Int) → H → Prop) : H → Prop :=
 mIf ((((decide (a0 < 1)) || (decide (256 < a0))) || (decide (a1 < 1))) || (decide (256 < a1))) (
 K (none, 16)
 ) (
 mMakeMap fun m1 =>
 mNew 86 #[(Value.int .i64 a0), (Value.int .i64 a1), (Value.map m1)] fun ad2 =>
 K ((some ad2), 0)
 )
def x_quota_New : Cx Tryd.prog := ⟨tys, [], [], [], mixed⟩
def h_quota_New : Hint := (.seq .d (.seq (.seq (.reg (.run [3, 7, 11] (.sel 8 11 3584 (.run [15, 19, 23] .nil) (.run [15, 19, 23] .nil) (.run [27] (.sel 12 15 57344 (.run [31, 35, 39] .nil) (.run [31, 35, 39] .nil) (.run [43] (.sel 16 19 917504 (.run [47, 51, 55] .nil) (.run [47, 51, 55] .nil) .nil))))))) .d) .d))
def s_quota_New : Spec Tryd.prog := mkSpec x_quota_New 19 Tryd.f19 [(tInt .i64), (tInt .i64)] [tPtr, (tInt .i64)] false h_quota_New (fun a => m_quota_New a.1 a.2) (fun a K h => by kernel_rfl) callee19 rfl
def m_quota_Quota_Of (a0 : Option Addr) (a1 : Int) (K : (Int) → H → Prop) : H → Prop :=
 mDeref a0 fun ad1 =>
 mLoad cMap (ad1.add 2) fun x2 =>
 mLookup (eqV Tryd.prog 40 3) (Value.int .i64) 0 x2 (Value.int .i64 a1) fun r3 =>
 K r3.1
def x_quota_Quota_Of : Cx Tryd.prog := ⟨tys, [], [], [], mixed⟩
def h_quota_Quota_Of : Hint := .d
def s_quota_Quota_Of : Spec Tryd.prog := mkSpec x_quota_Quota_Of 12 Tryd.f12 [tPtr, (tInt .i64)] [(tInt .i64)] false h_quota_Quota_Of (fun a => m_quota_Quota_Of a.1 a.2) (fun a K h => by kernel_rfl) callee12 rfl
def m_quota_Quota_All (a0 : Option Addr) (K : (Int) → H → Prop) : H → Prop :=
 mDeref a0 fun ad1 =>
 mLoad cMap (ad1.add 2) fun x2 =>
 mRange x2 fun it3 =>
 mLoop (fun (rec5 : Int → H → Prop) (s4 : Int) =>
 mNext it3 fun n6 =>
 mIf n6.1 (
 mEntry (Value.int .i64) (Value.int .i64) it3 fun e7 =>
 rec5 (iAdd .i64 s4 e7.2)
 ) (
 K s4
 )
 ) 0
def x_quota_Quota_All : Cx Tryd.prog := ⟨tys, [], [], [(13, 3, 3)], mixed⟩
def h_quota_Quota_All : Hint := (.seq .d (.seq .d (.seq (.seq .d (.blk (.loop [.slot 3 (tInt .i64)] 260136 [] .d))) .d)))
def s_quota_Quota_All : Spec Tryd.prog := mkSpec x_quota_Quota_All 14 Tryd.f14 [tPtr] [(tInt .i64)] false h_quota_Quota_All (fun a => m_quota_Quota_All a) (fun a K h => by kernel_rfl) callee14 rfl
def m_quota_Quota_May (a0 : Option Addr) (a1 : Int) (K : (Int) → H → Prop) : H → Prop :=
 mDeref a0 fun ad1 =>
 mJoin (fun (s2 : Int × Int) =>
 mIf (decide (s2.2 ≤ s2.1)) (
 K 9
 ) (
 mDeref a0 fun ad8 =>
 mJoin (fun (s9 : Int × Int) =>
 mIf (decide (s9.2 ≤ s9.1)) (
 K 10
 ) (
 K 0
 )
 ) (fun j10 =>
 mBoth (
 m_quota_Quota_All a0 fun r11 =>
 mLoad (cInt .i64) (ad8.add 1) fun x12 =>
 j10 (r11, x12)
 ) (
 mLoad (cInt .i64) (ad8.add 1) fun x13 =>
 m_quota_Quota_All a0 fun r14 =>
 j10 (r14, x13)
 ))
 )
 ) (fun j3 =>
 mBoth (
 m_quota_Quota_Of a0 a1 fun r4 =>
 mLoad (cInt .i64) (ad1.add 0) fun x5 =>
 j3 (r4, x5)
 ) (
 mLoad (cInt .i64) (ad1.add 0) fun x6 =>
 m_quota_Quota_Of a0 a1 fun r7 =>
 j3 (r7, x6)
 ))
def x_quota_Quota_May : Cx Tryd.prog := ⟨tys, [s_quota_Quota_Of, s_quota_Quota_All], [], [], mixed⟩
def h_quota_Quota_May : Hint := (.seq .d (.seq (.blk (.seq (.reg (.run [0, 4, 12, 16, 20] (.join [.slot 8 (tInt .i64), .slot 12 (tInt .i64)] 4352 [] (.both 2 6 (.run [26] .nil) (.run [11] .nil)) (.run [28, 32] .nil)))) (.cond .d (.seq (.reg (.run [0, 8, 12, 16] (.join [.slot 16 (tInt .i64), .slot 20 (tInt .i64)] 1114112 [] (.both 1 5 (.run [22] .nil) (.run [7] .nil)) (.run [24, 28] .nil)))) .d)))) .d))
def s_quota_Quota_May : Spec Tryd.prog := mkSpec x_quota_Quota_May 34 Tryd.f34 [tPtr, (tInt .i64)] [(tInt .i64)] false h_quota_Quota_May (fun a => m_quota_Quota_May a.1 a.2) (fun a K h => by kernel_rfl) callee34 rfl
def m_quota_Quota_Add (a0 : Option Addr) (a1 : Int) (K : (Int) → H → Prop) : H → Prop :=
 m_quota_Quota_May a0 a1 fun r1 =>
 mIf (decide (r1 = 0)) (
 mDeref a0 fun ad2 =>
 mLoad cMap (ad2.add 2) fun x3 =>
 mLookup (eqV Tryd.prog 40 3) (Value.int .i64) 0 x3 (Value.int .i64 a1) fun r4 =>
 mMapSet (eqV Tryd.prog 40 3) x3 (Value.int .i64 a1) (Value.int .i64 (iAdd .i64 r4.1 1)) <|
 K r1
 ) (
 K r1
 )
def x_quota_Quota_Add : Cx Tryd.prog := ⟨tys, [s_quota_Quota_May], [], [], mixed⟩
def h_quota_Quota_Add : Hint := .d
def s_quota_Quota_Add : Spec Tryd.prog := mkSpec x_quota_Quota_Add 37 Tryd.f37 [tPtr, (tInt .i64)] [(tInt .i64)] false h_quota_Quota_Add (fun a => m_quota_Quota_Add a.1 a.2) (fun a K h => by kernel_rfl) callee37 rfl
end Go.Proofs.YtdleanjofhghnaaDoor.K
namespace Go.Proofs.YtdleanjofhghnaaDoor.K
open Go
theorem keyI {t : TypeId} (hu : Tryd.prog.underlying t = some (.int .i64)) : KeyEq (eqV Tryd.prog 40 t) (Value.int .i64) := fun a b => by
  show eqV Tryd.prog (39 + 1) t _ _ = _
  rw [eqV.eq_2, hu]
  rfl
structure QuotaAt (h : H) (p b : Nat) (each all : Int) (l : List (Int × Int)) : Prop where
  cell : h p = some (.cells (S_quota_Quota.cells ⟨each, all, some b⟩).toArray N_quota_Quota (0, 0))
  map : MapOf (Value.int .i64) (Value.int .i64) h b l
  ne : p ≠ b
  once : Once l
  pos : ∀ q ∈ l, 1 ≤ q.2
  bnd : asum l ≤ 256
theorem QuotaAt.keep {h h' : H} {p b : Nat} {each all : Int} {l : List (Int × Int)} (x : QuotaAt h p b each all l) (k : Keeps h h') : QuotaAt h' p b each all l := ⟨k _ _ x.cell, x.map.keep k, x.ne, x.once, x.pos, x.bnd⟩
theorem QuotaAt.but {h h' : H} {F : Nat → Prop} {p b : Nat} {each all : Int} {l : List (Int × Int)} (x : QuotaAt h p b each all l) (k : But F h h') (f1 : ¬ F p) (f2 : ¬ F b) : QuotaAt h' p b each all l := ⟨k _ _ x.cell f1, x.map.but k f2, x.ne, x.once, x.pos, x.bnd⟩
def qcnt (l : List (Int × Int)) (k : Int) : Int := (alook l k).getD 0
section
variable {h : H} {p b : Nat} {each all : Int} {l : List (Int × Int)}
theorem QuotaAt.f0 (x : QuotaAt h p b each all l) : At h ((⟨p, 0, none⟩ : Addr).add 0) (cInt .i64 each) := At.own (l1 := []) (l3 := (S_quota_Quota.cells ⟨each, all, some b⟩).drop 1) x.cell rfl
theorem QuotaAt.f1 (x : QuotaAt h p b each all l) : At h ((⟨p, 0, none⟩ : Addr).add 1) (cInt .i64 all) := At.own (l1 := (S_quota_Quota.cells ⟨each, all, some b⟩).take 1) (l3 := (S_quota_Quota.cells ⟨each, all, some b⟩).drop 2) x.cell rfl
theorem QuotaAt.f2 (x : QuotaAt h p b each all l) : At h ((⟨p, 0, none⟩ : Addr).add 2) (cMap (some b)) := At.own (l1 := (S_quota_Quota.cells ⟨each, all, some b⟩).take 2) (l3 := []) x.cell rfl
theorem qcnt_nonneg (x : ∀ q ∈ l, 1 ≤ q.2) (k : Int) : 0 ≤ qcnt l k := by
  unfold qcnt
  cases e : alook l k with
  | none => exact Int.le_refl _
  | some v => have h : (1 : Int) ≤ v := x _ (alook_mem e); show (0 : Int) ≤ v; omega
theorem qcnt_le (x : ∀ q ∈ l, 1 ≤ q.2) (k : Int) : qcnt l k ≤ asum l := by
  have := asum_del k l
  have h2 := asum_nonneg (l := adel l k) fun q hq => x q (adel_sub k l q hq)
  unfold qcnt
  omega
theorem t_QNew {each all : Int} {K : Option Addr × Int → H → Prop} (bad : (each < 1 ∨ 256 < each ∨ all < 1 ∨ 256 < all) → K (none, 16) h)
    (good : 1 ≤ each → each ≤ 256 → 1 ≤ all → all ≤ 256 → ∀ p b h', QuotaAt h' p b each all [] → Keeps h h' → h p = none → h b = none → K (some ⟨p, 0, none⟩, 0) h') : m_quota_New each all K h := by
  unfold m_quota_New
  refine w_if (fun c => bad ?_) fun c => ?_
  · simp only [Bool.or_eq_true, decide_eq_true_eq] at c; omega
  · simp only [Bool.or_eq_false_iff, decide_eq_false_iff_not] at c
    refine w_makeMap (Value.int .i64) (Value.int .i64) fun b h1 f1 x1 k1 => w_new fun p fp => ?_
    have hb : ∃ o, h1 b = some o := by obtain ⟨_, _, e, _⟩ := x1.ex; exact ⟨_, e⟩
    refine good (by omega) (by omega) (by omega) (by omega) p b _ ⟨upd_same _ _ _, x1.keep (.new fp), fun e => ?_, List.nodup_nil, fun q hq => (by cases hq), by decide⟩ (k1.trans (.new fp)) (k1.fresh fp) f1
    subst e; obtain ⟨o, e⟩ := hb; rw [fp] at e; cases e
theorem t_QOf (x : QuotaAt h p b each all l) {k : Int} {K : Int → H → Prop} (y : K (qcnt l k) h) : m_quota_Quota_Of (some ⟨p, 0, none⟩) k K h := by
  unfold m_quota_Quota_Of
  exact w_deref (w_load x.f2 (w_lookup (keyI (by kernel_rfl)) x.map y))
theorem t_QAll (x : QuotaAt h p b each all l) {K : Int → H → Prop} (y : ∀ h', Keeps h h' → K (asum l) h') : m_quota_Quota_All (some ⟨p, 0, none⟩) K h := by
  unfold m_quota_Quota_All
  refine w_deref (w_load x.f2 (w_range x.map fun it h1 f1 it1 k1 => ?_))
  have hne : it.block ≠ b := fun e => by
    obtain ⟨_, _, z, _⟩ := x.map.ex
    rw [e, z] at f1; cases f1
  refine w_for l.length (fun j s h' => ∃ rest at_, IterOf (Value.int .i64) (Value.int .i64) h' it b l rest at_ ∧ rest.length + j = l.length ∧ s + asum rest = asum l ∧ 0 ≤ s ∧ (∀ q ∈ rest, 1 ≤ q.2) ∧ But (· = it.block) h1 h') ?_ ⟨l, none, it1, rfl, by omega, Int.le_refl _, x.pos, .refl _ _⟩
  rintro rec j s h2 hj ⟨rest, at_, it2, hl, hs, hs0, hp, b2⟩ more
  refine w_next it2 hne (fun e => w_ifF rfl ?_) fun q rest' h3 pm it3 b3 d3 => w_ifT rfl (w_entry it3 ?_)
  · subst e
    have : s = asum l := by simpa [asum] using hs
    subst this
    exact y h2 (k1.but b2 fun n e => by subst e; exact f1)
  · have e1 := asum_perm pm
    have e2 := pm.length_eq
    have hp' : ∀ z ∈ q :: rest', 1 ≤ z.2 := fun z hz => hp z (pm.symm.subset hz)
    have h0 := asum_nonneg fun z hz => hp' z (List.mem_cons_of_mem _ hz)
    have h1q := hp' q (List.mem_cons_self ..)
    have hb := x.bnd
    simp only [asum, List.length_cons] at e1 e2
    refine more _ _ (by omega) ⟨rest', some q, it3, by omega, ?_, ?_, fun z hz => hp' z (List.mem_cons_of_mem _ hz), b2.trans b3 fun _ f => .inl f⟩
    · rw [iAdd_eq (by omega) (by omega)]; omega
    · rw [iAdd_eq (by omega) (by omega)]; omega
def mayOf (each all : Int) (l : List (Int × Int)) (k : Int) : Int := if each ≤ qcnt l k then 9 else if all ≤ asum l then 10 else 0
theorem t_QMay (x : QuotaAt h p b each all l) {k : Int} {K : Int → H → Prop} (y : ∀ h', Keeps h h' → K (mayOf each all l k) h') : m_quota_Quota_May (some ⟨p, 0, none⟩) k K h := by
  unfold m_quota_Quota_May
  unfold mayOf at y
  refine w_deref (w_joinV (qcnt l k, each) (fun j hj => w_both (t_QOf x (w_load x.f0 hj)) (w_load x.f0 (t_QOf x hj))) ?_)
  refine w_if' (fun c => ?_) fun c => ?_
  · have c : each ≤ qcnt l k := c
    simp only [if_pos c] at y
    exact y h (.refl _)
  have c : ¬ each ≤ qcnt l k := c
  simp only [if_neg c] at y
  refine w_deref (w_joinP (fun z h' => z = (asum l, all) ∧ Keeps h h') (fun j hj => w_both (t_QAll x fun h' k' => w_load (x.keep k').f1 (hj _ _ ⟨rfl, k'⟩)) (w_load x.f1 (t_QAll x fun h' k' => hj _ _ ⟨rfl, k'⟩))) ?_)
  rintro _ h' ⟨rfl, k'⟩
  refine w_if' (fun c2 => ?_) fun c2 => ?_
  · have c2 : all ≤ asum l := c2
    simp only [if_pos c2] at y
    exact y h' k'
  · have c2 : ¬ all ≤ asum l := c2
    simp only [if_neg c2] at y
    exact y h' k'
def addL (each all : Int) (l : List (Int × Int)) (k : Int) : List (Int × Int) := if mayOf each all l k = 0 then aset l k (qcnt l k + 1) else l
theorem may_zero {each all : Int} {l : List (Int × Int)} {k : Int} (h : mayOf each all l k = 0) : qcnt l k < each ∧ asum l < all := by
  unfold mayOf at h
  split at h
  · cases h
  · split at h
    · cases h
    · omega
structure Chg (b : Nat) (h h' : H) : Prop where
  but : But (· = b) h h'
  dom : ∀ c, h' c = none → h c = none
theorem Chg.keeps {b : Nat} {h h' : H} (k : Keeps h h') : Chg b h h' := ⟨.of k, fun _ e => k.fresh e⟩
theorem Chg.trans {b : Nat} {h h1 h2 : H} (x : Chg b h h1) (y : Chg b h1 h2) : Chg b h h2 := ⟨x.but.trans y.but fun _ f => .inl f, fun c e => x.dom c (y.dom c e)⟩
theorem QuotaAt.set (x : QuotaAt h p b each all l) {h' : H} {k v : Int} (m : MapOf (Value.int .i64) (Value.int .i64) h' b (aset l k v)) (bt : But (· = b) h h') (hv : 1 ≤ v) (hs : asum l - qcnt l k + v ≤ 256) : QuotaAt h' p b each all (aset l k v) :=
  ⟨bt _ _ x.cell x.ne, m, x.ne, x.once.set _ _, fun q hq => (aset_mem k v l q hq).elim (fun e => by rw [e]; exact hv) (x.pos q), by rw [asum_set]; exact hs⟩
theorem t_QAdd (x : QuotaAt h p b each all l) (ha : all ≤ 256) {k : Int} {K : Int → H → Prop} (y : ∀ h', QuotaAt h' p b each all (addL each all l k) → Chg b h h' → K (mayOf each all l k) h') : m_quota_Quota_Add (some ⟨p, 0, none⟩) k K h := by
  unfold m_quota_Quota_Add
  refine t_QMay x fun h1 k1 => ?_
  have x1 := x.keep k1
  unfold addL at y
  refine w_if' (fun c => ?_) fun c => ?_
  · simp only [if_pos c] at y
    obtain ⟨m1, m2⟩ := may_zero c
    have c0 := qcnt_nonneg x.pos k
    have c1 := qcnt_le x.pos k
    have hb := x.bnd
    refine w_deref (w_load x1.f2 (w_lookup (keyI (by kernel_rfl)) x1.map ?_))
    show mMapSet _ _ _ (Value.int .i64 (iAdd .i64 (qcnt l k) 1)) _ h1
    rw [iAdd_eq (by omega) (by omega)]
    refine w_mapSet (keyI (by kernel_rfl)) x1.map rfl rfl fun h2 mp b2 d2 => ?_
    exact y h2 (x1.set mp b2 (by omega) (by omega)) ((Chg.keeps k1).trans ⟨b2, d2⟩)
  · simp only [if_neg c] at y
    exact y h1 x1 (.keeps k1)
end
end Go.Proofs.YtdleanjofhghnaaDoor.K
namespace Go.Proofs.YtdleanjofhghnaaDoor.K
open Go Go.Proofs
def m_ref12_New (a0 : Int) (a1 : Int) (K : (Option Addr × Int) → H → Prop) : H → Prop :=
 mIf ((((decide (a0 < 1)) || (decide (256 < a0))) || (decide (a1 < 1))) || (decide (256 < a1))) (
 K (none, 16)
 ) (
 mNew 111 #[(Value.int .i64 a0), (Value.int .i64 a1), (Sl.val Sl.nil)] fun ad1 =>
 K ((some ad1), 0)
 )
def x_ref12_New : Cx Tryd.prog := ⟨tys, [], [], [], mixed⟩
def h_ref12_New : Hint := (.seq .d (.seq (.seq (.reg (.run [3, 7, 11] (.sel 8 11 3584 (.run [15, 19, 23] .nil) (.run [15, 19, 23] .nil) (.run [27] (.sel 12 15 57344 (.run [31, 35, 39] .nil) (.run [31, 35, 39] .nil) (.run [43] (.sel 16 19 917504 (.run [47, 51, 55] .nil) (.run [47, 51, 55] .nil) .nil))))))) .d) .d))
def s_ref12_New : Spec Tryd.prog := mkSpec x_ref12_New 22 Tryd.f22 [(tInt .i64), (tInt .i64)] [tPtr, (tInt .i64)] false h_ref12_New (fun a => m_ref12_New a.1 a.2) (fun a K h => by kernel_rfl) callee22 rfl
end Go.Proofs.YtdleanjofhghnaaDoor.K
namespace Go.Proofs.YtdleanjofhghnaaDoor.K
open Go
structure RefQ (h : H) (r : Nat) (each most : Int) (s : Sl) (L : List Int) : Prop where
  cell : h r = some (.cells (S_ref12_Quota.cells ⟨each, most, s⟩).toArray N_ref12_Quota (0, 0))
  buf : Buf (cInt .i64) 1 N_int h s L
  ne : ¬ s.foot r
  len : L.length ≤ 256
section
variable {h : H} {r : Nat} {each most : Int} {s : Sl} {L : List Int}
theorem RefQ.but {h' : H} {F : Nat → Prop} (x : RefQ h r each most s L) (k : But F h h') (f1 : ¬ F r) (f2 : ∀ c, s.foot c → ¬ F c) : RefQ h' r each most s L :=
  ⟨k _ _ x.cell f1, x.buf.but k fun a ha => f2 _ ⟨a, ha, rfl⟩, x.ne, x.len⟩
theorem t_QRNew {each most : Int} {K : Option Addr × Int → H → Prop} (bad : (each < 1 ∨ 256 < each ∨ most < 1 ∨ 256 < most) → K (none, 16) h)
    (good : 1 ≤ each → each ≤ 256 → 1 ≤ most → most ≤ 256 → ∀ r h', RefQ h' r each most Sl.nil [] → Keeps h h' → h r = none → K (some ⟨r, 0, none⟩, 0) h') : m_ref12_New each most K h := by
  unfold m_ref12_New
  refine w_if (fun c => bad ?_) fun c => ?_
  · simp only [Bool.or_eq_true, decide_eq_true_eq] at c; omega
  · simp only [Bool.or_eq_false_iff, decide_eq_false_iff_not] at c
    exact w_new fun r fr => good (by omega) (by omega) (by omega) (by omega) r _ ⟨upd_same _ _ _, Buf.nil, (fun ⟨a, ha, _⟩ => by cases ha), by decide⟩ (.new fr) fr
end
abbrev Owner := Nat → Option Nat
structure OC (i : Nat) (o o' : Owner) (h h' : H) : Prop where
  but : ∀ c x, h c = some x → o c ≠ some i → h' c = some x
  own : ∀ c t, o c = some t → o' c = some t
  new : ∀ c, o' c ≠ none → o c ≠ none ∨ h c = none
  dom : ∀ c, h' c = none → h c = none
structure OT (o o' : Owner) (h h' : H) : Prop where
  but : ∀ c x, h c = some x → o c = none → h' c = some x
  own : ∀ c t, o c = some t → o' c = some t
  new : ∀ c, o' c ≠ none → o c ≠ none ∨ h c = none
  dom : ∀ c, h' c = none → h c = none
def Owns (o : Owner) (h : H) : Prop := ∀ c, o c ≠ none → h c ≠ none
section
variable {i : Nat} {o o' o'' : Owner} {h h' h'' : H}
theorem OC.ot (k : OC i o o' h h') : OT o o' h h' := ⟨fun c x e n => k.but c x e (by rw [n]; simp), k.own, k.new, k.dom⟩
theorem OT.trans (x : OT o o' h h') (y : OT o' o'' h' h'') : OT o o'' h h'' := by
  refine ⟨fun c z e n => ?_, fun c t e => y.own c t (x.own c t e), fun c e => ?_, fun c e => x.dom c (y.dom c e)⟩
  · have h1 := x.but c z e n
    refine y.but c z h1 ?_
    cases q : o' c with
    | none => rfl
    | some t => exact (x.new c (by rw [q]; simp)).elim (fun q => (q n).elim) fun q => by rw [q] at e; cases e
  · rcases y.new c e with q | q
    · exact x.new c q
    · exact .inr (x.dom c q)
theorem OC.keeps (k : Keeps h h') : OC i o o h h' := ⟨fun c x e _ => k c x e, fun _ _ e => e, fun _ e => .inl e, fun _ e => k.fresh e⟩
theorem OC.bt (k : OC i o o' h h') : But (fun c => o c = some i) h h' := fun c x e n => k.but c x e n
open Classical in
/-- Part 'i' owns these blocks from now on. -/
noncomputable def give (o : Owner) (G : Nat → Prop) (i : Nat) : Owner := fun c => if o c = none ∧ G c then some i else o c
theorem give_old {G : Nat → Prop} {c t : Nat} (e : o c = some t) : give o G i c = some t := by
  unfold give; rw [if_neg (by rw [e]; simp)]; exact e
theorem give_new {G : Nat → Prop} {c : Nat} (g : G c) (e : o c = none ∨ o c = some i) : give o G i c = some i := by
  rcases e with e | e
  · unfold give; rw [if_pos ⟨e, g⟩]
  · exact give_old e
theorem give_ne {G : Nat → Prop} {c : Nat} (e : give o G i c ≠ none) : o c ≠ none ∨ G c := by
  by_cases q : o c = none ∧ G c
  · exact .inr q.2
  · unfold give at e; rw [if_neg q] at e; exact .inl e
theorem OC.of {G G' : Nat → Prop} (ow : Owns o h) (hG : ∀ c, G c → o c = some i) (k : KChg G G' h h') (has : ∀ c, G' c → h' c ≠ none) :
    OC i o (give o G' i) h h' ∧ Owns (give o G' i) h' ∧ ∀ c, G' c → give o G' i c = some i := by
  refine ⟨⟨fun c x e n => k.but c x e fun g => n (hG c g), fun c t e => give_old e, fun c e => ?_, k.dom⟩, fun c e => ?_, fun c g => give_new g ?_⟩
  · rcases give_ne e with q | q
    · exact .inl q
    · rcases k.foot c q with z | z
      · exact .inl (by rw [hG c z]; simp)
      · exact .inr z
  · rcases give_ne e with q | q
    · exact fun z => ow c q (k.dom c z)
    · exact has c q
  · rcases k.foot c g with z | z
    · exact .inr (hG c z)
    · cases q : o c with
      | none => exact .inl rfl
      | some t => exact absurd z (ow c (by rw [q]; simp))
theorem OC.fresh {G : Nat → Prop} (ow : Owns o h) (k : Keeps h h') (f : ∀ c, G c → h c = none) (has : ∀ c, G c → h' c ≠ none) :
    OC i o (give o G i) h h' ∧ Owns (give o G i) h' ∧ ∀ c, G c → give o G i c = some i :=
  OC.of (G := fun _ => False) ow (fun _ q => q.elim) ⟨.of k, fun c g => .inr (f c g), fun _ e => k.fresh e⟩ has
theorem Owns.keep (ow : Owns o h) (k : Keeps h h') : Owns o h' := fun c e z => ow c e (k.fresh z)
end
def CatO (h : H) (o : Owner) (i p : Nat) (es : List En) : Prop := ∃ knob G, Cat h p knob G es ∧ ∀ c, G c → o c = some i
def RefO (h : H) (o : Owner) (i p ev : Nat) (es : List En) : Prop := ∃ G, Ref h p ev G es ∧ ∀ c, G c → o c = some i
def QuoO (h : H) (o : Owner) (i p : Nat) (each all : Int) (l : List (Int × Int)) : Prop := ∃ b, QuotaAt h p b each all l ∧ o p = some i ∧ o b = some i
def RqO (h : H) (o : Owner) (i r : Nat) (each most : Int) (L : List Int) : Prop := ∃ s, RefQ h r each most s L ∧ o r = some i ∧ ∀ c, s.foot c → o c = some i
section
variable {i j : Nat} {o o' : Owner} {h h' : H} {p r s q ev : Nat} {es : List En} {each all most next : Int} {np : Nat} {l : List (Int × Int)} {L : List Int} {ob : List (Int × List UInt8)}
theorem CatO.oc (x : CatO h o i p es) (k : OC j o o' h h') (ne : i ≠ j) : CatO h' o' i p es := by
  obtain ⟨knob, G, a, b⟩ := x
  exact ⟨knob, G, a.but k.bt fun c e g => ne (by have := b c g; rw [e] at this; exact (Option.some.inj this).symm), fun c g => k.own _ _ (b c g)⟩
theorem RefO.oc (x : RefO h o i p ev es) (k : OC j o o' h h') (ne : i ≠ j) : RefO h' o' i p ev es := by
  obtain ⟨G, a, b⟩ := x
  exact ⟨G, a.but k.bt fun c e g => ne (by have := b c g; rw [e] at this; exact (Option.some.inj this).symm), fun c g => k.own _ _ (b c g)⟩
theorem QuoO.oc (x : QuoO h o i p each all l) (k : OC j o o' h h') (ne : i ≠ j) : QuoO h' o' i p each all l := by
  obtain ⟨b, a, b1, b2⟩ := x
  exact ⟨b, a.but k.bt (fun e => ne (by rw [b1] at e; exact Option.some.inj e)) (fun e => ne (by rw [b2] at e; exact Option.some.inj e)), k.own _ _ b1, k.own _ _ b2⟩
theorem RqO.oc (x : RqO h o i r each most L) (k : OC j o o' h h') (ne : i ≠ j) : RqO h' o' i r each most L := by
  obtain ⟨s, a, b1, b2⟩ := x
  exact ⟨s, a.but k.bt (fun e => ne (by rw [b1] at e; exact Option.some.inj e)) (fun c f e => ne (by rw [b2 c f] at e; exact Option.some.inj e)), k.own _ _ b1, fun c f => k.own _ _ (b2 c f)⟩
theorem o_find (x : CatO h o i p es) {c : S_api_Cap} {K : Int × Bool → H → Prop} (y : K (((findE es c).map fun n : Nat => (n : Int)).getD 0, (findE es c).isSome) h) : m_catalogue_Catalogue_Find (some ⟨p, 0, none⟩) c K h := by
  obtain ⟨_, _, a, _⟩ := x; exact t_CFind a y
theorem o_at (x : CatO h o i p es) {n : Int} {K : S_api_Token × Bool → H → Prop} (y : K (atOut es n) h) : m_catalogue_Catalogue_At (some ⟨p, 0, none⟩) n K h := by
  obtain ⟨_, _, a, _⟩ := x; exact t_CAt a y
theorem o_root (x : CatO h o i p es) (ow : Owns o h) {c : S_api_Cap} {r : Int} {K : Int × Int → H → Prop} (y : ∀ o' h', CatO h' o' i p (rootOut es c r).2 → OC i o o' h h' → Owns o' h' → K (rootOut es c r).1 h') : m_catalogue_Catalogue_Root (some ⟨p, 0, none⟩) c r K h := by
  obtain ⟨knob, G, a, b⟩ := x
  refine t_CRoot a fun G' h' a' k => ?_
  obtain ⟨k1, k2, k3⟩ := OC.of ow b k fun c g => a'.has g
  exact y _ h' ⟨knob, G', a', k3⟩ k1 k2
theorem o_child (x : CatO h o i p es) (ow : Owns o h) {n : Int} {c : S_api_Cap} {r : Int} {K : Int × Int → H → Prop} (y : ∀ o' h', CatO h' o' i p (childOut es n c r).2 → OC i o o' h h' → Owns o' h' → K (childOut es n c r).1 h') : m_catalogue_Catalogue_Child (some ⟨p, 0, none⟩) n c r K h := by
  obtain ⟨knob, G, a, b⟩ := x
  refine t_CChild a fun G' h' a' k => ?_
  obtain ⟨k1, k2, k3⟩ := OC.of ow b k fun c g => a'.has g
  exact y _ h' ⟨knob, G', a', k3⟩ k1 k2
theorem Chg.oc {b : Nat} (ow : Owns o h) (k : Chg b h h') (e : o b = some i) : OC i o o h h' ∧ Owns o h' := ⟨⟨fun c x hc n => k.but c x hc fun q => n (by (have q : c = b := q); rw [q, e]), fun _ _ q => q, fun _ q => .inl q, k.dom⟩, fun c q z => ow c q (k.dom c z)⟩
theorem o_qadd (x : QuoO h o i p each all l) (ow : Owns o h) (ha : all ≤ 256) {n : Int} {K : Int → H → Prop} (y : ∀ h', QuoO h' o i p each all (addL each all l n) → OC i o o h h' → Owns o h' → K (mayOf each all l n) h') : m_quota_Quota_Add (some ⟨p, 0, none⟩) n K h := by
  obtain ⟨b, a, b1, b2⟩ := x
  refine t_QAdd a ha fun h' a' k => ?_
  obtain ⟨k1, k2⟩ := k.oc ow b2
  exact y h' ⟨b, a', b1, b2⟩ k1 k2
theorem o_qof (x : QuoO h o i p each all l) {n : Int} {K : Int → H → Prop} (y : K (qcnt l n) h) : m_quota_Quota_Of (some ⟨p, 0, none⟩) n K h := by
  obtain ⟨_, a, _⟩ := x; exact t_QOf a y
end
end Go.Proofs.YtdleanjofhghnaaDoor.K
namespace Go.Proofs.YtdleanjofhghnaaDoor.K
open Go Go.Proofs
def m_wide_cut (a0 : Int) (a1 : Int) (K : (Int) → H → Prop) : H → Prop :=
 mIf (decide (a1 ≤ 0)) (
 K 0
 ) (
 mIf (decide (64 ≤ a1)) (
 K a0
 ) (
 mNN a1 <|
 K (iAnd .u64 a0 (iSub .u64 (iShl .u64 1 a1) 1))
 )
 )
def x_wide_cut : Cx Tryd.prog := ⟨tys, [], [], [], mixed⟩
def h_wide_cut : Hint := .d
def s_wide_cut : Spec Tryd.prog := mkSpec x_wide_cut 47 Tryd.f47 [(tInt .u64), (tInt .i64)] [(tInt .u64)] true h_wide_cut (fun a => m_wide_cut a.1 a.2) (fun a K h => by kernel_rfl) callee47 rfl
def m_wide_Cut (a0 : S_api_Word) (a1 : Int) (K : (S_api_Word) → H → Prop) : H → Prop :=
 mPure (m_wide_cut a0.Hi (iSub .i64 (iMin (iMax a1 0) 128) 64)) fun r1 =>
 mPure (m_wide_cut a0.Lo (iMin (iMax a1 0) 128)) fun r2 =>
 K (⟨r1, r2⟩ : S_api_Word)
def x_wide_Cut : Cx Tryd.prog := ⟨tys, [s_wide_cut], [2, 4], [], mixed⟩
def h_wide_Cut : Hint := (.seq .d (.seq .d (.seq (.reg (.run [0, 8, 12, 20, 28, 5, 16, 25, 32, 36, 43] .nil)) .d)))
def s_wide_Cut : Spec Tryd.prog := mkSpec x_wide_Cut 28 Tryd.f28 [S_api_Word.ty, (tInt .i64)] [S_api_Word.ty] true h_wide_Cut (fun a => m_wide_Cut a.1 a.2) (fun a K h => by kernel_rfl) callee28 rfl
end Go.Proofs.YtdleanjofhghnaaDoor.K
namespace Go.Proofs.YtdleanjofhghnaaDoor.K
open Go
theorem word_len : ∀ x : S_api_Word, (S_api_Word.cells x).length = 2 := fun _ => rfl
theorem word_plain : ∀ x : S_api_Word, (S_api_Word.cells x).all plainVal = true := fun _ => rfl
def wordOf (n : Nat) : S_api_Word := ⟨((n / 2 ^ 64 : Nat) : Int), ((n % 2 ^ 64 : Nat) : Int)⟩
def valW (hi lo : Nat) : Nat := 2 ^ 64 * hi + lo
def wc (w : Int) : Nat := (min (max w 0) 128).toNat
theorem wc_le (w : Int) : wc w ≤ 128 := by unfold wc; omega
theorem wc_eq (w : Int) : iMin (iMax w 0) 128 = (wc w : Int) := by
  unfold iMin iMax wc
  split <;> split <;> omega
theorem two_le {a b : Nat} (h : a ≤ b) : 2 ^ a ≤ 2 ^ b := Nat.pow_le_pow_right (by decide) h
section
variable {h : H}
theorem p_cut {K : Int → H → Prop} {x : Nat} {b : Int} (hx : x < 2 ^ 64) (k : K ((x % 2 ^ (min b.toNat 64) : Nat) : Int) h) : m_wide_cut (x : Int) b K h := by
  unfold m_wide_cut
  refine w_if' (fun c => ?_) fun c => w_if' (fun c2 => ?_) fun c2 => ?_
  · rw [show min b.toNat 64 = 0 by omega, Nat.pow_zero, Nat.mod_one] at k; exact k
  · rw [show min b.toNat 64 = 64 by omega, Nat.mod_eq_of_lt hx] at k; exact k
  · refine w_nn (by omega) ?_
    obtain ⟨n, rfl⟩ := Int.eq_ofNat_of_zero_le (show 0 ≤ b by omega)
    rw [show min (n : Int).toNat 64 = n by omega] at k
    rw [u_low hx (by omega)]; exact k
theorem wordOf_mod (n c : Nat) (hc : c ≤ 128) : wordOf (n % 2 ^ c) = ⟨((n / 2 ^ 64 % 2 ^ (c - 64) : Nat) : Int), ((n % 2 ^ 64 % 2 ^ (min c 64) : Nat) : Int)⟩ := by
  unfold wordOf
  by_cases h : c ≤ 64
  · have h1 : n % 2 ^ c < 2 ^ 64 := Nat.lt_of_lt_of_le (Nat.mod_lt _ (Nat.two_pow_pos c)) (two_le h)
    rw [Nat.div_eq_of_lt h1, Nat.mod_eq_of_lt h1, show c - 64 = 0 by omega, Nat.min_eq_left h, Nat.mod_mod_of_dvd _ (Nat.pow_dvd_pow 2 h), Nat.pow_zero, Nat.mod_one]
  · have e : 2 ^ c = 2 ^ 64 * 2 ^ (c - 64) := by rw [← Nat.pow_add]; congr 1; omega
    rw [Nat.min_eq_right (by omega), Nat.mod_mod, e, Nat.mod_mul_right_div_self, Nat.mod_mul_right_mod]
theorem p_Cut {K : S_api_Word → H → Prop} {n : Nat} {w : Int} (hn : n < 2 ^ 128) (k : K (wordOf (n % 2 ^ wc w)) h) : m_wide_Cut (wordOf n) w K h := by
  unfold m_wide_Cut
  have hc := wc_le w
  rw [wc_eq, iSub_eq (by omega) (by omega)]
  refine w_pure _ (fun _ _ q => p_cut (by omega) q) (w_pure _ (fun _ _ q => p_cut (by omega) q) ?_)
  rw [wordOf_mod _ _ hc] at k
  rw [show min ((wc w : Int) - 64).toNat 64 = wc w - 64 by omega, show min (wc w : Int).toNat 64 = min (wc w) 64 by omega]
  exact k
end
abbrev cW := S_api_Word.cells
def GoodW (x : S_api_Word) : Prop := ∃ n : Nat, n < 2 ^ 128 ∧ x = wordOf n
def cutW (w : Int) (x : S_api_Word) : S_api_Word := wordOf (valW x.Hi.toNat x.Lo.toNat % 2 ^ wc w)
theorem valW_of (n : Nat) : valW (wordOf n).Hi.toNat (wordOf n).Lo.toNat = n := by
  unfold valW wordOf
  rw [Int.toNat_natCast, Int.toNat_natCast]
  omega
section
variable {h : H}
theorem w_WCut {x : S_api_Word} (g : GoodW x) {w : Int} {k : S_api_Word → H → Prop} (y : k (cutW w x) h) : mPure (m_wide_Cut x w) k h := by
  obtain ⟨n, hn, rfl⟩ := g
  refine w_pure _ (fun _ _ q => p_Cut hn q) ?_
  unfold cutW at y
  rwa [valW_of] at y
end
end Go.Proofs.YtdleanjofhghnaaDoor.K
namespace Go.Proofs.YtdleanjofhghnaaDoor.K
open Go Go.Proofs
def m_draws_New (a0 : Sl) (a1 : Int) (K : (Option Addr × Int) → H → Prop) : H → Prop :=
 mIf ((decide (a1 < 1)) || (decide (128 < a1))) (
 K (none, 18)
 ) (
 mIf (decide (4096 < (a0.len : Int))) (
 K (none, 23)
 ) (
 mNew 83 #[(Sl.val Sl.nil), (Value.int .i64 0)] fun ad1 =>
 mLoop (fun (rec3 : Int → H → Prop) (s2 : Int) =>
 mIf (decide (s2 < (a0.len : Int))) (
 mIdx a0 s2 2 fun ad4 =>
 mLoad S_api_Word.cells ad4 fun x5 =>
 mPure (m_wide_Cut x5 a1) fun r6 =>
 mLoad cSl (ad1.add 0) fun x7 =>
 mApp 30 2 16 #[(Value.int .u64 0), (Value.int .u64 0)] 1 [(Value.int .u64 r6.Hi), (Value.int .u64 r6.Lo)] x7 fun s8 =>
 mStore (ad1.add 0) [(Sl.val s8)] <|
 rec3 (iAdd .i64 s2 1)
 ) (
 K ((some ad1), 0)
 )
 ) 0
 )
 )
def x_draws_New : Cx Tryd.prog := ⟨tys, [s_wide_Cut], [8, 34], [], mixed⟩
def h_draws_New : Hint := (.seq .d (.seq (.seq (.reg (.run [3, 7, 11] (.sel 11 14 28672 (.run [15, 19, 23] .nil) (.run [15, 19, 23] .nil) .nil))) .d) (.seq .d (.seq .d (.seq (.seq .d (.blk (.loop [.slot 22 (tInt .i64)] 549751619840 [] (.seq .d (.seq .d (.seq (.blk (.seq .d (.reg (.run [0, 4, 8, 12, 24, 21, 28, 18, 34, 39, 40, 44, 51] .nil)))) .d)))))) .d)))))
def s_draws_New : Spec Tryd.prog := mkSpec x_draws_New 17 Tryd.f17 [tSl, (tInt .i64)] [tPtr, (tInt .i64)] false h_draws_New (fun a => m_draws_New a.1 a.2) (fun a K h => by kernel_rfl) callee17 rfl
def m_draws_words_from (a0 : Sl) (a1 : Int) (K : (Sl) → H → Prop) : H → Prop :=
 mCut a0 a1 (a0.len : Int) 2 fun s1 =>
 K s1
def x_draws_words_from : Cx Tryd.prog := ⟨tys, [], [], [], mixed⟩
def h_draws_words_from : Hint := .d
def s_draws_words_from : Spec Tryd.prog := mkSpec x_draws_words_from 27 Tryd.f27 [tSl, (tInt .i64)] [tSl] true h_draws_words_from (fun a => m_draws_words_from a.1 a.2) (fun a K h => by kernel_rfl) callee27 rfl
def m_draws_Draws_Draw (a0 : Option Addr) (K : (S_api_Word × Int) → H → Prop) : H → Prop :=
 mDeref a0 fun ad1 =>
 mDeref a0 fun ad2 =>
 mLoad cSl (ad1.add 0) fun x3 =>
 mLoad (cInt .i64) (ad2.add 1) fun x4 =>
 mPure (m_draws_words_from x3 x4) fun r5 =>
 mIf (decide ((r5.len : Int) = 0)) (
 K ((⟨0, 0⟩ : S_api_Word), 11)
 ) (
 mDeref a0 fun ad6 =>
 mLoad (cInt .i64) (ad6.add 1) fun x7 =>
 mDeref a0 fun ad8 =>
 mStore (ad8.add 1) [(Value.int .i64 (iAdd .i64 x7 1))] <|
 mIdx r5 0 2 fun ad9 =>
 mLoad S_api_Word.cells ad9 fun x10 =>
 K (x10, 0)
 )
def x_draws_Draws_Draw : Cx Tryd.prog := ⟨tys, [s_draws_words_from], [2], [], mixed⟩
def h_draws_Draws_Draw : Hint := (.seq .d (.seq (.reg (.run [0, 4, 8, 16, 20, 24, 14, 30, 32, 36] .nil)) .d))
def s_draws_Draws_Draw : Spec Tryd.prog := mkSpec x_draws_Draws_Draw 35 Tryd.f35 [tPtr] [S_api_Word.ty, (tInt .i64)] false h_draws_Draws_Draw (fun a => m_draws_Draws_Draw a) (fun a K h => by kernel_rfl) callee35 rfl
def m_draws_Draws_Taken (a0 : Option Addr) (K : (Int) → H → Prop) : H → Prop :=
 mDeref a0 fun ad1 =>
 mLoad (cInt .i64) (ad1.add 1) fun x2 =>
 K x2
def x_draws_Draws_Taken : Cx Tryd.prog := ⟨tys, [], [], [], mixed⟩
def h_draws_Draws_Taken : Hint := .d
def s_draws_Draws_Taken : Spec Tryd.prog := mkSpec x_draws_Draws_Taken 11 Tryd.f11 [tPtr] [(tInt .i64)] false h_draws_Draws_Taken (fun a => m_draws_Draws_Taken a) (fun a K h => by kernel_rfl) callee11 rfl
def m_ref04_New (a0 : Sl) (a1 : Int) (K : (Option Addr × Int) → H → Prop) : H → Prop :=
 mIf ((decide (a1 < 1)) || (decide (128 < a1))) (
 K (none, 18)
 ) (
 mIf (decide (4096 < (a0.len : Int))) (
 K (none, 23)
 ) (
 mAppend 30 2 16 #[(Value.int .u64 0), (Value.int .u64 0)] Sl.nil a0 fun s1 =>
 mNew 105 #[(Sl.val s1), (Value.int .i64 a1), (Value.int .i64 0)] fun ad2 =>
 K ((some ad2), 0)
 )
 )
def x_ref04_New : Cx Tryd.prog := ⟨tys, [], [], [], mixed⟩
def h_ref04_New : Hint := (.seq .d (.seq (.seq (.reg (.run [3, 7, 11] (.sel 9 12 7168 (.run [15, 19, 23] .nil) (.run [15, 19, 23] .nil) .nil))) .d) .d))
def s_ref04_New : Spec Tryd.prog := mkSpec x_ref04_New 20 Tryd.f20 [tSl, (tInt .i64)] [tPtr, (tInt .i64)] false h_ref04_New (fun a => m_ref04_New a.1 a.2) (fun a K h => by kernel_rfl) callee20 rfl
def m_issue_draw (a0 : Option Addr) (a1 : PV) (K : (S_api_Word × Int) → H → Prop) : H → Prop :=
 mLoop (fun (rec2 : Int → H → Prop) (s1 : Int) =>
 mIf (decide (s1 < 9)) (
 m_draws_Draws_Draw a0 fun r3 =>
 mIf (!decide (r3.2 = 0)) (
 K ((⟨0, 0⟩ : S_api_Word), r3.2)
 ) (
 mCallV (T := Bool) Tryd.prog (fun r => (Value.bool r)) a1.1 [(S_api_Word.val r3.1)] fun r4 =>
 mIf (!r4) (
 K (r3.1, 0)
 ) (
 rec2 (iAdd .i64 s1 1)
 )
 )
 ) (
 K ((⟨0, 0⟩ : S_api_Word), 12)
 )
 ) 0
def x_issue_draw : Cx Tryd.prog := ⟨tys, [s_draws_Draws_Draw], [4, 6], [], mixed⟩
def h_issue_draw : Hint := (.seq .d (.seq (.seq .d (.blk (.loop [.slot 8 (tInt .i64)] 33554400 [] .d))) .d))
def s_issue_draw : Spec Tryd.prog := mkSpec x_issue_draw 57 Tryd.f57 [tPtr, tPV] [S_api_Word.ty, (tInt .i64)] false h_issue_draw (fun a => m_issue_draw a.1 a.2) (fun a K h => by kernel_rfl) callee57 rfl
def m_issue_Of_1 (a0 : S_api_Word) (a1 : Addr) (a2 : Addr) (K : (Bool) → H → Prop) : H → Prop :=
 mLoad cPtr a1 fun x1 =>
 mLoad (cInt .i64) a2 fun x2 =>
 m_catalogue_Catalogue_Find x1 (⟨x2, ⟨a0.Hi, a0.Lo⟩⟩ : S_api_Cap) fun r3 =>
 K r3.2
def x_issue_Of_1 : Cx Tryd.prog := ⟨tys, [s_catalogue_Catalogue_Find], [3], [], mixed⟩
def h_issue_Of_1 : Hint := .d
def s_issue_Of_1 : Spec Tryd.prog := mkSpec x_issue_Of_1 58 Tryd.f58 [S_api_Word.ty, tAdr, tAdr] [tBool] false h_issue_Of_1 (fun a => m_issue_Of_1 a.1 a.2.1 a.2.2) (fun a K h => by kernel_rfl) callee58 rfl
def m_issue_Of (a0 : Option Addr) (a1 : Option Addr) (a2 : Int) (K : (S_api_Word × Int) → H → Prop) : H → Prop :=
 mNew 41 #[(Value.pointer a1)] fun ad1 =>
 mNew 3 #[(Value.int .i64 a2)] fun ad2 =>
 m_issue_draw a0 (⟨Value.func (.func 58) #[] #[(Value.pointer (some ad1)), (Value.pointer (some ad2))], rfl, rfl⟩ : PV) fun r3 =>
 K (r3.1, r3.2)
def x_issue_Of : Cx Tryd.prog := ⟨tys, [s_issue_draw], [6], [], mixed⟩
def h_issue_Of : Hint := .d
def s_issue_Of : Spec Tryd.prog := mkSpec x_issue_Of 42 Tryd.f42 [tPtr, tPtr, (tInt .i64)] [S_api_Word.ty, (tInt .i64)] false h_issue_Of (fun a => m_issue_Of a.1 a.2.1 a.2.2) (fun a K h => by kernel_rfl) callee42 rfl
end Go.Proofs.YtdleanjofhghnaaDoor.K
namespace Go.Proofs.YtdleanjofhghnaaDoor.K
open Go
section
variable {h : H}
structure DAt (h : H) (d : Nat) (ws : Sl) (cs : List S_api_Word) (tk : Nat) : Prop where
  cell : h d = some (.cells (S_draws_Draws.cells ⟨ws, tk⟩).toArray N_draws_Draws (0, 0))
  buf : Buf cW 2 N_api_Word h ws cs
  le : tk ≤ cs.length ∧ cs.length ≤ 4096
structure RAt (h : H) (r : Nat) (s : Sl) (xs : List S_api_Word) (w : Int) (tk : Nat) : Prop where
  cell : h r = some (.cells (S_ref04_Draws.cells ⟨s, w, tk⟩).toArray N_ref04_Draws (0, 0))
  buf : Buf cW 2 N_api_Word h s xs
  le : tk ≤ xs.length ∧ xs.length ≤ 4096
variable {d r : Nat} {ws s : Sl} {cs xs : List S_api_Word} {w : Int} {tk : Nat}
theorem DAt.keep {h' : H} (x : DAt h d ws cs tk) (k : Keeps h h') : DAt h' d ws cs tk := ⟨k _ _ x.cell, x.buf.keep k, x.le⟩
theorem DAt.but {h' : H} {E : Nat → Prop} (x : DAt h d ws cs tk) (k : But E h h') (f : ∀ c, E c → c ≠ d ∧ ¬ ws.foot c) : DAt h' d ws cs tk := ⟨k _ _ x.cell fun q => (f _ q).1 rfl, x.buf.but k fun a ha q => (f _ q).2 ⟨a, ha, rfl⟩, x.le⟩
theorem RAt.but {h' : H} {E : Nat → Prop} (x : RAt h r s xs w tk) (k : But E h h') (f : ∀ c, E c → c ≠ r ∧ ¬ s.foot c) : RAt h' r s xs w tk := ⟨k _ _ x.cell fun q => (f _ q).1 rfl, x.buf.but k fun a ha q => (f _ q).2 ⟨a, ha, rfl⟩, x.le⟩
theorem DAt.apart (x : DAt h d ws cs tk) : ¬ ws.foot d := fun f => (x.buf.typed f).ne (Typed.of x.cell) (by decide) rfl
theorem DAt.f0 (x : DAt h d ws cs tk) : At h ((⟨d, 0, none⟩ : Addr).add 0) (cSl ws) := by
  rw [pt_add]; exact At.own (l1 := []) (l3 := [Value.int .i64 tk]) x.cell rfl
theorem DAt.f1 (x : DAt h d ws cs tk) : At h ((⟨d, 0, none⟩ : Addr).add 1) (cInt .i64 (tk : Int)) := by
  rw [pt_add]; exact At.own (l1 := [Sl.val ws]) (l3 := []) x.cell rfl
theorem t_DTaken (x : DAt h d ws cs tk) {K : Int → H → Prop} (y : K (tk : Int) h) : m_draws_Draws_Taken (some ⟨d, 0, none⟩) K h := by
  unfold m_draws_Draws_Taken
  exact w_deref (w_load x.f1 y)
theorem t_DNew {a : Sl} (ar : Arr cW h a xs) (hx : ∀ x ∈ xs, GoodW x) {K : Option Addr × Int → H → Prop} (bad1 : (w < 1 ∨ 128 < w) → K (none, 18) h) (bad2 : 1 ≤ w → w ≤ 128 → 4096 < xs.length → K (none, 23) h)
    (y : 1 ≤ w → w ≤ 128 → xs.length ≤ 4096 → ∀ d ws h', DAt h' d ws (xs.map (cutW w)) 0 → Keeps h h' → h d = none → (∀ c, ws.foot c → h c = none) → K (some ⟨d, 0, none⟩, 0) h') : m_draws_New a w K h := by
  unfold m_draws_New
  have hl := ar.len
  refine w_if (fun c => bad1 ?_) fun c => w_if' (fun c2 => ?_) fun c2 => ?_
  · simp only [Bool.or_eq_true, decide_eq_true_eq] at c; omega
  · simp only [Bool.or_eq_false_iff, decide_eq_false_iff_not] at c
    exact bad2 (by omega) (by omega) (by omega)
  simp only [Bool.or_eq_false_iff, decide_eq_false_iff_not] at c
  refine w_box fun d h1 f1 c1 k1 => ?_
  refine w_for xs.length (fun i (z : Int) h' => z = (i : Int) ∧ Keeps h h' ∧ ∃ ws, h' d = some (.cells (S_draws_Draws.cells ⟨ws, (0 : Nat)⟩).toArray N_draws_Draws (0, 0)) ∧ Buf cW 2 N_api_Word h' ws ((xs.take i).map (cutW w)) ∧ ∀ c, ws.foot c → h c = none) ?_ ⟨rfl, k1, Sl.nil, c1, Buf.nil, fun c ⟨_, q, _⟩ => by cases q⟩
  rintro rec i z h' hi ⟨rfl, kp, ws, cd, bu, fw⟩ more
  refine w_if' (fun c3 => ?_) fun c3 => ?_
  · have c3 : (i : Int) < (a.len : Int) := c3
    have hil : i < xs.length := by omega
    have hz := List.getElem?_eq_getElem hil
    refine w_get word_len (ar.keep kp) hz rfl (v' := xs[i]) rfl (w_WCut (hx _ (List.getElem_mem hil)) (w_load (v := ws) (cells := cSl) ?_ ?_))
    · rw [pt_add]; exact At.own (l1 := []) (l3 := [Value.int .i64 (0 : Nat)]) cd rfl
    refine w_app (by_ := 16) word_len rfl bu [cutW w xs[i]] rfl rfl (.inl (by simp only [List.length_map, List.length_take, List.length_singleton]; omega)) fun s8 h2 bu2 b2 f2 d2 => ?_
    have ap : ¬ ws.foot d := fun f => (bu.typed f).ne (Typed.of cd) (by decide) rfl
    have cd2 := b2 _ _ cd ap
    refine w_store (b := d) (i := 0) (l1 := []) (l2 := [Sl.val ws]) (l3 := [Value.int .i64 (0 : Nat)]) (t := N_draws_Draws) (pt_add d 0) cd2 rfl rfl ?_
    refine more _ _ hil ⟨ia1 i (by omega), (kp.but b2 fw).but (But.upd (F := (· = d)) rfl) fun c q => q ▸ f1, s8, upd_same _ _ _, ?_, fun c q => (f2 c q).elim (fw c) fun z => kp.fresh z⟩
    have := bu2.but (But.upd (F := (· = d)) (o := (.cells ([] ++ [Sl.val s8] ++ [Value.int .i64 (0 : Nat)]).toArray N_draws_Draws (0, 0))) rfl) fun ad ha q => (bu2.typed ⟨ad, ha, rfl⟩).ne (Typed.of cd2) (by decide) q
    rw [List.take_add_one, hz, List.map_append]
    exact this
  · have c3 : ¬ (i : Int) < (a.len : Int) := c3
    obtain rfl : i = xs.length := by omega
    rw [List.take_length] at bu
    exact y (by omega) (by omega) (by omega) d ws h' ⟨cd, bu, by rw [List.length_map]; omega⟩ kp f1 fw
theorem t_RDNew {a : Sl} (ar : Arr cW h a xs) {K : Option Addr × Int → H → Prop} (bad1 : (w < 1 ∨ 128 < w) → K (none, 18) h) (bad2 : 1 ≤ w → w ≤ 128 → 4096 < xs.length → K (none, 23) h)
    (y : 1 ≤ w → w ≤ 128 → xs.length ≤ 4096 → ∀ r s h', RAt h' r s xs w 0 → Keeps h h' → h r = none → (∀ c, s.foot c → h c = none) → K (some ⟨r, 0, none⟩, 0) h') : m_ref04_New a w K h := by
  unfold m_ref04_New
  have hl := ar.len
  refine w_if (fun c => bad1 ?_) fun c => w_if' (fun c2 => ?_) fun c2 => ?_
  · simp only [Bool.or_eq_true, decide_eq_true_eq] at c; omega
  · simp only [Bool.or_eq_false_iff, decide_eq_false_iff_not] at c
    exact bad2 (by omega) (by omega) (by omega)
  simp only [Bool.or_eq_false_iff, decide_eq_false_iff_not] at c
  refine w_append (by_ := 16) word_len word_plain rfl (Buf.nil (e := N_api_Word)) ar (.inr ⟨rfl, by omega⟩) fun s1 h1 bu b1 f1 d1 => w_box fun r h2 f2 c2 k2 => ?_
  have k1 : Keeps h h1 := b1.keeps fun b ⟨_, q, _⟩ => by cases q
  rw [List.nil_append] at bu
  exact y (by omega) (by omega) (by omega) r s1 h2 ⟨c2, bu.keep k2, by omega⟩ (k1.trans k2) (k1.fresh f2) fun c q => (f1 c q).elim (fun ⟨_, q, _⟩ => by cases q) id
theorem t_DDraw (x : DAt h d ws cs tk) {K : S_api_Word × Int → H → Prop} (y0 : cs[tk]? = none → K (⟨0, 0⟩, 11) h) (y1 : ∀ c, cs[tk]? = some c → ∀ h', DAt h' d ws cs (tk + 1) → But (· = d) h h' → (∀ z, h' z = none → h z = none) → K (c, 0) h') : m_draws_Draws_Draw (some ⟨d, 0, none⟩) K h := by
  unfold m_draws_Draws_Draw
  have hl := x.buf.len
  have hc := x.buf.cap
  obtain ⟨le1, le2⟩ := x.le
  refine w_deref (w_deref (w_load x.f0 (w_load x.f1 ?_)))
  have mid : mCut ws (tk : Int) (ws.len : Int) 2 (fun s' h' => Arr cW h s' (cs.drop tk) ∧ s'.len = cs.length - tk) h := by
    refine w_mid word_len x.buf.arr (lo := tk) (hi := cs.length) le1 (Nat.le_refl _) rfl (by rw [hl]) fun s3 a3 _ _ _ => ?_
    have e3 : (cs.drop tk).take (cs.length - tk) = cs.drop tk := by rw [List.take_of_length_le]; rw [List.length_drop]; omega
    rw [e3] at a3
    exact ⟨a3, by have := a3.len; rw [List.length_drop] at this; exact this⟩
  obtain ⟨r5, cond, ar5, l5⟩ := mid
  refine w_pure r5 (fun h' k' q => ⟨r5, cond, q⟩) (w_if' (fun c => y0 ?_) fun c => ?_)
  · have c : (r5.len : Int) = 0 := c
    exact List.getElem?_eq_none (by omega)
  have c : ¬ (r5.len : Int) = 0 := c
  have hlt : tk < cs.length := by omega
  have hz := List.getElem?_eq_getElem hlt
  refine w_deref (w_load x.f1 (w_deref ?_))
  rw [ia1 tk (by omega)]
  refine w_store (b := d) (i := 1) (l1 := [Sl.val ws]) (l2 := [Value.int .i64 tk]) (l3 := []) (t := N_draws_Draws) (pt_add d 1) x.cell rfl rfl ?_
  generalize eh : upd h d _ = h2
  have c2 : h2 d = some (.cells (S_draws_Draws.cells ⟨ws, ((tk + 1 : Nat) : Int)⟩).toArray N_draws_Draws (0, 0)) := by rw [← eh]; exact upd_same _ _ _
  have b2 : But (· = d) h h2 := eh ▸ .upd rfl
  have d2 : ∀ z, h2 z = none → h z = none := fun z q => by rw [← eh] at q; exact (upd_none.1 q).2
  have bu2 := x.buf.but b2 fun ad ha q => x.apart ⟨ad, ha, q⟩
  have hz5 : (cs.drop tk)[0]? = some cs[tk] := by rw [List.getElem?_drop, Nat.add_zero]; exact hz
  have ar5' : Arr cW h2 r5 (cs.drop tk) := ar5.but b2 fun _ ad ha q => by
    obtain ⟨ad', ha', at'⟩ := ar5.at_ (fun e => by rw [e] at hz5; cases hz5)
    rw [ha] at ha'; cases ha'
    have q : ad.block = d := q
    obtain ⟨_, cc, ee, fz, q1, q2⟩ := at_iff.1 at'
    rw [q, x.cell] at q1
    cases q1
    have := q2 0 (Value.int .u64 (cs[tk]).Hi) (by
      have e1 : cs.drop tk = cs[tk] :: cs.drop (tk + 1) := List.drop_eq_getElem_cons hlt
      rw [e1, flat_cons]; rfl)
    rw [Nat.add_zero] at this
    rcases Nat.lt_or_ge ad.off 2 with z | z
    · rcases (by omega : ad.off = 0 ∨ ad.off = 1) with z | z
      · rw [z] at this; cases this
      · rw [z] at this; cases this
    · have : ad.off < 2 := by
        have := (Array.getElem?_eq_some_iff.1 this).1
        simpa [S_draws_Draws.cells] using this
      omega
  refine w_get word_len ar5' hz5 rfl (v' := cs[tk]) rfl ?_
  exact y1 _ hz h2 ⟨c2, bu2, by omega⟩ b2 d2
end
def issueO (f : S_api_Word → Bool) (cs : List S_api_Word) : Nat → Nat → (S_api_Word × Int) × Nat
  | tk, 0 => ((⟨0, 0⟩, 12), tk)
  | tk, n + 1 => match cs[tk]? with
    | none => ((⟨0, 0⟩, 11), tk)
    | some c => if f c = true then issueO f cs (tk + 1) n else ((c, 0), tk + 1)
theorem issueO_none {f : S_api_Word → Bool} {cs : List S_api_Word} {tk n : Nat} (h : cs[tk]? = none) : issueO f cs tk (n + 1) = ((⟨0, 0⟩, 11), tk) := by
  unfold issueO; rw [h]
theorem issueO_some {f : S_api_Word → Bool} {cs : List S_api_Word} {tk n : Nat} {c : S_api_Word} (h : cs[tk]? = some c) : issueO f cs tk (n + 1) = if f c = true then issueO f cs (tk + 1) n else ((c, 0), tk + 1) := by
  rw [issueO, h]
section
variable {h : H} {d r : Nat} {ws s : Sl} {cs xs : List S_api_Word} {w : Int} {tk : Nat}
theorem t_idraw {fv : PV} {f : S_api_Word → Bool} {P : H → Prop} (hP : ∀ h1 h2, P h1 → But (· = d) h1 h2 → (∀ z, h2 z = none → h1 z = none) → P h2) (hcall : ∀ h' c k, P h' → k (f c) h' → mCallV (T := Bool) Tryd.prog (fun r => (Value.bool r)) fv.1 [(S_api_Word.val c)] k h') (p0 : P h) (x : DAt h d ws cs tk)
    {K : S_api_Word × Int → H → Prop} (y : ∀ h', DAt h' d ws cs (issueO f cs tk 9).2 → P h' → But (· = d) h h' → (∀ z, h' z = none → h z = none) → K (issueO f cs tk 9).1 h') : m_issue_draw (some ⟨d, 0, none⟩) fv K h := by
  unfold m_issue_draw
  refine w_for 9 (fun i (z : Int) h' => z = (i : Int) ∧ ∃ tk', issueO f cs tk 9 = issueO f cs tk' (9 - i) ∧ DAt h' d ws cs tk' ∧ P h' ∧ But (· = d) h h' ∧ ∀ z, h' z = none → h z = none) ?_ ⟨rfl, tk, rfl, x, p0, .refl _ _, fun _ q => q⟩
  rintro rec i z h' hi ⟨rfl, tk', e, x', p', b', d'⟩ more
  refine w_if' (fun c => ?_) fun c => ?_
  · have c : (i : Int) < 9 := c
    obtain ⟨m, hm⟩ : ∃ m, 9 - i = m + 1 := ⟨8 - i, by omega⟩
    rw [hm] at e
    refine t_DDraw x' (fun hno => ?_) fun cc hc h2 x2 b2 d2 => ?_
    · rw [issueO_none hno] at e
      rw [e] at y
      exact w_ifT rfl (y _ x' p' b' d')
    · rw [issueO_some hc] at e
      have p2 := hP _ _ p' b2 d2
      refine w_ifF rfl (hcall _ _ _ p2 ?_)
      cases ef : f cc with
      | true =>
        rw [ef, if_pos rfl] at e
        exact w_ifF rfl (more _ _ (by omega) ⟨ia1 i (by omega), tk' + 1, by rw [e]; congr 1; omega, x2, p2, b'.trans b2 fun _ q => .inl q, fun z q => d' z (d2 z q)⟩)
      | false =>
        rw [ef, if_neg (by decide)] at e
        rw [e] at y
        exact w_ifT rfl (y _ x2 p2 (b'.trans b2 fun _ q => .inl q) fun z q => d' z (d2 z q))
  · have c : ¬ (i : Int) < 9 := c
    obtain rfl : i = 9 := by omega
    have e : issueO f cs tk 9 = ((⟨0, 0⟩, 12), tk') := e
    rw [e] at y
    exact y _ x' p' b' d'
end
section
variable {h : H}
variable {d r : Nat} {ws s : Sl} {cs xs : List S_api_Word} {w : Int} {tk : Nat}
theorem t_issueOf (x : DAt h d ws cs tk) {p : Nat} {knob : Int} {G : Nat → Prop} {es : List En} (ct : Cat h p knob G es) (hd : ¬ G d) {o : Int} {K : S_api_Word × Int → H → Prop}
    (y : ∀ h', DAt h' d ws cs (issueO (fun c => (findE es ⟨o, c⟩).isSome) cs tk 9).2 → But (· = d) h h' → (∀ z, h' z = none → h z = none) → K (issueO (fun c => (findE es ⟨o, c⟩).isSome) cs tk 9).1 h') : m_issue_Of (some ⟨d, 0, none⟩) (some ⟨p, 0, none⟩) o K h := by
  unfold m_issue_Of
  refine w_box fun b1 h1 f1 c1 k1 => w_box fun b2 h2 f2 c2 k2 => ?_
  have k12 := k1.trans k2
  have hdb1 : b1 ≠ d := fun e => by rw [e, x.cell] at f1; cases f1
  have hdb2 : b2 ≠ d := fun e => by have := k1 _ _ x.cell; rw [← e, f2] at this; cases this
  refine t_idraw (f := fun c => (findE es ⟨o, c⟩).isSome) (P := fun h' => Cat h' p knob G es ∧ h' b1 = some (.cells [Value.pointer (some ⟨p, 0, none⟩)].toArray 41 (0, 0)) ∧ h' b2 = some (.cells [Value.int .i64 o].toArray 3 (0, 0))) (fun h1 h2 ⟨p1, p2, p3⟩ bb _ => ⟨p1.but bb fun c q g => by (have q : c = d := q); exact hd (q ▸ g), bb _ _ p2 hdb1, bb _ _ p3 hdb2⟩) (fun h' c k ⟨p1, p2, p3⟩ hk => ?_) ⟨ct.keep k12, k2 _ _ c1, c2⟩ (x.keep k12) fun h' x' _ b' d' => y h' x' ((But.of k12).trans b' fun _ q => .inl q) fun z q => k12.fresh (d' z q)
  have hm : m_issue_Of_1 c (⟨b1, 0, none⟩ : Addr) (⟨b2, 0, none⟩ : Addr) k h' := by
    unfold m_issue_Of_1
    exact w_load (v := some ⟨p, 0, none⟩) (cells := cPtr) (at_box p2) (w_load (v := o) (cells := cInt .i64) (at_box p3) (t_CFind p1 hk))
  exact callV_of s_issue_Of_1 (first := #[]) (cap := #[(Value.pointer (some ⟨b1, 0, none⟩)), (Value.pointer (some ⟨b2, 0, none⟩))]) (args := [S_api_Word.val c]) (c, (⟨b1, 0, none⟩ : Addr), (⟨b2, 0, none⟩ : Addr)) rfl hm
end
end Go.Proofs.YtdleanjofhghnaaDoor.K
namespace Go.Proofs.YtdleanjofhghnaaDoor.K
open Go Go.Proofs Go.RowKit Go.Extern.Stop Go.Stop Go.Extern
theorem as_nil (t : Value) (w : World) : Calls Tryd.prog 31 #[.nilIface, t] w fun e w' => e = .returned (.bool false) ∧ w' = w := by
  go_enter Tryd.func31, Tryd.ntmps31
  go_wp2
  go_ret
  exact ⟨rfl, rfl⟩
theorem a_valueOfP (t : Addr) (w : World) : (ReflectliteValue.unpack (.iface 114 (.pointer (some t)))).run Tryd.prog w = .ok (.agg #[.pointer (some ⟨1, 114, none⟩), .pointer (some ⟨w.heap.size, 0, none⟩), .int .u64 150]) (w.alloc (.cells #[.pointer (some t)] 114)) := by kernel_rfl
theorem a_typeP (a : Addr) (w : World) : (ReflectliteValue.methodAny (ReflectliteValue.valueError "reflectlite.Value.Type" 0) (fun t _ _ _ => ReflectliteType.toType t) #[.agg #[.pointer (some ⟨1, 114, none⟩), .pointer (some a), .int .u64 150]]).run Tryd.prog w = .ok (.iface 162 (.agg #[.pointer (some ⟨1, 114, none⟩)])) w := by kernel_rfl
theorem a_methodKind (h : Value) (w : World) : (Go.method 322 162 (.agg #[h]) "Kind").run Tryd.prog w = .ok (90, h) w := by kernel_rfl
theorem a_kindP (w : World) : ((ReflectliteType.abiMethod fun t => (fun a : Nat => Value.int IntKind.u8 (a : Int)) <$> Rtype.kind t) #[.pointer (some ⟨1, 114, none⟩)]).run Tryd.prog w = .ok (.int .u8 22) w := by kernel_rfl
theorem a_kindR (w : World) : ((ReflectliteType.abiMethod fun t => (fun a : Nat => Value.int IntKind.u8 (a : Int)) <$> Rtype.kind t) #[.pointer (some ⟨1, 112, none⟩)]).run Tryd.prog w = .ok (.int .u8 22) w := by kernel_rfl
theorem a_rlm (z : Sem Value) (f : TypeId → Addr → Nat → Nat → Sem Value) (v : Value) :
    ReflectliteValue.method z f #[v] = (do match ← ReflectliteValue.parts v with | none => z | some (t, a, fl) => f t a fl (fl % 32)) := rfl
theorem a_partsP (a : Addr) (w : World) : (ReflectliteValue.parts (.agg #[.pointer (some ⟨1, 114, none⟩), .pointer (some a), .int .u64 150])).run Tryd.prog w = .ok (some (114, a, 150)) w := by kernel_rfl
theorem a_isNilP (a p : Addr) (W : World) (ha : W.cell? a = some (.pointer (some p))) :
    (ReflectliteValue.method (ReflectliteValue.valueError "reflectlite.Value.IsNil" 0) ReflectliteValue.isNil #[.agg #[.pointer (some ⟨1, 114, none⟩), .pointer (some a), .int .u64 150]]).run Tryd.prog W = .ok (.bool false) W := by
  rw [a_rlm]
  simp only [Sem.run_bind, a_partsP, Result.andThen]
  simp [ReflectliteValue.isNil, loadVar, isAgg, underlying, Tryd.underlying114, ha, Result.andThen]
theorem a_methodElem (h : Value) (w : World) : (Go.method 322 162 (.agg #[h]) "Elem").run Tryd.prog w = .ok (107, .agg #[h]) w := by kernel_rfl
theorem a_methodImplements (h : Value) (w : World) : (Go.method 322 162 (.agg #[h]) "Implements").run Tryd.prog w = .ok (108, .agg #[h]) w := by kernel_rfl
theorem a_methodAssignableTo (h : Value) (w : World) : (Go.method 322 162 (.agg #[h]) "AssignableTo").run Tryd.prog w = .ok (105, .agg #[h]) w := by kernel_rfl
theorem a_methodUnwrap (h : Value) (w : World) : (Go.method 322 151 h "Unwrap").run Tryd.prog w = .ok (103, h) w := by kernel_rfl
theorem a_elemP (w : World) : (ReflectliteType.method ReflectliteType.elem #[.agg #[.pointer (some ⟨1, 114, none⟩)]]).run Tryd.prog w = .ok (.iface 162 (.agg #[.pointer (some ⟨1, 112, none⟩)])) w := by kernel_rfl
theorem a_implementsR (w : World) : (ReflectliteType.relation "Implements" ReflectliteType.implements_ #[.agg #[.pointer (some ⟨1, 112, none⟩)], .iface 162 (.agg #[.pointer (some ⟨1, 77, none⟩)])]).run Tryd.prog w = .ok (.bool true) w := by kernel_rfl
theorem a_typeOfR (v : Value) (w : World) : (ReflectliteType.typeOf #[.iface 112 v]).run Tryd.prog w = .ok (.iface 162 (.agg #[.pointer (some ⟨1, 112, none⟩)])) w := by kernel_rfl
theorem a_typeOfM (v : Value) (w : World) : (ReflectliteType.typeOf #[.iface 151 v]).run Tryd.prog w = .ok (.iface 162 (.agg #[.pointer (some ⟨1, 151, none⟩)])) w := by kernel_rfl
theorem a_assignableR (w : World) : (ReflectliteType.relation "AssignableTo" ReflectliteType.assignableTo #[.agg #[.pointer (some ⟨1, 112, none⟩)], .iface 162 (.agg #[.pointer (some ⟨1, 112, none⟩)])]).run Tryd.prog w = .ok (.bool true) w := by kernel_rfl
theorem a_assignableM (w : World) : (ReflectliteType.relation "AssignableTo" ReflectliteType.assignableTo #[.agg #[.pointer (some ⟨1, 151, none⟩)], .iface 162 (.agg #[.pointer (some ⟨1, 112, none⟩)])]).run Tryd.prog w = .ok (.bool false) w := by kernel_rfl
theorem a_valueOfR (e : Addr) (w : World) : (ReflectliteValue.unpack (.iface 112 (.pointer (some e)))).run Tryd.prog w = .ok (.agg #[.pointer (some ⟨1, 112, none⟩), .pointer (some ⟨w.heap.size, 0, none⟩), .int .u64 150]) (w.alloc (.cells #[.pointer (some e)] 112)) := by kernel_rfl
theorem a_elemOfP (w : World) : (Rtype.elem? 114).run Tryd.prog w = .ok (some 112) w := by kernel_rfl
theorem a_mkR (p : Addr) (w : World) : (ReflectliteValue.mk 112 p ReflectliteValue.flagAddr).run Tryd.prog w = .ok (.agg #[.pointer (some ⟨1, 112, none⟩), .pointer (some p), .int .u64 406]) w := by kernel_rfl
theorem a_elemVP (a p : Addr) (W : World) (ha : W.cell? a = some (.pointer (some p))) :
    (ReflectliteValue.method (ReflectliteValue.valueError "reflectlite.Value.Elem" 0) ReflectliteValue.elem #[.agg #[.pointer (some ⟨1, 114, none⟩), .pointer (some a), .int .u64 150]]).run Tryd.prog W = .ok (.agg #[.pointer (some ⟨1, 112, none⟩), .pointer (some p), .int .u64 406]) W := by
  rw [a_rlm]
  simp only [Sem.run_bind, a_partsP, Result.andThen]
  simp [ReflectliteValue.elem, loadVar, isAgg, underlying, Tryd.underlying114, ha, Result.andThen, a_elemOfP, a_mkR]
theorem a_rls (v x : Value) : ReflectliteValue.set #[v, x] = (do
    let (some (dst, a, fl), some (src, b, _)) := (← ReflectliteValue.parts v, ← ReflectliteValue.parts x)
      | unsupported (.noEntry "extern/(internal/reflectlite.Value).Set.zeroValue")
    if fl / ReflectliteValue.flagAddr % 2 == 0 then unsupported (.noEntry "extern/(internal/reflectlite.Value).Set.unaddressable")
    let val ← loadVar src b
    if ← Rtype.directlyAssignable dst src then storeVar dst a val
    else if ← Rtype.implements dst src then
      if (← Rtype.kind src) == 20 then
        match val with
        | .nilIface => unsupported (.noEntry "extern/reflectlite: a nil value of one interface type handed on as a value of another")
        | _ => storeVar dst a val
      else storeVar dst a (.iface src val)
    else panicString ("reflectlite.Set: value of type " ++ (← Rtype.spelt src) ++ " is not assignable to type " ++ (← Rtype.spelt dst))
    pure (.tuple #[])) := rfl
theorem a_partsA (a : Addr) (w : World) : (ReflectliteValue.parts (.agg #[.pointer (some ⟨1, 112, none⟩), .pointer (some a), .int .u64 406])).run Tryd.prog w = .ok (some (112, a, 406)) w := by kernel_rfl
theorem a_partsR (a : Addr) (w : World) : (ReflectliteValue.parts (.agg #[.pointer (some ⟨1, 112, none⟩), .pointer (some a), .int .u64 150])).run Tryd.prog w = .ok (some (112, a, 150)) w := by kernel_rfl
theorem a_directR (w : World) : (Rtype.directlyAssignable 112 112).run Tryd.prog w = .ok true w := by kernel_rfl
theorem a_setR (ta b e : Addr) (old : Value) (W : World) (hb : W.cell? b = some (.pointer (some e))) (ht : W.cell? ta = some old) (hf : W.frozen? ta = false) :
    (ReflectliteValue.set #[.agg #[.pointer (some ⟨1, 112, none⟩), .pointer (some ta), .int .u64 406], .agg #[.pointer (some ⟨1, 112, none⟩), .pointer (some b), .int .u64 150]]).run Tryd.prog W = .ok (.tuple #[]) (W.setCell ta (.pointer (some e))) := by
  rw [a_rls]
  simp only [Sem.run_bind, a_partsA, a_partsR, Result.andThen]
  simp [ReflectliteValue.flagAddr, loadVar, isAgg, underlying, Tryd.underlying112, hb, Result.andThen, a_directR, storeVar, Value.cells, storeCells, Addr.add]
  rw [run_store Tryd.prog W ta _ _ (by rfl)]
  simp [ht, hf]
theorem a_noAs (v : Value) (w : World) : (Instr.typeAssert (.iface 151 v) 77 167 true).run Tryd.prog w = .ok (.tuple #[.nilIface, .bool false]) w := run_typeAssert_lacksB Tryd.underlying167 (by kernel_rfl) (by kernel_rfl) v 77 w
theorem a_unwraps (v : Value) (w : World) : (Instr.typeAssert (.iface 151 v) 77 170 true).run Tryd.prog w = .ok (.tuple #[.iface 151 v, .bool true]) w := run_typeAssert_hasB Tryd.underlying170 (by kernel_rfl) v 77 w
def asWorld (w : World) (t e : Addr) : World := ((((w.alloc (.cells #[.pointer (some t)] 114)).alloc (.cells #[.pointer (some ⟨1, 114, none⟩), .pointer (some ⟨w.heap.size, 0, none⟩), .int .u64 150] 142)).alloc (.cells #[.pointer (some ⟨1, 114, none⟩), .pointer (some ⟨w.heap.size, 0, none⟩), .int .u64 150] 142)).alloc (.cells #[.pointer (some e)] 112)).setCell t (.pointer (some e))
set_option maxHeartbeats 8000000 in
set_option maxRecDepth 100000 in
theorem as_hit2 (m e t : Addr) (old : Value) (w : World) (hg : w.cell? ⟨0, 0, none⟩ = some (.iface 162 (.agg #[.pointer (some ⟨1, 77, none⟩)]))) (ht0 : w.cell? t = some old) (hf0 : w.frozen? t = false)
    (hm : w.cell? ⟨m.block, m.off + 1, none⟩ = some (.iface 112 (.pointer (some e)))) :
    Calls Tryd.prog 31 #[.iface 151 (.pointer (some m)), .iface 114 (.pointer (some t))] w fun ev w' => ev = .returned (.bool true) ∧ w' = asWorld w t e := by
  have h6 := @run_callFunc_extern Tryd.prog 48 _ (fun args => ReflectliteValue.unpack (args.getD 0 (.tuple #[]))) Tryd.func48 (by kernel_rfl) (by kernel_rfl) (by kernel_rfl) (by kernel_rfl)
  have h7 := @run_callFunc_extern Tryd.prog 49 _ (ReflectliteValue.methodAny (ReflectliteValue.valueError "reflectlite.Value.Type" 0) (fun t _ _ _ => ReflectliteType.toType t)) Tryd.func49 (by kernel_rfl) (by kernel_rfl) (by kernel_rfl) (by kernel_rfl)
  have h8 := @run_callFunc_extern Tryd.prog 50 _ (ReflectliteValue.method (ReflectliteValue.valueError "reflectlite.Value.IsNil" 0) ReflectliteValue.isNil) Tryd.func50 (by kernel_rfl) (by kernel_rfl) (by kernel_rfl) (by kernel_rfl)
  have h27 := @run_callFunc_extern Tryd.prog 90 _ (ReflectliteType.abiMethod fun t => do pure (.int .u8 (← Rtype.kind t))) Tryd.func90 (by kernel_rfl) (by kernel_rfl) (by kernel_rfl) (by kernel_rfl)
  have h37 := @run_callFunc_extern Tryd.prog 107 _ (ReflectliteType.method ReflectliteType.elem) Tryd.func107 (by kernel_rfl) (by kernel_rfl) (by kernel_rfl) (by kernel_rfl)
  have h38 := @run_callFunc_extern Tryd.prog 108 _ (ReflectliteType.relation "Implements" ReflectliteType.implements_) Tryd.func108 (by kernel_rfl) (by kernel_rfl) (by kernel_rfl) (by kernel_rfl)
  have h10 := @run_callFunc_extern Tryd.prog 64 _ ReflectliteType.typeOf Tryd.func64 (by kernel_rfl) (by kernel_rfl) (by kernel_rfl) (by kernel_rfl)
  have h35 := @run_callFunc_extern Tryd.prog 105 _ (ReflectliteType.relation "AssignableTo" ReflectliteType.assignableTo) Tryd.func105 (by kernel_rfl) (by kernel_rfl) (by kernel_rfl) (by kernel_rfl)
  have h11 := @run_callFunc_extern Tryd.prog 65 _ (ReflectliteValue.method (ReflectliteValue.valueError "reflectlite.Value.Elem" 0) ReflectliteValue.elem) Tryd.func65 (by kernel_rfl) (by kernel_rfl) (by kernel_rfl) (by kernel_rfl)
  have h12 := @run_callFunc_extern Tryd.prog 66 _ ReflectliteValue.set Tryd.func66 (by kernel_rfl) (by kernel_rfl) (by kernel_rfl) (by kernel_rfl)
  have tO := a_typeOfR
  have tM := a_typeOfM
  have mA := a_methodAssignableTo
  have a25 := a_assignableR
  have aM := a_assignableM
  have nA := a_noAs
  have uW := a_unwraps
  have mU := a_methodUnwrap
  have v25 := a_valueOfR
  have f6 := a_valueOfP
  have f7 := a_typeP
  have mK := a_methodKind
  have mE := a_methodElem
  have mI := a_methodImplements
  have k27 := a_kindP
  have k25 := a_kindR
  have e27 := a_elemP
  have i25 := a_implementsR
  have n8 := a_isNilP ⟨w.heap.size, 0, none⟩ t ((w.alloc (.cells #[.pointer (some t)] 114)).alloc (.cells #[.pointer (some ⟨1, 114, none⟩), .pointer (some ⟨w.heap.size, 0, none⟩), .int .u64 150] 142)) (by simp)
  have hlt : 0 < w.heap.size := by
    rcases Nat.lt_or_ge 0 w.heap.size with h | h
    · exact h
    · simp [World.cell?, Array.getElem?_eq_none h] at hg
  have hml : m.block < w.heap.size := by
    rcases Nat.lt_or_ge m.block w.heap.size with h | h
    · exact h
    · simp [World.cell?, Array.getElem?_eq_none h] at hm
  have hg2 : ((w.alloc (.cells #[.pointer (some t)] 114)).alloc (.cells #[.pointer (some ⟨1, 114, none⟩), .pointer (some ⟨w.heap.size, 0, none⟩), .int .u64 150] 142)).cell? ⟨0, 0, none⟩ = some (.iface 162 (.agg #[.pointer (some ⟨1, 77, none⟩)])) := by
    rw [World.cell?_alloc_lt _ _ ⟨0, 0, none⟩ (by simp), World.cell?_alloc_lt _ _ ⟨0, 0, none⟩ hlt]; exact hg
  have htl : t.block < w.heap.size := by
    rcases Nat.lt_or_ge t.block w.heap.size with h | h
    · exact h
    · simp [World.cell?, Array.getElem?_eq_none h] at ht0
  have hm3 : ((((w.alloc (.cells #[.pointer (some t)] 114)).alloc (.cells #[.pointer (some ⟨1, 114, none⟩), .pointer (some ⟨w.heap.size, 0, none⟩), .int .u64 150] 142)).alloc (.cells #[.pointer (some ⟨1, 114, none⟩), .pointer (some ⟨w.heap.size, 0, none⟩), .int .u64 150] 142))).cell? ⟨m.block, m.off + 1, none⟩ = some (.iface 112 (.pointer (some e))) := by rw [World.cell?_alloc_lt _ _ ⟨m.block, m.off + 1, none⟩ (by simp; omega), World.cell?_alloc_lt _ _ ⟨m.block, m.off + 1, none⟩ (by simp; omega), World.cell?_alloc_lt _ _ ⟨m.block, m.off + 1, none⟩ hml]; exact hm
  have el := a_elemVP ⟨w.heap.size, 0, none⟩ t (((w.alloc (.cells #[.pointer (some t)] 114)).alloc (.cells #[.pointer (some ⟨1, 114, none⟩), .pointer (some ⟨w.heap.size, 0, none⟩), .int .u64 150] 142)).alloc (.cells #[.pointer (some ⟨1, 114, none⟩), .pointer (some ⟨w.heap.size, 0, none⟩), .int .u64 150] 142)) (by rw [World.cell?_alloc_lt _ _ ⟨w.heap.size, 0, none⟩ (by simp; omega)]; simp)
  have st := a_setR t ⟨w.heap.size + 1 + 1 + 1, 0, none⟩ e old ((((w.alloc (.cells #[.pointer (some t)] 114)).alloc (.cells #[.pointer (some ⟨1, 114, none⟩), .pointer (some ⟨w.heap.size, 0, none⟩), .int .u64 150] 142)).alloc (.cells #[.pointer (some ⟨1, 114, none⟩), .pointer (some ⟨w.heap.size, 0, none⟩), .int .u64 150] 142)).alloc (.cells #[.pointer (some e)] 112))
    (by rw [World.cell?_alloc_at _ _ _ _ (by simp)]; rfl)
    (by rw [World.cell?_alloc_lt _ _ t (by simp; omega), World.cell?_alloc_lt _ _ t (by simp; omega), World.cell?_alloc_lt _ _ t (by simp; omega), World.cell?_alloc_lt _ _ t htl]; exact ht0)
    (by rw [World.frozen?_alloc_old _ _ t (by simp; omega), World.frozen?_alloc_old _ _ t (by simp; omega), World.frozen?_alloc_old _ _ t (by simp; omega), World.frozen?_alloc_old _ _ t (Nat.ne_of_lt htl)]; exact hf0)
  go_enter Tryd.func31, Tryd.ntmps31
  go_wp2
  refine wp_loop_rounds 2 ?_
  rw [rounds_succ]
  go_wp2
  rw [rounds_succ]
  go_wp2
  go_ret
  exact ⟨rfl, rfl⟩
end Go.Proofs.YtdleanjofhghnaaDoor.K
namespace Go.Proofs.YtdleanjofhghnaaDoor.K
open Go Go.Proofs Go.RowKit
def errG : Nat := 0
def ErrAt (h : H) : Prop := At h ⟨errG, 0, none⟩ [.iface 162 (.agg #[.pointer (some ⟨1, 77, none⟩)])]
def asks (h : H) (e : Int) (v : Value) : Prop := (e = 0 ∧ v = .nilIface) ∨ (e ≠ 0 ∧ ∃ m r : Nat, v = .iface 151 (.pointer (some ⟨m, 0, none⟩)) ∧ At h ⟨m, 1, none⟩ [.iface 112 (.pointer (some ⟨r, 0, none⟩))] ∧ At h ⟨r, 0, none⟩ (cInt .i64 e))
def m_errors_As (a0 a1 : PV) (K : Bool → H → Prop) : H → Prop := fun h =>
 (a0.1 = .nilIface ∧ K false h) ∨
 (∃ m e t : Addr, a0.1 = .iface 151 (.pointer (some m)) ∧ a1.1 = .iface 114 (.pointer (some t)) ∧ At h ⟨0, 0, none⟩ [.iface 162 (.agg #[.pointer (some ⟨1, 77, none⟩)])] ∧
 At h ⟨m.block, m.off + 1, none⟩ [.iface 112 (.pointer (some e))] ∧ mStore t [.pointer (some e)] (K true) h)
theorem w_As0 {a0 a1 : PV} {K : Bool → H → Prop} {h : H} (e : a0.1 = .nilIface) (y : K false h) : m_errors_As a0 a1 K h := .inl ⟨e, y⟩
theorem w_As1 {a0 : PV} {t : Nat} {v : Value} {K : Bool → H → Prop} {h : H} {e : Int} (x : asks h e a0.1) (ne : e ≠ 0) (g : ErrAt h) {ct : TypeId} (hb : h t = some (.cells [v].toArray ct (0, 0)))
    (y : ∀ r : Nat, At h ⟨r, 0, none⟩ (cInt .i64 e) → K true (upd h t (.cells [.pointer (some ⟨r, 0, none⟩)].toArray ct (0, 0)))) : m_errors_As a0 ⟨.iface 114 (.pointer (some ⟨t, 0, none⟩)), rfl, rfl⟩ K h := by
  rcases x with ⟨e0, _⟩ | ⟨_, m, r, e1, hm, hr⟩
  · exact absurd e0 ne
  · refine .inr ⟨⟨m, 0, none⟩, ⟨r, 0, none⟩, ⟨t, 0, none⟩, e1, rfl, g, hm, rfl, _, ct, (0, 0), hb, by simp, fun i _ => by simp [frozenIn], ?_⟩
    exact y r hr
theorem a_cell {w : World} {h : H} (s : Sat w h) {a : Addr} {v : Value} (x : At h a [v]) : w.cell? a = some v := by
  obtain ⟨h1, c, e, fz, h2, h3⟩ := x
  exact cell_of s h1 h2 (grab_one h3)
theorem a_alloc {w : World} {h g : H} (s : Sat2 w h g) (o : Obj) : Sat2 (w.alloc o) h g := ⟨s.hs.keep o, s.gs.keep o, s.ap⟩
theorem errors_As_ok (a : Den [tPV, tPV]) (K : Den [tBool] → HP) (h : H) (x : m_errors_As a.1 a.2 K h) :
    ACall Tryd.prog 31 (valsD [tPV, tPV] a).toArray h (fun v h' => ∃ r, v = outV (valsD [tBool] r) ∧ K r h') noP := by
  intro w g s
  show Calls _ _ #[a.1.1, a.2.1] _ _
  rcases x with ⟨h0, k⟩ | ⟨m, e, t, h0, h1, hg, hm, ts, c, ct, fz, hb, hl, hf, k⟩
  · rw [h0]
    refine (as_nil a.2.1 w).mono fun ev w' r => ?_
    obtain ⟨rfl, rfl⟩ := r
    exact ⟨h, s, .refl _, false, rfl, k⟩
  · rw [h0, h1]
    have hsz : t.off < c.size := by simp at hl; omega
    refine (as_hit2 m e t c[t.off] w (a_cell s.hs hg) (cell_of s.hs ts hb (by simp [hsz])) (by rw [frozen_of s.hs hb]; exact hf 0 (by simp)) (a_cell s.hs hm)).mono fun ev w' r => ?_
    obtain ⟨rfl, rfl⟩ := r
    refine ⟨upd h t.block (.cells (lay c t.off [.pointer (some e)]) ct fz), ?_, ?_, true, rfl, k⟩
    · have s4 := a_alloc (a_alloc (a_alloc (a_alloc s (.cells #[.pointer (some t)] 114)) (.cells #[.pointer (some ⟨1, 114, none⟩), .pointer (some ⟨w.heap.size, 0, none⟩), .int .u64 150] 142)) (.cells #[.pointer (some ⟨1, 114, none⟩), .pointer (some ⟨w.heap.size, 0, none⟩), .int .u64 150] 142)) (.cells #[.pointer (some e)] 112)
      refine s4.put hb (fun b hb' => ?_) ?_
      · simp only [asWorld, World.setCell, Array.getElem?_modify, if_neg (Ne.symm hb')]
      · simp [asWorld, World.setCell, Array.getElem?_modify, s4.hs _ _ hb, ts, lay]
    · exact ⟨rfl, rfl, rfl, by simp [asWorld, World.setCell]; omega⟩
def s_errors_As : Spec Tryd.prog := ⟨31, [tPV, tPV], [tBool], false, fun a K => m_errors_As a.1 a.2 K, errors_As_ok, ⟨_, Tryd.func31, by kernel_rfl, by kernel_rfl⟩⟩
end Go.Proofs.YtdleanjofhghnaaDoor.K
namespace Go.Proofs.YtdleanjofhghnaaDoor.K
open Go Go.Proofs
def m_derive_told (a0 : S_api_Cap) (a1 : PV) (K : (S_api_Cap × Int) → H → Prop) : H → Prop :=
 mNew 112 #[(Value.pointer none)] fun ad1 =>
 m_errors_As a1 (⟨Value.iface 114 (Value.pointer (some ad1)), rfl, rfl⟩ : PV) fun r2 =>
 mIf r2 (
 mJoin (fun (s3 : Int × Int × Int × Int) =>
 K ((⟨s3.2.1, ⟨s3.2.2.1, s3.2.2.2⟩⟩ : S_api_Cap), s3.1)
 ) (fun j4 =>
 mBoth (
 mLoad cPtr ad1 fun x5 =>
 mDeref x5 fun ad6 =>
 mBoth (
 mLoad (cInt .i64) (ad6.add 0) fun x7 =>
 j4 (x7, 0, 0, 0)
 ) (
 mLoad (cInt .i64) (ad6.add 0) fun x8 =>
 j4 (x8, 0, 0, 0)
 )
 ) (
 mLoad cPtr ad1 fun x9 =>
 mDeref x9 fun ad10 =>
 mLoad (cInt .i64) (ad10.add 0) fun x11 =>
 j4 (x11, 0, 0, 0)
 ))
 ) (
 K (a0, 0)
 )
def x_derive_told : Cx Tryd.prog := ⟨tys, [s_errors_As], [2, 4], [], mixed⟩
def h_derive_told : Hint := (.seq .d (.seq .d (.seq (.seq .d (.cond (.seq (.reg (.run [0] (.join [.slot 14 (tInt .i64), .cell 4 0 (tInt .i64), .cell 4 1 (tInt .u64), .cell 4 2 (tInt .u64)] 30720 [4] (.both 1 5 (.run [8, 12] (.both 4 5 (.run [23] .nil) (.run [18] .nil))) (.run [6, 8, 12, 18] .nil)) (.run [24] .nil)))) .d) .d)) .d)))
def s_derive_told : Spec Tryd.prog := mkSpec x_derive_told 23 Tryd.f23 [S_api_Cap.ty, tPV] [S_api_Cap.ty, (tInt .i64)] false h_derive_told (fun a => m_derive_told a.1 a.2) (fun a K h => by kernel_rfl) callee23 rfl
def m_derive_ask (a0 : ByteArray) (a1 : Int) (K : (PV) → H → Prop) : H → Prop :=
 mIf (decide (a1 = 0)) (
 K (⟨Value.nilIface, rfl, rfl⟩ : PV)
 ) (
 mNew 116 #[(Value.int .i64 a1)] fun ad1 =>
 mNew 153 #[(Value.string a0), (⟨Value.iface 112 (Value.pointer (some ad1)), rfl, rfl⟩ : PV).1] fun ad2 =>
 K (⟨Value.iface 151 (Value.pointer (some ad2)), rfl, rfl⟩ : PV)
 )
def x_derive_ask : Cx Tryd.prog := ⟨tys, [], [], [], mixed⟩
def h_derive_ask : Hint := .d
def s_derive_ask : Spec Tryd.prog := mkSpec x_derive_ask 33 Tryd.f33 [tStr, (tInt .i64)] [tPV] false h_derive_ask (fun a => m_derive_ask a.1 a.2) (fun a K h => by kernel_rfl) callee33 rfl
def m_derive_root (a0 : Option Addr) (a1 : Option Addr) (a2 : Option Addr) (a3 : Int) (K : (S_api_Cap × PV) → H → Prop) : H → Prop :=
 m_catalogue_Catalogue_In a1 a3 fun r1 =>
 mIf (decide (0 < r1)) (
 m_derive_ask (ByteArray.mk #[116, 104, 101, 32, 111, 98, 106, 101, 99, 116]) 19 fun r2 =>
 K ((⟨0, ⟨0, 0⟩⟩ : S_api_Cap), r2)
 ) (
 m_quota_Quota_May a2 a3 fun r3 =>
 m_derive_ask (ByteArray.mk #[113, 117, 111, 116, 97]) r3 fun r4 =>
 mIsNil r4.1 fun b5 =>
 mIf (!b5) (
 K ((⟨0, ⟨0, 0⟩⟩ : S_api_Cap), r4)
 ) (
 m_draws_Draws_Draw a0 fun r6 =>
 m_derive_ask (ByteArray.mk #[100, 114, 97, 119, 115]) r6.2 fun r7 =>
 mIsNil r7.1 fun b8 =>
 mIf (!b8) (
 K ((⟨0, ⟨0, 0⟩⟩ : S_api_Cap), r7)
 ) (
 m_catalogue_Catalogue_Root a1 (⟨a3, ⟨r6.1.Hi, r6.1.Lo⟩⟩ : S_api_Cap) 31 fun r9 =>
 mIf (!decide (r9.2 = 0)) (
 m_derive_ask (ByteArray.mk #[99, 97, 116, 97, 108, 111, 103, 117, 101]) r9.2 fun r10 =>
 K ((⟨0, ⟨0, 0⟩⟩ : S_api_Cap), r10)
 ) (
 m_quota_Quota_Add a2 a3 fun r11 =>
 m_derive_ask (ByteArray.mk #[113, 117, 111, 116, 97]) r11 fun r12 =>
 K ((⟨a3, ⟨r6.1.Hi, r6.1.Lo⟩⟩ : S_api_Cap), r12)
 )
 )
 )
 )
def x_derive_root : Cx Tryd.prog := ⟨tys, [s_catalogue_Catalogue_In, s_derive_ask, s_quota_Quota_May, s_draws_Draws_Draw, s_catalogue_Catalogue_Root, s_quota_Quota_Add], [8, 11, 14], [], mixed⟩
def h_derive_root : Hint := (.seq .d (.seq .d (.seq .d (.seq .d (.seq .d (.seq .d (.seq .d (.seq (.reg (.run [4, 8, 1, 15, 19, 23, 24] .nil)) .d))))))))
def s_derive_root : Spec Tryd.prog := mkSpec x_derive_root 24 Tryd.f24 [tPtr, tPtr, tPtr, (tInt .i64)] [S_api_Cap.ty, tPV] false h_derive_root (fun a => m_derive_root a.1 a.2.1 a.2.2.1 a.2.2.2) (fun a K h => by kernel_rfl) callee24 rfl
def m_derive_Root (a0 : Option Addr) (a1 : Option Addr) (a2 : Option Addr) (a3 : Int) (K : (S_api_Cap × Int) → H → Prop) : H → Prop :=
 m_derive_root a0 a1 a2 a3 fun r1 =>
 m_derive_told r1.1 r1.2 fun r2 =>
 K (r2.1, r2.2)
def x_derive_Root : Cx Tryd.prog := ⟨tys, [s_derive_told, s_derive_root], [8], [], mixed⟩
def h_derive_Root : Hint := .d
def s_derive_Root : Spec Tryd.prog := mkSpec x_derive_Root 9 Tryd.f9 [tPtr, tPtr, tPtr, (tInt .i64)] [S_api_Cap.ty, (tInt .i64)] false h_derive_Root (fun a => m_derive_Root a.1 a.2.1 a.2.2.1 a.2.2.2) (fun a K h => by kernel_rfl) callee9 rfl
def m_derive_child (a0 : Option Addr) (a1 : Option Addr) (a2 : Option Addr) (a3 : S_api_Cap) (a4 : Int) (K : (S_api_Cap × PV) → H → Prop) : H → Prop :=
 m_catalogue_Catalogue_Find a1 a3 fun r1 =>
 mIf (!r1.2) (
 m_derive_ask (ByteArray.mk #[112, 97, 114, 101, 110, 116]) 3 fun r2 =>
 K ((⟨0, ⟨0, 0⟩⟩ : S_api_Cap), r2)
 ) (
 m_catalogue_Catalogue_At a1 r1.1 fun r3 =>
 mPure (m_mask_Has r3.1.Rights 4) fun r4 =>
 mJoin (fun (s6 : Bool) =>
 mIf s6 (
 m_derive_ask (ByteArray.mk #[114, 105, 103, 104, 116, 115]) 4 fun r8 =>
 K ((⟨0, ⟨0, 0⟩⟩ : S_api_Cap), r8)
 ) (
 m_quota_Quota_May a2 a3.Obj fun r9 =>
 m_derive_ask (ByteArray.mk #[113, 117, 111, 116, 97]) r9 fun r10 =>
 mIsNil r10.1 fun b11 =>
 mIf (!b11) (
 K ((⟨0, ⟨0, 0⟩⟩ : S_api_Cap), r10)
 ) (
 m_issue_Of a0 a1 a3.Obj fun r12 =>
 m_derive_ask (ByteArray.mk #[105, 115, 115, 117, 101]) r12.2 fun r13 =>
 mIsNil r13.1 fun b14 =>
 mIf (!b14) (
 K ((⟨0, ⟨0, 0⟩⟩ : S_api_Cap), r13)
 ) (
 m_catalogue_Catalogue_Child a1 r1.1 (⟨a3.Obj, ⟨r12.1.Hi, r12.1.Lo⟩⟩ : S_api_Cap) a4 fun r15 =>
 mIf (!decide (r15.2 = 0)) (
 m_derive_ask (ByteArray.mk #[99, 97, 116, 97, 108, 111, 103, 117, 101]) r15.2 fun r16 =>
 K ((⟨0, ⟨0, 0⟩⟩ : S_api_Cap), r16)
 ) (
 m_quota_Quota_Add a2 a3.Obj fun r17 =>
 m_derive_ask (ByteArray.mk #[113, 117, 111, 116, 97]) r17 fun r18 =>
 K ((⟨a3.Obj, ⟨r12.1.Hi, r12.1.Lo⟩⟩ : S_api_Cap), r18)
 )
 )
 )
 )
 ) (fun j7 =>
 mIf (!r4) (
 j7 true
 ) (
 mPure (m_mask_Part a4 r3.1.Rights) fun r19 =>
 j7 (!r19)
 ))
 )
def x_derive_child : Cx Tryd.prog := ⟨tys, [s_derive_ask, s_quota_Quota_May, s_quota_Quota_Add, s_catalogue_Catalogue_Find, s_catalogue_Catalogue_At, s_mask_Has, s_mask_Part, s_issue_Of, s_catalogue_Catalogue_Child], [8, 10, 14, 17, 20], [], mixed⟩
def h_derive_child : Hint := (.seq .d (.seq .d (.seq .d (.seq .d (.seq (.seq (.reg (.run [3, 7, 11, 15, 19] (.join [.slot 49 tBool] 1108307720798208 [] (.split 43 (.run [23, 27, 31, 35, 39, 43] .nil) (.run [23, 27, 31, 35, 39, 43] .nil)) .nil))) .d) (.seq .d (.seq .d (.seq .d (.seq .d (.seq .d (.seq (.reg (.run [4, 8, 1, 13, 19, 23, 27, 28] .nil)) .d)))))))))))
def s_derive_child : Spec Tryd.prog := mkSpec x_derive_child 25 Tryd.f25 [tPtr, tPtr, tPtr, S_api_Cap.ty, (tInt .i64)] [S_api_Cap.ty, tPV] false h_derive_child (fun a => m_derive_child a.1 a.2.1 a.2.2.1 a.2.2.2.1 a.2.2.2.2) (fun a K h => by kernel_rfl) callee25 rfl
def m_derive_Child (a0 : Option Addr) (a1 : Option Addr) (a2 : Option Addr) (a3 : S_api_Cap) (a4 : Int) (K : (S_api_Cap × Int) → H → Prop) : H → Prop :=
 m_derive_child a0 a1 a2 a3 a4 fun r1 =>
 m_derive_told r1.1 r1.2 fun r2 =>
 K (r2.1, r2.2)
def x_derive_Child : Cx Tryd.prog := ⟨tys, [s_derive_told, s_derive_child], [8, 10], [], mixed⟩
def h_derive_Child : Hint := .d
def s_derive_Child : Spec Tryd.prog := mkSpec x_derive_Child 10 Tryd.f10 [tPtr, tPtr, tPtr, S_api_Cap.ty, (tInt .i64)] [S_api_Cap.ty, (tInt .i64)] false h_derive_Child (fun a => m_derive_Child a.1 a.2.1 a.2.2.1 a.2.2.2.1 a.2.2.2.2) (fun a K h => by kernel_rfl) callee10 rfl
end Go.Proofs.YtdleanjofhghnaaDoor.K
namespace Go.Proofs.YtdleanjofhghnaaDoor.K
open Go
section
variable {h : H} {K : PV → H → Prop}
theorem w_ask {s : ByteArray} {e : Int} (y0 : e = 0 → ∀ v : PV, v.1 = .nilIface → K v h) (y1 : e ≠ 0 → ∀ v h', asks h' e v.1 → Keeps h h' → K v h') : m_derive_ask s e K h := by
  unfold m_derive_ask
  refine w_if' (fun c => y0 c _ rfl) fun c => ?_
  refine w_box fun b1 h1 f1 c1 k1 => w_box fun b2 h2 f2 c2 k2 => ?_
  refine y1 c _ h2 (.inr ⟨c, b2, b1, rfl, ?_, ?_⟩) (k1.trans k2)
  · exact At.own (l1 := [Value.string s]) (l3 := []) c2 rfl
  · exact (at_box c1).keep k2
theorem w_isNil0 {fv : Value} {K : Bool → H → Prop} (e : fv = .nilIface) (y : K true h) : mIsNil fv K h := .inl ⟨e, y⟩
theorem w_isNil1 {fv : Value} {e : Int} {K : Bool → H → Prop} (x : asks h e fv) (ne : e ≠ 0) (y : K false h) : mIsNil fv K h := by
  rcases x with ⟨e0, _⟩ | ⟨_, m, r, e1, _⟩
  · exact absurd e0 ne
  · exact .inr ⟨_, _, e1, y⟩
def cap0 : S_api_Cap := ⟨0, ⟨0, 0⟩⟩
theorem w_told0 {c : S_api_Cap} {fv : PV} {K : S_api_Cap × Int → H → Prop} (e : fv.1 = .nilIface) (y : ∀ h', Keeps h h' → K (c, 0) h') : m_derive_told c fv K h := by
  unfold m_derive_told
  refine w_box fun b1 h1 f1 c1 k1 => ?_
  exact w_As0 e (w_ifF rfl (y h1 k1))
theorem w_told1 {c : S_api_Cap} {fv : PV} {e : Int} {K : S_api_Cap × Int → H → Prop} (g : ErrAt h) (x : asks h e fv.1) (ne : e ≠ 0) (y : ∀ h', Keeps h h' → K (cap0, e) h') : m_derive_told c fv K h := by
  unfold m_derive_told
  refine w_box fun b1 h1 f1 c1 k1 => ?_
  have x1 : asks h1 e fv.1 := by
    rcases x with ⟨e0, _⟩ | ⟨_, m, r, e1, hm, hr⟩
    · exact absurd e0 ne
    · exact .inr ⟨ne, m, r, e1, hm.keep k1, hr.keep k1⟩
  refine w_As1 (v := .pointer none) x1 ne (g.keep k1) c1 fun r hr => ?_
  have hrb : r ≠ b1 := fun q => by
    subst q
    rcases x with ⟨e0, _⟩ | ⟨_, m, r', e1, hm, hr'⟩
    · exact absurd e0 ne
    · obtain ⟨o, ho⟩ := hr.ex
      have a1 := at_box (cs := [Value.pointer none]) c1
      have a2 := At.eq hr a1 rfl
      simp [cInt] at a2
  refine w_ifT rfl (w_join ?_)
  have l1 : At (upd h1 b1 (.cells [Value.pointer (some ⟨r, 0, none⟩)].toArray N_P_derive_refusal (0, 0))) ⟨b1, 0, none⟩ (cPtr (some ⟨r, 0, none⟩)) := at_box (upd_same _ _ _)
  have l2 : At (upd h1 b1 (.cells [Value.pointer (some ⟨r, 0, none⟩)].toArray N_P_derive_refusal (0, 0))) (Addr.add ⟨r, 0, none⟩ 0) (cInt .i64 e) := by
    rw [pt_add]; exact hr.frame (upd_ne _ _ hrb)
  have kk : Keeps h (upd h1 b1 (.cells [Value.pointer (some ⟨r, 0, none⟩)].toArray N_P_derive_refusal (0, 0))) := fun z o ho => by
    rw [upd_ne _ _ (fun q => by rw [q, f1] at ho; cases ho)]; exact k1 z o ho
  exact w_both (w_load l1 (w_deref (w_both (w_load l2 (y _ kk)) (w_load l2 (y _ kk))))) (w_load l1 (w_deref (w_load l2 (y _ kk))))
end
def DraO (h : H) (o : Owner) (i d : Nat) (cs : List S_api_Word) (tk : Nat) : Prop := ∃ ws, DAt h d ws cs tk ∧ o d = some i ∧ ∀ c, ws.foot c → o c = some i
section
variable {i j : Nat} {o o' : Owner} {h h' : H} {p d q : Nat} {es : List En} {each all : Int} {l : List (Int × Int)} {cs : List S_api_Word} {tk : Nat}
theorem DraO.oc (x : DraO h o i d cs tk) (k : OC j o o' h h') (ne : i ≠ j) : DraO h' o' i d cs tk := by
  obtain ⟨ws, a, b1, b2⟩ := x
  exact ⟨ws, a.but k.bt fun c e => ⟨fun q => ne (by rw [q, b1] at e; exact Option.some.inj e), fun f => ne (by rw [b2 c f] at e; exact Option.some.inj e)⟩, k.own _ _ b1, fun c f => k.own _ _ (b2 c f)⟩
theorem DraO.keep (x : DraO h o i d cs tk) (k : Keeps h h') : DraO h' o i d cs tk := by
  obtain ⟨ws, a, b⟩ := x; exact ⟨ws, a.keep k, b⟩
theorem CatO.keep (x : CatO h o i p es) (k : Keeps h h') : CatO h' o i p es := x.oc (OC.keeps (i := i + 1) k) (by omega)
theorem QuoO.keep (x : QuoO h o i q each all l) (k : Keeps h h') : QuoO h' o i q each all l := x.oc (OC.keeps (i := i + 1) k) (by omega)
theorem OC.one {b : Nat} (ow : Owns o h) (k : But (· = b) h h') (dm : ∀ z, h' z = none → h z = none) (e : o b = some i) : OC i o o h h' ∧ Owns o h' :=
  ⟨⟨fun c x hc n => k c x hc fun q => n (by (have q : c = b := q); rw [q, e]), fun _ _ q => q, fun _ q => .inl q, dm⟩, fun c q z => ow c q (dm c z)⟩
theorem o_taken (x : DraO h o i d cs tk) {K : Int → H → Prop} (y : K (tk : Int) h) : m_draws_Draws_Taken (some ⟨d, 0, none⟩) K h := by
  obtain ⟨_, a, _⟩ := x; exact t_DTaken a y
theorem o_draw (x : DraO h o i d cs tk) (ow : Owns o h) {K : S_api_Word × Int → H → Prop} (y0 : cs[tk]? = none → K (⟨0, 0⟩, 11) h) (y1 : ∀ c, cs[tk]? = some c → ∀ h', DraO h' o i d cs (tk + 1) → OC i o o h h' → Owns o h' → K (c, 0) h') : m_draws_Draws_Draw (some ⟨d, 0, none⟩) K h := by
  obtain ⟨ws, a, b1, b2⟩ := x
  refine t_DDraw a y0 fun c hc h' a' k dm => ?_
  obtain ⟨k1, k2⟩ := OC.one ow k dm b1
  exact y1 c hc h' ⟨ws, a', b1, b2⟩ k1 k2
theorem o_issue (x : DraO h o i d cs tk) (ow : Owns o h) (ct : CatO h o j p es) (ne : i ≠ j) {b : Int} {K : S_api_Word × Int → H → Prop}
    (y : ∀ h', DraO h' o i d cs (issueO (fun c => (findE es ⟨b, c⟩).isSome) cs tk 9).2 → OC i o o h h' → Owns o h' → K (issueO (fun c => (findE es ⟨b, c⟩).isSome) cs tk 9).1 h') : m_issue_Of (some ⟨d, 0, none⟩) (some ⟨p, 0, none⟩) b K h := by
  obtain ⟨ws, a, b1, b2⟩ := x
  obtain ⟨knob, G, ca, cb⟩ := ct
  refine t_issueOf a ca (fun g => ne (by have := cb _ g; rw [b1] at this; exact Option.some.inj this)) fun h' a' k dm => ?_
  obtain ⟨k1, k2⟩ := OC.one ow k dm b1
  exact y h' ⟨ws, a', b1, b2⟩ k1 k2
theorem o_in (x : CatO h o i p es) {n : Int} {K : Int → H → Prop} (y : K (cnt es n : Nat) h) : m_catalogue_Catalogue_In (some ⟨p, 0, none⟩) n K h := by
  obtain ⟨_, _, a, _⟩ := x; exact t_CIn a y
theorem o_qmay (x : QuoO h o i q each all l) {n : Int} {K : Int → H → Prop} (y : ∀ h', Keeps h h' → K (mayOf each all l n) h') : m_quota_Quota_May (some ⟨q, 0, none⟩) n K h := by
  obtain ⟨_, a, _⟩ := x; exact t_QMay a y
end
noncomputable def rootD (each all : Int) (cs : List S_api_Word) (tk : Nat) (es : List En) (l : List (Int × Int)) (b : Int) : (S_api_Cap × Int) × Nat × List En × List (Int × Int) :=
  if 0 < cnt es b then ((cap0, 19), tk, es, l)
  else if mayOf each all l b = 0 then
    match cs[tk]? with
    | none => ((cap0, 11), tk, es, l)
    | some c => if (rootOut es ⟨b, c⟩ 31).1.2 = 0 then ((⟨b, c⟩, 0), tk + 1, (rootOut es ⟨b, c⟩ 31).2, addL each all l b)
      else ((cap0, (rootOut es ⟨b, c⟩ 31).1.2), tk + 1, (rootOut es ⟨b, c⟩ 31).2, l)
  else ((cap0, mayOf each all l b), tk, es, l)
noncomputable def childD (each all : Int) (cs : List S_api_Word) (tk : Nat) (es : List En) (l : List (Int × Int)) (c : S_api_Cap) (r : Int) : (S_api_Cap × Int) × Nat × List En × List (Int × Int) :=
  match findE es c with
  | none => ((cap0, 3), tk, es, l)
  | some n =>
    if (!partOf 4 (atOut es n).1.Rights || !partOf r (atOut es n).1.Rights) = true then ((cap0, 4), tk, es, l)
    else if mayOf each all l c.Obj = 0 then
      if (issueO (fun v => (findE es ⟨c.Obj, v⟩).isSome) cs tk 9).1.2 = 0 then
        if (childOut es n ⟨c.Obj, (issueO (fun v => (findE es ⟨c.Obj, v⟩).isSome) cs tk 9).1.1⟩ r).1.2 = 0 then
          ((⟨c.Obj, (issueO (fun v => (findE es ⟨c.Obj, v⟩).isSome) cs tk 9).1.1⟩, 0), (issueO (fun v => (findE es ⟨c.Obj, v⟩).isSome) cs tk 9).2, (childOut es n ⟨c.Obj, (issueO (fun v => (findE es ⟨c.Obj, v⟩).isSome) cs tk 9).1.1⟩ r).2, addL each all l c.Obj)
        else ((cap0, (childOut es n ⟨c.Obj, (issueO (fun v => (findE es ⟨c.Obj, v⟩).isSome) cs tk 9).1.1⟩ r).1.2), (issueO (fun v => (findE es ⟨c.Obj, v⟩).isSome) cs tk 9).2, (childOut es n ⟨c.Obj, (issueO (fun v => (findE es ⟨c.Obj, v⟩).isSome) cs tk 9).1.1⟩ r).2, l)
      else ((cap0, (issueO (fun v => (findE es ⟨c.Obj, v⟩).isSome) cs tk 9).1.2), (issueO (fun v => (findE es ⟨c.Obj, v⟩).isSome) cs tk 9).2, es, l)
    else ((cap0, mayOf each all l c.Obj), tk, es, l)
structure OS (S : Nat → Prop) (o o' : Owner) (h h' : H) : Prop where
  but : ∀ c x, h c = some x → (∀ i, o c = some i → ¬ S i) → h' c = some x
  own : ∀ c t, o c = some t → o' c = some t
  new : ∀ c, o' c ≠ none → o c ≠ none ∨ h c = none
  dom : ∀ c, h' c = none → h c = none
section
variable {S : Nat → Prop} {i : Nat} {o o' o'' : Owner} {h h' h'' : H}
theorem OC.os (k : OC i o o' h h') (hi : S i) : OS S o o' h h' := ⟨fun c x e n => k.but c x e fun q => n i q hi, k.own, k.new, k.dom⟩
theorem OS.keeps (k : Keeps h h') : OS S o o h h' := ⟨fun c x e _ => k c x e, fun _ _ e => e, fun _ e => .inl e, fun _ e => k.fresh e⟩
theorem OS.trans (x : OS S o o' h h') (y : OS S o' o'' h' h'') : OS S o o'' h h'' := by
  refine ⟨fun c z e n => ?_, fun c t e => y.own c t (x.own c t e), fun c e => ?_, fun c e => x.dom c (y.dom c e)⟩
  · have h1 := x.but c z e n
    refine y.but c z h1 fun i hi => ?_
    cases q : o c with
    | none => exact ((x.new c (by rw [hi]; simp)).elim (fun z => (z q).elim) fun z => by rw [z] at e; cases e)
    | some t => rw [x.own c t q] at hi; cases hi; exact n _ q
  · rcases y.new c e with q | q
    · exact x.new c q
    · exact .inr (x.dom c q)
theorem OS.bt (k : OS S o o' h h') : But (fun c => ∃ i, o c = some i ∧ S i) h h' := fun c x e n => k.but c x e fun i hi hs => n ⟨i, hi, hs⟩
theorem OS.gone (k : OS S o o' h h') {c : Nat} (e : o c = none) (hc : h c ≠ none) : o' c = none := by
  cases q : o' c with
  | none => rfl
  | some t => exact (k.new c (by rw [q]; simp)).elim (fun z => absurd e z) fun z => absurd z hc
theorem OS.free (k : OS S o o' h h') {c : Nat} {x : Obj} (e : o c = none) (hc : h c = some x) : h' c = some x := k.but c x hc fun i q => by rw [e] at q; cases q
end
structure SetO (h : H) (o : Owner) (d p q : Nat) (cs : List S_api_Word) (each all : Int) (tk : Nat) (es : List En) (l : List (Int × Int)) : Prop where
  dr : DraO h o 1 d cs tk
  ct : CatO h o 2 p es
  qu : QuoO h o 3 q each all l
  er : ErrAt h
  eo : o errG = none
  ow : Owns o h
  hi : all ≤ 256
section
variable {h h' : H} {o o' : Owner} {d p q : Nat} {cs : List S_api_Word} {each all : Int} {tk tk' : Nat} {es es' : List En} {l l' : List (Int × Int)}
theorem SetO.keep (x : SetO h o d p q cs each all tk es l) (k : Keeps h h') : SetO h' o d p q cs each all tk es l := ⟨x.dr.keep k, x.ct.keep k, x.qu.keep k, x.er.keep k, x.eo, x.ow.keep k, x.hi⟩
theorem ErrAt.os {S : Nat → Prop} (e : ErrAt h) (k : OS S o o' h h') (eo : o errG = none) : ErrAt h' := At.but e k.bt fun ⟨_, q, _⟩ => by rw [show o errG = some _ from q] at eo; cases eo
theorem ErrAt.has (e : ErrAt h) : h errG ≠ none := by obtain ⟨x, hx⟩ := e.ex; have : h errG = some x := hx; rw [this]; simp
theorem SetO.draw (x : SetO h o d p q cs each all tk es l) (y : DraO h' o 1 d cs tk') (k : OC 1 o o h h') (ow : Owns o h') : SetO h' o d p q cs each all tk' es l :=
  ⟨y, x.ct.oc k (by decide), x.qu.oc k (by decide), x.er.os (k.os (S := fun _ => True) trivial) x.eo, x.eo, ow, x.hi⟩
theorem SetO.cat (x : SetO h o d p q cs each all tk es l) (y : CatO h' o' 2 p es') (k : OC 2 o o' h h') (ow : Owns o' h') : SetO h' o' d p q cs each all tk es' l :=
  ⟨x.dr.oc k (by decide), y, x.qu.oc k (by decide), x.er.os (k.os (S := fun _ => True) trivial) x.eo, (k.os (S := fun _ => True) trivial).gone x.eo x.er.has, ow, x.hi⟩
theorem SetO.quo (x : SetO h o d p q cs each all tk es l) (y : QuoO h' o 3 q each all l') (k : OC 3 o o h h') (ow : Owns o h') : SetO h' o d p q cs each all tk es l' :=
  ⟨x.dr.oc k (by decide), x.ct.oc k (by decide), y, x.er.os (k.os (S := fun _ => True) trivial) x.eo, x.eo, ow, x.hi⟩
theorem SetO.no (x : SetO h o d p q cs each all tk es l) {s : ByteArray} {e : Int} (ne : e ≠ 0) {c : S_api_Cap} {K : S_api_Cap × Int → H → Prop} (y : ∀ h', SetO h' o d p q cs each all tk es l → OS (· ≤ 3) o o h h' → K (cap0, e) h') :
    m_derive_ask s e (fun v => m_derive_told c v K) h :=
  w_ask (fun q => absurd q ne) fun _ _ _ a1 k1 => w_told1 (x.er.keep k1) a1 ne fun h2 k2 => y h2 (x.keep (k1.trans k2)) (OS.keeps (k1.trans k2))
theorem SetO.some (x : SetO h o d p q cs each all tk es l) {v : PV} {e : Int} (a : asks h e v.1) (ne : e ≠ 0) {c : S_api_Cap} {K : S_api_Cap × Int → H → Prop} {B : H → Prop} (y : ∀ h', SetO h' o d p q cs each all tk es l → OS (· ≤ 3) o o h h' → K (cap0, e) h') :
    mIsNil v.1 (fun b => mIf (!b) (m_derive_told c v K) B) h :=
  w_isNil1 a ne (w_ifT rfl (w_told1 x.er a ne fun h2 k2 => y h2 (x.keep k2) (OS.keeps k2)))
theorem t_dRoot (x : SetO h o d p q cs each all tk es l) {b : Int} {K : S_api_Cap × Int → H → Prop}
    (y : ∀ o' h', SetO h' o' d p q cs each all (rootD each all cs tk es l b).2.1 (rootD each all cs tk es l b).2.2.1 (rootD each all cs tk es l b).2.2.2 → OS (· ≤ 3) o o' h h' → K (rootD each all cs tk es l b).1 h') :
    m_derive_Root (some ⟨d, 0, none⟩) (some ⟨p, 0, none⟩) (some ⟨q, 0, none⟩) b K h := by
  unfold m_derive_Root m_derive_root
  refine o_in x.ct (w_if' (fun c => ?_) fun c => ?_)
  · have e : rootD each all cs tk es l b = ((cap0, 19), tk, es, l) := by unfold rootD; rw [if_pos (by omega)]
    rw [e] at y
    exact x.no (by decide) fun h' x' k' => y o h' x' k'
  · refine o_qmay x.qu fun h1 k1 => ?_
    have x1 := x.keep k1
    refine w_ask (fun e v hv => ?_) fun e v h2 a2 k2 => ?_
    · refine w_isNil0 hv (w_ifF rfl (o_draw x1.dr x1.ow (fun hno => ?_) fun c' hc h2 dr2 k2 ow2 => ?_))
      · have e : rootD each all cs tk es l b = ((cap0, 11), tk, es, l) := by unfold rootD; rw [if_neg (by omega), if_pos e, hno]
        rw [e] at y
        refine w_ask (fun q => by cases q) fun ne v h2 a2 k2 => (x1.keep k2).some a2 ne fun h3 x3 k3 => y o h3 x3 ((OS.keeps (k1.trans k2)).trans k3)
      · have x2 := x1.draw dr2 k2 ow2
        refine w_ask (fun _ v hv => w_isNil0 hv (w_ifF rfl ?_)) fun ne => absurd rfl ne
        refine o_root x2.ct x2.ow fun o3 h3 ct3 k3 ow3 => ?_
        have x3 := x2.cat ct3 k3 ow3
        have kk : OS (· ≤ 3) o o3 h h3 := ((OS.keeps k1).trans (k2.os (by decide))).trans (k3.os (by decide))
        by_cases e3 : (rootOut es ⟨b, c'⟩ 31).1.2 = 0
        · have e' : rootD each all cs tk es l b = ((⟨b, c'⟩, 0), tk + 1, (rootOut es ⟨b, c'⟩ 31).2, addL each all l b) := by unfold rootD; rw [if_neg (by omega), if_pos e, hc]; simp only []; rw [if_pos e3]
          rw [e'] at y
          refine w_ifF (congrArg Bool.not (decide_eq_true e3)) (o_qadd x3.qu x3.ow x3.hi fun h4 qu4 k4 ow4 => ?_)
          have x4 := x3.quo qu4 k4 ow4
          exact w_ask (fun _ v hv => w_told0 hv fun h5 k5 => y o3 h5 (x4.keep k5) ((kk.trans (k4.os (by decide))).trans (OS.keeps k5))) fun ne => absurd e ne
        · have e' : rootD each all cs tk es l b = ((cap0, (rootOut es ⟨b, c'⟩ 31).1.2), tk + 1, (rootOut es ⟨b, c'⟩ 31).2, l) := by unfold rootD; rw [if_neg (by omega), if_pos e, hc]; simp only []; rw [if_neg e3]
          rw [e'] at y
          refine w_ifT (congrArg Bool.not (decide_eq_false e3)) ?_
          exact x3.no e3 fun h4 x4 k4 => y o3 h4 x4 (kk.trans k4)
    · have e' : rootD each all cs tk es l b = ((cap0, mayOf each all l b), tk, es, l) := by unfold rootD; rw [if_neg (by omega), if_neg e]
      rw [e'] at y
      exact (x1.keep k2).some a2 e fun h3 x3 k3 => y o h3 x3 ((OS.keeps (k1.trans k2)).trans k3)
theorem t_dChild (x : SetO h o d p q cs each all tk es l) {c : S_api_Cap} {r : Int} {K : S_api_Cap × Int → H → Prop}
    (y : ∀ o' h', SetO h' o' d p q cs each all (childD each all cs tk es l c r).2.1 (childD each all cs tk es l c r).2.2.1 (childD each all cs tk es l c r).2.2.2 → OS (· ≤ 3) o o' h h' → K (childD each all cs tk es l c r).1 h') :
    m_derive_Child (some ⟨d, 0, none⟩) (some ⟨p, 0, none⟩) (some ⟨q, 0, none⟩) c r K h := by
  unfold m_derive_Child m_derive_child
  refine o_find x.ct ?_
  cases hf : findE es c with
  | none =>
    have e : childD each all cs tk es l c r = ((cap0, 3), tk, es, l) := by unfold childD; rw [hf]
    rw [e] at y
    exact w_ifT rfl (x.no (by decide) fun h' x' k' => y o h' x' k')
  | some n =>
    refine w_ifF rfl (o_at x.ct ?_)
    show mPure (m_mask_Has (atOut es n).1.Rights 4) _ h
    refine w_pure (partOf 4 (atOut es n).1.Rights) (fun _ _ z => by unfold m_mask_Has; exact w_Part z) ?_
    refine w_joinV (!partOf 4 (atOut es n).1.Rights || !partOf r (atOut es n).1.Rights) (fun j hj => ?_) ?_
    · refine w_if (fun c1 => ?_) fun c1 => w_Part ?_
      · rw [c1] at hj; exact hj
      · rw [c1] at hj; exact hj
    · refine w_if (fun c1 => ?_) fun c1 => ?_
      · have e : childD each all cs tk es l c r = ((cap0, 4), tk, es, l) := by unfold childD; rw [hf]; simp only []; rw [if_pos c1]
        rw [e] at y
        exact x.no (by decide) fun h' x' k' => y o h' x' k'
      · refine o_qmay x.qu fun h1 k1 => ?_
        have x1 := x.keep k1
        have c2 : ¬ (!partOf 4 (atOut es n).1.Rights || !partOf r (atOut es n).1.Rights) = true := by rw [c1]; decide
        refine w_ask (fun e v hv => ?_) fun e v h2 a2 k2 => ?_
        · refine w_isNil0 hv (w_ifF rfl (o_issue x1.dr x1.ow x1.ct (by decide) fun h2 dr2 k2 ow2 => ?_))
          have x2 := x1.draw dr2 k2 ow2
          have kk2 : OS (· ≤ 3) o o h h2 := (OS.keeps k1).trans (k2.os (by decide))
          by_cases e2 : (issueO (fun v => (findE es ⟨c.Obj, v⟩).isSome) cs tk 9).1.2 = 0
          · refine w_ask (fun _ v hv => w_isNil0 hv (w_ifF rfl ?_)) fun ne => absurd e2 ne
            refine o_child x2.ct x2.ow fun o3 h3 ct3 k3 ow3 => ?_
            have x3 := x2.cat ct3 k3 ow3
            have kk : OS (· ≤ 3) o o3 h h3 := kk2.trans (k3.os (by decide))
            by_cases e3 : (childOut es n ⟨c.Obj, (issueO (fun v => (findE es ⟨c.Obj, v⟩).isSome) cs tk 9).1.1⟩ r).1.2 = 0
            · have e' : childD each all cs tk es l c r = ((⟨c.Obj, (issueO (fun v => (findE es ⟨c.Obj, v⟩).isSome) cs tk 9).1.1⟩, 0), (issueO (fun v => (findE es ⟨c.Obj, v⟩).isSome) cs tk 9).2, (childOut es n ⟨c.Obj, (issueO (fun v => (findE es ⟨c.Obj, v⟩).isSome) cs tk 9).1.1⟩ r).2, addL each all l c.Obj) := by
                unfold childD; rw [hf]; simp only []; rw [if_neg c2, if_pos e, if_pos e2, if_pos e3]
              rw [e'] at y
              refine w_ifF (congrArg Bool.not (decide_eq_true e3)) (o_qadd x3.qu x3.ow x3.hi fun h4 qu4 k4 ow4 => ?_)
              have x4 := x3.quo qu4 k4 ow4
              exact w_ask (fun _ v hv => w_told0 hv fun h5 k5 => y o3 h5 (x4.keep k5) ((kk.trans (k4.os (by decide))).trans (OS.keeps k5))) fun ne => absurd e ne
            · have e' : childD each all cs tk es l c r = ((cap0, (childOut es n ⟨c.Obj, (issueO (fun v => (findE es ⟨c.Obj, v⟩).isSome) cs tk 9).1.1⟩ r).1.2), (issueO (fun v => (findE es ⟨c.Obj, v⟩).isSome) cs tk 9).2, (childOut es n ⟨c.Obj, (issueO (fun v => (findE es ⟨c.Obj, v⟩).isSome) cs tk 9).1.1⟩ r).2, l) := by
                unfold childD; rw [hf]; simp only []; rw [if_neg c2, if_pos e, if_pos e2, if_neg e3]
              rw [e'] at y
              refine w_ifT (congrArg Bool.not (decide_eq_false e3)) ?_
              exact x3.no e3 fun h4 x4 k4 => y o3 h4 x4 (kk.trans k4)
          · have e' : childD each all cs tk es l c r = ((cap0, (issueO (fun v => (findE es ⟨c.Obj, v⟩).isSome) cs tk 9).1.2), (issueO (fun v => (findE es ⟨c.Obj, v⟩).isSome) cs tk 9).2, es, l) := by
              unfold childD; rw [hf]; simp only []; rw [if_neg c2, if_pos e, if_neg e2]
            rw [e'] at y
            exact w_ask (fun q => absurd q e2) fun ne v h3 a3 k3 => (x2.keep k3).some a3 ne fun h4 x4 k4 => y o h4 x4 ((kk2.trans (OS.keeps k3)).trans k4)
        · have e' : childD each all cs tk es l c r = ((cap0, mayOf each all l c.Obj), tk, es, l) := by unfold childD; rw [hf]; simp only []; rw [if_neg c2, if_neg e]
          rw [e'] at y
          exact (x1.keep k2).some a2 e fun h3 x3 k3 => y o h3 x3 ((OS.keeps (k1.trans k2)).trans k3)
end
end Go.Proofs.YtdleanjofhghnaaDoor.K
namespace Go.Proofs.YtdleanjofhghnaaDoor.K
open Go Go.Proofs
def m_law14_made (a0 : S_law14_World) (K : (Option Addr × Option Addr) → H → Prop) : H → Prop :=
 m_draws_New a0.Draws a0.Width fun r1 =>
 m_catalogue_New a0.Entries a0.Knob fun r2 =>
 m_quota_New a0.Each a0.Entries fun r3 =>
 mIf ((((((!decide (r1.2 = 0)) || (!decide (r2.2 = 0))) || (!decide (r3.2 = 0))) || (r1.1.isNone)) || (r2.1.isNone)) || (r3.1.isNone)) (
 K (none, none)
 ) (
 m_ref04_New a0.Draws a0.Width fun r4 =>
 m_ref11_New a0.Entries a0.Knob fun r5 =>
 m_ref12_New a0.Each a0.Entries fun r6 =>
 mNew 44 #[(Value.pointer r1.1), (Value.pointer r2.1), (Value.pointer r3.1)] fun ad7 =>
 mNew 74 #[(Value.pointer r4.1), (Value.pointer r5.1), (Value.pointer r6.1)] fun ad8 =>
 K ((some ad7), (some ad8))
 )
def x_law14_made : Cx Tryd.prog := ⟨tys, [s_draws_New, s_catalogue_New, s_quota_New, s_ref04_New, s_ref11_New, s_ref12_New], [1], [], mixed⟩
def h_law14_made : Hint := (.seq .d (.seq .d (.seq .d (.seq .d (.seq (.seq (.reg (.run [3, 7, 11] (.sel 42 45 61572651155456 (.run [15, 19, 23] .nil) (.run [15, 19, 23] .nil) (.run [27] (.sel 46 49 985162418487296 (.run [31, 35, 39] .nil) (.run [31, 35, 39] .nil) (.run [43] (.sel 50 53 15762598695796736 (.run [47, 51, 55] .nil) (.run [47, 51, 55] .nil) (.run [59] (.sel 54 57 252201579132747776 (.run [63, 67, 71] .nil) (.run [63, 67, 71] .nil) (.run [75] (.sel 58 61 4035225266123964416 (.run [79, 83, 87] .nil) (.run [79, 83, 87] .nil) .nil))))))))))) .d) .d)))))
def s_law14_made : Spec Tryd.prog := mkSpec x_law14_made 8 Tryd.f8 [S_law14_World.ty] [tPtr, tPtr] false h_law14_made (fun a => m_law14_made a) (fun a K h => by kernel_rfl) callee8 rfl
def m_law14_head (K : (Bool) → H → Prop) : H → Prop :=
 mNew 30 #[(Value.int .u64 0), (Value.int .u64 3), (Value.int .u64 0), (Value.int .u64 3), (Value.int .u64 0), (Value.int .u64 5), (Value.int .u64 0), (Value.int .u64 3)] fun ad1 =>
 m_law14_made (⟨4, 4, 3, 0, (⟨some ad1, 4, 4⟩ : Sl)⟩ : S_law14_World) fun r2 =>
 mIf (r2.1.isNone) (
 K false
 ) (
 mDeref r2.1 fun ad3 =>
 mDeref r2.1 fun ad4 =>
 mDeref r2.1 fun ad5 =>
 mLoad cPtr (ad3.add 0) fun x6 =>
 mLoad cPtr (ad4.add 1) fun x7 =>
 mLoad cPtr (ad5.add 2) fun x8 =>
 mJoin (fun (s9 : Addr × S_api_Cap × Int) =>
 mStore s9.1 [(Value.int .i64 s9.2.1.Obj), (Value.int .u64 s9.2.1.Pass.Hi), (Value.int .u64 s9.2.1.Pass.Lo)] <|
 mDeref r2.1 fun ad15 =>
 mDeref r2.1 fun ad16 =>
 mDeref r2.1 fun ad17 =>
 mLoad cPtr (ad15.add 0) fun x18 =>
 mLoad cPtr (ad16.add 1) fun x19 =>
 mLoad cPtr (ad17.add 2) fun x20 =>
 mJoin (fun (s21 : Addr × S_api_Cap × Int) =>
 mStore s21.1 [(Value.int .i64 s21.2.1.Obj), (Value.int .u64 s21.2.1.Pass.Hi), (Value.int .u64 s21.2.1.Pass.Lo)] <|
 mDeref r2.1 fun ad27 =>
 mDeref r2.1 fun ad28 =>
 mDeref r2.1 fun ad29 =>
 mLoad cPtr (ad27.add 0) fun x30 =>
 mLoad cPtr (ad28.add 1) fun x31 =>
 mLoad cPtr (ad29.add 2) fun x32 =>
 mLoad S_api_Cap.cells s9.1 fun x33 =>
 mJoin (fun (s34 : Addr × S_api_Cap × Int) =>
 mStore s34.1 [(Value.int .i64 s34.2.1.Obj), (Value.int .u64 s34.2.1.Pass.Hi), (Value.int .u64 s34.2.1.Pass.Lo)] <|
 mDeref r2.1 fun ad40 =>
 mDeref r2.1 fun ad41 =>
 mDeref r2.1 fun ad42 =>
 mLoad cPtr (ad40.add 0) fun x43 =>
 mLoad cPtr (ad41.add 1) fun x44 =>
 mLoad cPtr (ad42.add 2) fun x45 =>
 mLoad S_api_Cap.cells s34.1 fun x46 =>
 mJoin (fun (s47 : Addr × S_api_Cap × Int) =>
 mStore s47.1 [(Value.int .i64 s47.2.1.Obj), (Value.int .u64 s47.2.1.Pass.Hi), (Value.int .u64 s47.2.1.Pass.Lo)] <|
 mDeref r2.1 fun ad53 =>
 mDeref r2.1 fun ad54 =>
 mDeref r2.1 fun ad55 =>
 mLoad cPtr (ad53.add 0) fun x56 =>
 mLoad cPtr (ad54.add 1) fun x57 =>
 mLoad cPtr (ad55.add 2) fun x58 =>
 mLoad S_api_Cap.cells s34.1 fun x59 =>
 mJoin (fun (s60 : Addr × S_api_Cap × Int) =>
 mStore s60.1 [(Value.int .i64 s60.2.1.Obj), (Value.int .u64 s60.2.1.Pass.Hi), (Value.int .u64 s60.2.1.Pass.Lo)] <|
 mJoin (fun (s67 : Bool) =>
 mJoin (fun (s70 : Bool) =>
 mJoin (fun (s75 : Bool) =>
 mIf s75 (
 mDeref r2.1 fun ad80 =>
 mLoad cPtr (ad80.add 2) fun x81 =>
 m_quota_Quota_Of x81 1 fun r82 =>
 K (decide (r82 = 2))
 ) (
 K false
 )
 ) (fun j76 =>
 mIf s70 (
 mDeref r2.1 fun ad83 =>
 mLoad cPtr (ad83.add 0) fun x84 =>
 m_draws_Draws_Taken x84 fun r85 =>
 j76 (decide (r85 = 4))
 ) (
 j76 false
 ))
 ) (fun j71 =>
 mIf s67 (
 mLoad S_api_Cap.cells s34.1 fun x86 =>
 j71 ((decide (x86.Obj = 1)) && (((decide (x86.Pass.Hi = 0)) && ((decide (x86.Pass.Lo = 5)) && true)) && true))
 ) (
 j71 false
 ))
 ) (fun j68 =>
 mIf (((((decide (s9.2.2 = 0)) && (decide (s21.2.2 = 19))) && (decide (s34.2.2 = 0))) && (decide (s47.2.2 = 4))) && (decide (s60.2.2 = 11))) (
 mLoad S_api_Cap.cells s9.1 fun x87 =>
 j68 ((decide (x87.Obj = 1)) && (((decide (x87.Pass.Hi = 0)) && ((decide (x87.Pass.Lo = 3)) && true)) && true))
 ) (
 j68 false
 ))
 ) (fun j61 =>
 mBoth (
 m_derive_Child x56 x57 x58 x59 1 fun r62 =>
 mNew 36 #[(Value.int .i64 0), (Value.int .u64 0), (Value.int .u64 0)] fun ad63 =>
 j61 (ad63, r62.1, r62.2)
 ) (
 mNew 36 #[(Value.int .i64 0), (Value.int .u64 0), (Value.int .u64 0)] fun ad64 =>
 m_derive_Child x56 x57 x58 x59 1 fun r65 =>
 j61 (ad64, r65.1, r65.2)
 ))
 ) (fun j48 =>
 mBoth (
 m_derive_Child x43 x44 x45 x46 2 fun r49 =>
 mNew 36 #[(Value.int .i64 0), (Value.int .u64 0), (Value.int .u64 0)] fun ad50 =>
 j48 (ad50, r49.1, r49.2)
 ) (
 mNew 36 #[(Value.int .i64 0), (Value.int .u64 0), (Value.int .u64 0)] fun ad51 =>
 m_derive_Child x43 x44 x45 x46 2 fun r52 =>
 j48 (ad51, r52.1, r52.2)
 ))
 ) (fun j35 =>
 mBoth (
 m_derive_Child x30 x31 x32 x33 5 fun r36 =>
 mNew 36 #[(Value.int .i64 0), (Value.int .u64 0), (Value.int .u64 0)] fun ad37 =>
 j35 (ad37, r36.1, r36.2)
 ) (
 mNew 36 #[(Value.int .i64 0), (Value.int .u64 0), (Value.int .u64 0)] fun ad38 =>
 m_derive_Child x30 x31 x32 x33 5 fun r39 =>
 j35 (ad38, r39.1, r39.2)
 ))
 ) (fun j22 =>
 mBoth (
 m_derive_Root x18 x19 x20 1 fun r23 =>
 mNew 36 #[(Value.int .i64 0), (Value.int .u64 0), (Value.int .u64 0)] fun ad24 =>
 j22 (ad24, r23.1, r23.2)
 ) (
 mNew 36 #[(Value.int .i64 0), (Value.int .u64 0), (Value.int .u64 0)] fun ad25 =>
 m_derive_Root x18 x19 x20 1 fun r26 =>
 j22 (ad25, r26.1, r26.2)
 ))
 ) (fun j10 =>
 mBoth (
 m_derive_Root x6 x7 x8 1 fun r11 =>
 mNew 36 #[(Value.int .i64 0), (Value.int .u64 0), (Value.int .u64 0)] fun ad12 =>
 j10 (ad12, r11.1, r11.2)
 ) (
 mNew 36 #[(Value.int .i64 0), (Value.int .u64 0), (Value.int .u64 0)] fun ad13 =>
 m_derive_Root x6 x7 x8 1 fun r14 =>
 j10 (ad13, r14.1, r14.2)
 ))
 )
def x_law14_head : Cx Tryd.prog := ⟨tys, [s_law14_made, s_derive_Root, s_derive_Child, s_draws_Draws_Taken, s_quota_Quota_Of], [], [], mixed⟩
def h_law14_head : Hint := (.seq .d (.seq .d (.seq .d (.seq (.reg (.run [0, 4, 8, 16, 20, 24, 32, 36, 40, 14, 30, 46] (.join [.slot 3 tAdr, .slot 39 S_api_Cap.ty, .slot 40 (tInt .i64)] 1924178903048 [] (.both 12 16 (.run [52, 56, 60, 66] .nil) (.run [51, 52, 56, 60] .nil)) (.run [71, 72] .nil)))) (.seq (.reg (.run [0, 4, 8, 16, 20, 24, 32, 36, 40, 14, 30, 46] (.join [.slot 5 tAdr, .slot 55 S_api_Cap.ty, .slot 56 (tInt .i64)] 126102988589629472 [] (.both 12 16 (.run [52, 56, 60, 66] .nil) (.run [51, 52, 56, 60] .nil)) (.run [71, 72] .nil)))) (.seq (.reg (.run [0, 4, 8, 16, 20, 24, 32, 36, 40, 14, 30, 46, 50] (.join [.slot 7 tAdr, .slot 72 S_api_Cap.ty, .slot 73 (tInt .i64)] 16528426805231834103936 [] (.both 13 17 (.run [56, 60, 64, 70] .nil) (.run [55, 56, 60, 64] .nil)) (.run [75, 76] .nil)))) (.seq (.reg (.run [0, 4, 8, 16, 20, 24, 32, 36, 40, 14, 30, 46, 50] (.join [.slot 9 tAdr, .slot 89 S_api_Cap.ty, .slot 90 (tInt .i64)] 2166413958215346959654322688 [] (.both 13 17 (.run [56, 60, 64, 70] .nil) (.run [55, 56, 60, 64] .nil)) (.run [75, 76] .nil)))) (.seq (.reg (.run [0, 4, 8, 16, 20, 24, 32, 36, 40, 14, 30, 46, 50] (.join [.slot 11 tAdr, .slot 106 S_api_Cap.ty, .slot 107 (tInt .i64)] 283956210331201956695811316254720 [] (.both 13 17 (.run [56, 60, 64, 70] .nil) (.run [55, 56, 60, 64] .nil)) (.run [75, 76] .nil)))) (.seq (.reg (.run [3, 7, 11] (.sel 110 113 18173039004871896699856737152270336 (.run [15, 19, 23] .nil) (.run [15, 19, 23] .nil) (.run [27] (.sel 114 117 290768624077950347197707794436325376 (.run [31, 35, 39] .nil) (.run [31, 35, 39] .nil) (.run [43] (.sel 118 121 4652297985247205555163324710981206016 (.run [47, 51, 55] .nil) (.run [47, 51, 55] .nil) (.run [59] (.sel 122 125 74436767763955288882613195375699296256 (.run [63, 67, 71] .nil) (.run [63, 67, 71] .nil) (.run [75] (.join [.slot 131 tBool] 5274376687274546183682306415192407277568 [] (.split 126 (.run [79, 83, 87, 91, 95] .nil) (.run [79, 83, 87, 91, 95] .nil)) (.run [99] (.join [.slot 137 tBool] 337560107985570955755667610572314065764352 [] (.split 132 (.run [103, 107, 111, 115, 119] .nil) (.run [103, 107, 111, 115, 119] .nil)) (.run [123] (.join [.slot 145 tBool] 88506082506668410592969881894573184726859776 [] (.split 138 (.run [127, 131, 135, 139, 143, 147, 151] .nil) (.run [127, 131, 135, 139, 143, 147, 151] .nil)) (.run [155] (.split 146 (.run [159, 163, 167, 171, 175, 179, 183, 187] .nil) (.run [159, 163, 167, 171, 175, 179, 183, 187] .nil)))))))))))))))))) .d)))))))))
def s_law14_head : Spec Tryd.prog := mkSpec x_law14_head 5 Tryd.f5 [] [tBool] false h_law14_head (fun _ => m_law14_head) (fun a K h => by kernel_rfl) callee5 rfl
def m_law14_mod (a0 : Int) (a1 : Int) (K : (Int) → H → Prop) : H → Prop :=
 mNZ a1 <|
 mIf (decide ((iRem .i64 a0 a1) < 0)) (
 K (iAdd .i64 (iRem .i64 a0 a1) a1)
 ) (
 K (iRem .i64 a0 a1)
 )
def x_law14_mod : Cx Tryd.prog := ⟨tys, [], [], [], mixed⟩
def h_law14_mod : Hint := .d
def s_law14_mod : Spec Tryd.prog := mkSpec x_law14_mod 7 Tryd.f7 [(tInt .i64), (tInt .i64)] [(tInt .i64)] true h_law14_mod (fun a => m_law14_mod a.1 a.2) (fun a K h => by kernel_rfl) callee7 rfl
def m_law14_World_right (a0 : S_law14_World) (K : (S_law14_World) → H → Prop) : H → Prop :=
 mPure (m_law14_mod a0.Width 128) fun r1 =>
 mPure (m_law14_mod a0.Entries 256) fun r2 =>
 mPure (m_law14_mod a0.Each 256) fun r3 =>
 mPure (m_law14_mod a0.Knob 65) fun r4 =>
 mCut a0.Draws 0 (iMin (a0.Draws.len : Int) 4096) 2 fun s5 =>
 K (⟨(iAdd .i64 1 r1), (iAdd .i64 1 r2), (iAdd .i64 1 r3), r4, s5⟩ : S_law14_World)
def x_law14_World_right : Cx Tryd.prog := ⟨tys, [s_law14_mod], [1, 2], [], mixed⟩
def h_law14_World_right : Hint := (.seq .d (.seq .d (.seq (.reg (.run [0, 16, 32, 48, 60, 68, 5, 8, 12, 21, 24, 28, 37, 40, 44, 53, 56, 65, 72, 76, 83] .nil)) .d)))
def s_law14_World_right : Spec Tryd.prog := mkSpec x_law14_World_right 6 Tryd.f6 [S_law14_World.ty] [S_law14_World.ty] true h_law14_World_right (fun a => m_law14_World_right a) (fun a K h => by kernel_rfl) callee6 rfl
def m_law14_DeriveTwins (a0 : S_law14_World) (a1 : Int) (a2 : Int) (K : (Bool) → H → Prop) : H → Prop :=
 m_law14_head fun r1 =>
 mIf (!r1) (
 K false
 ) (
 mPure (m_law14_World_right a0) fun r2 =>
 mPure (m_law14_mod a1 30) fun r3 =>
 mPure (m_law14_mod a2 30) fun r4 =>
 mNew 30 #[(Value.int .u64 0), (Value.int .u64 1)] fun ad5 =>
 mLoop (fun (rec7 : (Int × Int × Int × Int × Int × Sl) → H → Prop) (s6 : Int × Int × Int × Int × Int × Sl) =>
 mIf (decide (s6.1 < r4)) (
 mApp 30 2 16 #[(Value.int .u64 0), (Value.int .u64 0)] 1 [(Value.int .u64 0), (Value.int .u64 1)] s6.2.2.2.2.2 fun s8 =>
 rec7 ((iAdd .i64 s6.1 1), s6.2.1, s6.2.2.1, s6.2.2.2.1, s6.2.2.2.2.1, s8)
 ) (
 mJoin (fun (_s9 : Unit) =>
 m_law14_made (⟨s6.2.1, 9, 9, s6.2.2.2.2.1, s6.2.2.2.2.2⟩ : S_law14_World) fun r11 =>
 mIf (r11.1.isNone) (
 K false
 ) (
 mDeref r11.1 fun ad12 =>
 mDeref r11.1 fun ad13 =>
 mDeref r11.1 fun ad14 =>
 mLoad cPtr (ad12.add 0) fun x15 =>
 mLoad cPtr (ad13.add 1) fun x16 =>
 mLoad cPtr (ad14.add 2) fun x17 =>
 mJoin (fun (s18 : Addr × S_api_Cap × Int) =>
 mStore s18.1 [(Value.int .i64 s18.2.1.Obj), (Value.int .u64 s18.2.1.Pass.Hi), (Value.int .u64 s18.2.1.Pass.Lo)] <|
 mDeref r11.1 fun ad24 =>
 mDeref r11.1 fun ad25 =>
 mDeref r11.1 fun ad26 =>
 mLoad cPtr (ad24.add 0) fun x27 =>
 mLoad cPtr (ad25.add 1) fun x28 =>
 mLoad cPtr (ad26.add 2) fun x29 =>
 mLoad S_api_Cap.cells s18.1 fun x30 =>
 mJoin (fun (s31 : Addr × S_api_Cap × Int) =>
 mStore s31.1 [(Value.int .i64 s31.2.1.Obj), (Value.int .u64 s31.2.1.Pass.Hi), (Value.int .u64 s31.2.1.Pass.Lo)] <|
 mJoin (fun (s38 : Bool) =>
 mIf s38 (
 K false
 ) (
 mDeref r11.1 fun ad40 =>
 mLoad cPtr (ad40.add 0) fun x41 =>
 m_draws_Draws_Taken x41 fun r42 =>
 mIf ((decide (r3 < r4)) && (decide (r3 < 9))) (
 mIf (decide (s31.2.2 = 0)) (
 mLoad S_api_Cap.cells s31.1 fun x44 =>
 K (((decide (x44.Obj = 5)) && (((decide (x44.Pass.Hi = 0)) && ((decide (x44.Pass.Lo = 0)) && true)) && true)) && (decide ((iSub .i64 r42 1) = (iAdd .i64 r3 1))))
 ) (
 K false
 )
 ) (
 mIf (decide (9 ≤ r4)) (
 mJoin (fun (s46 : Bool) =>
 mIf (s46 && (decide ((iSub .i64 r42 1) = 9))) (
 mDeref r11.1 fun ad51 =>
 mLoad cPtr (ad51.add 2) fun x52 =>
 m_quota_Quota_Of x52 5 fun r53 =>
 K (decide (r53 = 1))
 ) (
 K false
 )
 ) (fun j47 =>
 mIf (decide (s31.2.2 = 12)) (
 mLoad S_api_Cap.cells s31.1 fun x54 =>
 j47 ((decide (x54.Obj = 0)) && (((decide (x54.Pass.Hi = 0)) && ((decide (x54.Pass.Lo = 0)) && true)) && true))
 ) (
 j47 false
 ))
 ) (
 mJoin (fun (s56 : Bool) =>
 mIf (s56 && (decide ((iSub .i64 r42 1) = r4))) (
 mDeref r11.1 fun ad61 =>
 mLoad cPtr (ad61.add 2) fun x62 =>
 m_quota_Quota_Of x62 5 fun r63 =>
 K (decide (r63 = 1))
 ) (
 K false
 )
 ) (fun j57 =>
 mIf (decide (s31.2.2 = 11)) (
 mLoad S_api_Cap.cells s31.1 fun x64 =>
 j57 ((decide (x64.Obj = 0)) && (((decide (x64.Pass.Hi = 0)) && ((decide (x64.Pass.Lo = 0)) && true)) && true))
 ) (
 j57 false
 ))
 )
 )
 )
 ) (fun j39 =>
 mIf (!decide (s18.2.2 = 0)) (
 j39 true
 ) (
 mLoad S_api_Word.cells (s18.1.add 1) fun x65 =>
 j39 (!((decide (x65.Hi = 0)) && ((decide (x65.Lo = 1)) && true)))
 ))
 ) (fun j32 =>
 mBoth (
 m_derive_Child x27 x28 x29 x30 31 fun r33 =>
 mNew 36 #[(Value.int .i64 0), (Value.int .u64 0), (Value.int .u64 0)] fun ad34 =>
 j32 (ad34, r33.1, r33.2)
 ) (
 mNew 36 #[(Value.int .i64 0), (Value.int .u64 0), (Value.int .u64 0)] fun ad35 =>
 m_derive_Child x27 x28 x29 x30 31 fun r36 =>
 j32 (ad35, r36.1, r36.2)
 ))
 ) (fun j19 =>
 mBoth (
 m_derive_Root x15 x16 x17 5 fun r20 =>
 mNew 36 #[(Value.int .i64 0), (Value.int .u64 0), (Value.int .u64 0)] fun ad21 =>
 j19 (ad21, r20.1, r20.2)
 ) (
 mNew 36 #[(Value.int .i64 0), (Value.int .u64 0), (Value.int .u64 0)] fun ad22 =>
 m_derive_Root x15 x16 x17 5 fun r23 =>
 j19 (ad22, r23.1, r23.2)
 ))
 )
 ) (fun j10 =>
 mIf (decide (r3 < r4)) (
 mIdx s6.2.2.2.2.2 (iAdd .i64 1 r3) 2 fun ad66 =>
 mStore ad66 [(Value.int .u64 0), (Value.int .u64 0)] <|
 j10 ()
 ) (
 j10 ()
 )
 )
 )
 ) (0, r2.Width, r2.Entries, r2.Each, r2.Knob, (⟨some ad5, 1, 1⟩ : Sl))
 )
def x_law14_DeriveTwins : Cx Tryd.prog := ⟨tys, [s_law14_head, s_law14_World_right, s_law14_mod, s_law14_made, s_derive_Root, s_derive_Child, s_draws_Draws_Taken, s_quota_Quota_Of], [3, 7, 8, 38], [], mixed⟩
def h_law14_DeriveTwins : Hint := (.seq .d (.seq .d (.seq .d (.seq .d (.seq .d (.seq .d (.seq (.seq .d (.blk (.loop [.slot 9 (tInt .i64), .cell 3 0 (tInt .i64), .cell 3 1 (tInt .i64), .cell 3 2 (tInt .i64), .cell 3 3 (tInt .i64), .cell 3 4 tSl] 2197949514240 [3] .d))) (.join [] 1123700883587072 [] .d (.seq .d (.seq .d (.seq .d (.seq (.reg (.run [0, 4, 8, 16, 20, 24, 32, 36, 40, 14, 30, 46] (.join [.slot 12 tAdr, .slot 73 S_api_Cap.ty, .slot 74 (tInt .i64)] 33057141840839819923456 [] (.both 12 16 (.run [52, 56, 60, 66] .nil) (.run [51, 52, 56, 60] .nil)) (.run [71, 72] .nil)))) (.seq (.reg (.run [0, 4, 8, 16, 20, 24, 32, 36, 40, 14, 30, 46, 50] (.join [.slot 14 tAdr, .slot 90 S_api_Cap.ty, .slot 91 (tInt .i64)] 4332827916430693919308660736 [] (.both 13 17 (.run [56, 60, 64, 70] .nil) (.run [55, 56, 60, 64] .nil)) (.run [75, 76] .nil)))) (.seq (.seq (.reg (.run [3, 7, 11] (.join [.slot 99 tBool] 1228036518971097232699931230208 [] (.split 94 (.run [15, 19, 23, 27, 31] .nil) (.run [15, 19, 23, 27, 31] .nil)) .nil))) .d) (.seq .d (.seq (.seq (.reg (.run [3, 7, 11, 15] (.sel 109 112 9086519502435948349928368576135168 (.run [19, 23, 27] .nil) (.run [19, 23, 27] .nil) .nil))) (.cond (.seq (.reg (.run [3, 7, 11] (.split 115 (.run [15, 19, 23, 27, 31, 35] (.sel 121 126 164824271477329568240072075474762727424 (.run [39, 43, 47, 51, 55] .nil) (.run [39, 43, 47, 51, 55] .nil) (.run [59] .nil))) (.run [15, 19, 23, 27, 31, 35, 39, 43, 47, 51, 55, 59] .nil)))) .d) .d)) (.seq (.seq .d (.cond (.seq (.reg (.run [3, 7, 11] (.join [.slot 135 tBool] 81667768061025231231209905783624370749440 [] (.split 131 (.run [15, 19, 23, 27] .nil) (.run [15, 19, 23, 27] .nil)) (.run [31] (.sel 136 139 1219572003044643453052734593035457269858304 (.run [35, 39, 43] .nil) (.run [35, 39, 43] .nil) (.run [47] (.split 140 (.run [51, 55, 59, 63, 67, 71, 75, 79] .nil) (.run [51, 55, 59, 63, 67, 71, 75, 79] .nil)))))))) .d) .d)) (.seq (.reg (.run [3, 7, 11] (.join [.slot 154 tBool] 42817430781178796431748579083484854091482398720 [] (.split 150 (.run [15, 19, 23, 27] .nil) (.run [15, 19, 23, 27] .nil)) (.run [31] (.sel 155 159 1370157784997721485815954530671515330927436759040 (.run [35, 39, 43, 47] .nil) (.run [35, 39, 43, 47] .nil) (.run [51] (.split 160 (.run [55, 59, 63, 67, 71, 75, 79, 83] .nil) (.run [55, 59, 63, 67, 71, 75, 79, 83] .nil)))))))) .d))))))))))))))))))
def s_law14_DeriveTwins : Spec Tryd.prog := mkSpec x_law14_DeriveTwins 3 Tryd.f3 [S_law14_World.ty, (tInt .i64), (tInt .i64)] [tBool] false h_law14_DeriveTwins (fun a => m_law14_DeriveTwins a.1 a.2.1 a.2.2) (fun a K h => by kernel_rfl) callee3 rfl
end Go.Proofs.YtdleanjofhghnaaDoor.K
namespace Go.Proofs.YtdleanjofhghnaaDoor.K
open Go
theorem w_mod14 {h : H} {a b : Int} {k : Int → H → Prop} (h0 : 0 < b) (h1 : b ≤ 2 ^ 60) (y : k (intoV a b) h) : mPure (m_law14_mod a b) k h := by
  refine w_pure _ (fun h' k' z => ?_) y
  unfold m_law14_mod
  refine ⟨by omega, ?_⟩
  have e : iRem .i64 a b = a.tmod b := rfl
  rw [e]
  have h2 := Int.lt_tmod_of_pos a h0
  unfold intoV at z
  refine w_if' (fun c => ?_) fun c => ?_
  · rw [if_pos c] at z; rw [iAdd_eq (by omega) (by omega)]; exact z
  · rw [if_neg c] at z; exact z
theorem OC.anew {h h' : H} {o : Owner} {G : Nat → Prop} (i : Nat) (ow : Owns o h) (k : Keeps h h') (f : ∀ c, G c → h c = none) (has : ∀ c, G c → h' c ≠ none) :
    ∃ o', OC i o o' h h' ∧ Owns o' h' ∧ ∀ c, G c → o' c = some i := ⟨_, OC.fresh ow k f has⟩
def RaO (h : H) (o : Owner) (i r : Nat) (xs : List S_api_Word) (w : Int) (tk : Nat) : Prop := ∃ s, RAt h r s xs w tk ∧ o r = some i ∧ ∀ c, s.foot c → o c = some i
theorem RaO.oc {h h' : H} {o o' : Owner} {i j r : Nat} {xs : List S_api_Word} {w : Int} {tk : Nat} (x : RaO h o i r xs w tk) (k : OC j o o' h h') (ne : i ≠ j) : RaO h' o' i r xs w tk := by
  obtain ⟨ws, a, b1, b2⟩ := x
  exact ⟨ws, a.but k.bt fun c e => ⟨fun q => ne (by rw [q, b1] at e; exact Option.some.inj e), fun f => ne (by rw [b2 c f] at e; exact Option.some.inj e)⟩, k.own _ _ b1, fun c f => k.own _ _ (b2 c f)⟩
structure RefsO (h : H) (o : Owner) (r e f : Nat) (xs : List S_api_Word) (W : Int) (each most : Int) (tk ev : Nat) (es : List En) (L : List Int) : Prop where
  dr : RaO h o 4 r xs W tk
  ct : RefO h o 5 e ev es
  qu : RqO h o 6 f each most L
theorem t_made14 {h : H} (er : ErrAt h) {a : Sl} {xs : List S_api_Word} (ar : Arr cW h a xs) (hx : ∀ x ∈ xs, GoodW x) (hl : xs.length ≤ 4096) {W E each kn : Int} (w1 : 1 ≤ W ∧ W ≤ 128) (e1 : 1 ≤ E ∧ E ≤ 256) (c1 : 1 ≤ each ∧ each ≤ 256) (k1 : 0 ≤ kn ∧ kn ≤ 64)
    {K : Option Addr × Option Addr → H → Prop}
    (y : ∀ s w d p q r e f o h', SetO h' o d p q (xs.map (cutW W)) each E 0 (List.replicate E.toNat none) [] → RefsO h' o r e f xs W each E 0 0 (List.replicate E.toNat none) [] →
      h' s = some (.cells [Value.pointer (some ⟨d, 0, none⟩), Value.pointer (some ⟨p, 0, none⟩), Value.pointer (some ⟨q, 0, none⟩)].toArray N_law14_Set (0, 0)) → o s = none →
      h' w = some (.cells [Value.pointer (some ⟨r, 0, none⟩), Value.pointer (some ⟨e, 0, none⟩), Value.pointer (some ⟨f, 0, none⟩)].toArray N_ref14_World (0, 0)) → o w = none →
      Keeps h h' → (∀ c, o c ≠ none → h c = none) → K (some ⟨s, 0, none⟩, some ⟨w, 0, none⟩) h') : m_law14_made ⟨W, E, each, kn, a⟩ K h := by
  unfold m_law14_made
  obtain ⟨w1, w2⟩ := w1
  obtain ⟨e1, e2⟩ := e1
  obtain ⟨c1, c2⟩ := c1
  obtain ⟨k1, k2⟩ := k1
  refine t_DNew ar hx (fun q => by simp only [] at q; omega) (fun _ _ q => by omega) fun _ _ _ d ws h1 a1 n1 f1 f1' => ?_
  refine t_CNew (fun q => by simp only [] at q; omega) fun _ _ n en m1 m2 p G h2 a2 n2 f2 => ?_
  refine t_QNew (fun q => by simp only [] at q; omega) fun _ _ _ _ q b h3 a3 n3 f3 f3' => ?_
  have ar3 := ((ar.keep n1).keep n2).keep n3
  refine w_ifF rfl (t_RDNew ar3 (fun q => by simp only [] at q; omega) (fun _ _ q => by omega) fun _ _ _ r s4 h4 a4 n4 f4 f4' => ?_)
  refine t_RNew (fun q => by simp only [] at q; omega) fun _ _ n' en' _ _ e G5 h5 a5 n5 f5 => ?_
  have en : E = (n : Int) := en
  have en' : E = (n' : Int) := en'
  obtain rfl : n = n' := by omega
  refine t_QRNew (fun q => by simp only [] at q; omega) fun _ _ _ _ f h6 a6 n6 f6 => ?_
  refine w_box fun s h7 f7 g7 n7 => w_box fun w h8 f8 g8 n8 => ?_
  have ow0 : Owns (fun _ => none) h := fun c e => absurd rfl e
  obtain ⟨w1', b1, o1, p1⟩ := OC.anew (G := fun c => c = d ∨ ws.foot c) 1 ow0 n1 (fun c g => by rcases g with rfl | g <;> first | exact f1 | exact f1' _ g) fun c g => by
    rcases g with rfl | g
    · rw [a1.cell]; simp
    · exact a1.buf.has g
  obtain ⟨w2', b2, o2, p2⟩ := OC.anew 2 o1 n2 f2 fun c g => a2.has g
  obtain ⟨w3', b3, o3, p3⟩ := OC.anew (G := fun c => c = q ∨ c = b) 3 o2 n3 (fun c g => by rcases g with rfl | rfl <;> assumption) fun c g => by
    rcases g with rfl | rfl
    · rw [a3.cell]; simp
    · obtain ⟨_, _, e, _⟩ := a3.map.ex; rw [e]; simp
  obtain ⟨w4', b4, o4, p4⟩ := OC.anew (G := fun c => c = r ∨ s4.foot c) 4 o3 n4 (fun c g => by rcases g with rfl | g <;> first | exact f4 | exact f4' _ g) fun c g => by
    rcases g with rfl | g
    · rw [a4.cell]; simp
    · exact a4.buf.has g
  obtain ⟨w5', b5, o5, p5⟩ := OC.anew 5 o4 n5 f5 fun c g => a5.has g
  obtain ⟨w6', b6, o6, p6⟩ := OC.anew (G := fun c => c = f) 6 o5 n6 (fun c g => by rw [g]; exact f6) fun c g => by rw [g, a6.cell]; simp
  have n78 := n7.trans n8
  have b7 : OC 9 w6' w6' h6 h8 := OC.keeps n78
  have kk : Keeps h h8 := ((((((n1.trans n2).trans n3).trans n4).trans n5).trans n6).trans n7).trans n8
  have ot := ((((((b1.ot.trans b2.ot).trans b3.ot).trans b4.ot).trans b5.ot).trans b6.ot).trans b7.ot)
  have out : ∀ c, w6' c ≠ none → h c = none := fun c e => (ot.new c e).elim (fun z => absurd rfl z) id
  have ew : List.replicate E.toNat (none : En) = List.replicate n none := by rw [en, Int.toNat_natCast]
  have free : ∀ {c : Nat}, h6 c = none → w6' c = none := fun {c} hc => by
    cases z : w6' c with
    | none => rfl
    | some t => exact absurd hc (o6 c (by rw [z]; simp))
  refine y s w d p q r e f _ h8 ⟨?_, ?_, ?_, er.keep kk, ?_, o6.keep n78, e2⟩ ⟨?_, ?_, ?_⟩ (n8 _ _ g7) (free f7) g8 (free (by cases z : h6 w with | none => rfl | some x => rw [n7 _ _ z] at f8; cases f8)) kk out
  · refine (((((?_ : DraO h1 _ 1 d _ 0).oc b2 (by decide)).oc b3 (by decide)).oc b4 (by decide)).oc b5 (by decide)).oc b6 (by decide) |>.oc b7 (by decide)
    exact ⟨ws, a1, p1 d (.inl rfl), fun c g => p1 c (.inr g)⟩
  · refine ((((?_ : CatO h2 _ 2 p _).oc b3 (by decide)).oc b4 (by decide)).oc b5 (by decide)).oc b6 (by decide) |>.oc b7 (by decide)
    exact ⟨_, G, by rw [ew]; exact a2, p2⟩
  · refine (((?_ : QuoO h3 _ 3 q each E _).oc b4 (by decide)).oc b5 (by decide)).oc b6 (by decide) |>.oc b7 (by decide)
    exact ⟨b, a3, p3 q (.inl rfl), p3 b (.inr rfl)⟩
  · cases z : w6' errG with
    | none => rfl
    | some t => exact absurd (out _ (by rw [z]; simp)) er.has
  · refine ((?_ : RaO h4 _ 4 r xs W 0).oc b5 (by decide)).oc b6 (by decide) |>.oc b7 (by decide)
    exact ⟨s4, a4, p4 r (.inl rfl), fun c g => p4 c (.inr g)⟩
  · refine (?_ : RefO h5 _ 5 e 0 _).oc b6 (by decide) |>.oc b7 (by decide)
    exact ⟨G5, by rw [ew]; exact a5, p5⟩
  · refine (?_ : RqO h6 _ 6 f each E _).oc b7 (by decide)
    exact ⟨Sl.nil, a6, p6 f rfl, fun c ⟨_, q, _⟩ => by cases q⟩
structure AtS (h : H) (o : Owner) (s d p q : Nat) (cs : List S_api_Word) (each all : Int) (tk : Nat) (es : List En) (l : List (Int × Int)) : Prop where
  set : SetO h o d p q cs each all tk es l
  cell : h s = some (.cells [Value.pointer (some ⟨d, 0, none⟩), Value.pointer (some ⟨p, 0, none⟩), Value.pointer (some ⟨q, 0, none⟩)].toArray N_law14_Set (0, 0))
  no : o s = none
structure BoxT (h : H) (o : Owner) (t b : Nat) (c : S_api_Cap) : Prop where
  cell : h b = some (.cells (S_api_Cap.cells c).toArray N_api_Cap (0, 0))
  own : o b = some t
section
variable {h h' : H} {o o' : Owner} {s d p q : Nat} {cs : List S_api_Word} {each all : Int} {tk tk' : Nat} {es es' : List En} {l l' : List (Int × Int)}
theorem SetO.oc {j : Nat} (x : SetO h o d p q cs each all tk es l) (k : OC j o o' h h') (hj : 3 < j) (ow : Owns o' h') : SetO h' o' d p q cs each all tk es l :=
  ⟨x.dr.oc k (by omega), x.ct.oc k (by omega), x.qu.oc k (by omega), x.er.os (k.os (S := fun _ => True) trivial) x.eo, (k.os (S := fun _ => True) trivial).gone x.eo x.er.has, ow, x.hi⟩
theorem BoxT.os {S : Nat → Prop} {t b : Nat} {c : S_api_Cap} (x : BoxT h o t b c) (k : OS S o o' h h') (n : ¬ S t) : BoxT h' o' t b c :=
  ⟨k.but _ _ x.cell fun i q => by rw [x.own] at q; cases q; exact n, k.own _ _ x.own⟩
theorem BoxT.at {t b : Nat} {c : S_api_Cap} (x : BoxT h o t b c) : At h ⟨b, 0, none⟩ (S_api_Cap.cells c) := at_box x.cell
theorem w_set3 (x : AtS h o s d p q cs each all tk es l) {k : Option Addr → Option Addr → Option Addr → H → Prop} (y : k (some ⟨d, 0, none⟩) (some ⟨p, 0, none⟩) (some ⟨q, 0, none⟩) h) :
    mDeref (some ⟨s, 0, none⟩) (fun a => mDeref (some ⟨s, 0, none⟩) fun b => mDeref (some ⟨s, 0, none⟩) fun c => mLoad cPtr (a.add 0) fun x => mLoad cPtr (b.add 1) fun y => mLoad cPtr (c.add 2) fun z => k x y z) h := by
  refine w_deref (w_deref (w_deref (w_load (v := some ⟨d, 0, none⟩) ?_ (w_load (v := some ⟨p, 0, none⟩) ?_ (w_load (v := some ⟨q, 0, none⟩) ?_ y)))))
  · rw [pt_add]; exact At.own (l1 := []) (l2 := [Value.pointer (some ⟨d, 0, none⟩)]) (l3 := [Value.pointer (some ⟨p, 0, none⟩), Value.pointer (some ⟨q, 0, none⟩)]) x.cell rfl
  · rw [pt_add]; exact At.own (l1 := [Value.pointer (some ⟨d, 0, none⟩)]) (l2 := [Value.pointer (some ⟨p, 0, none⟩)]) (l3 := [Value.pointer (some ⟨q, 0, none⟩)]) x.cell rfl
  · rw [pt_add]; exact At.own (l1 := [Value.pointer (some ⟨d, 0, none⟩), Value.pointer (some ⟨p, 0, none⟩)]) (l2 := [Value.pointer (some ⟨q, 0, none⟩)]) (l3 := []) x.cell rfl
theorem AtS.f0 (x : AtS h o s d p q cs each all tk es l) {k : Option Addr → H → Prop} (y : k (some ⟨d, 0, none⟩) h) : mDeref (some ⟨s, 0, none⟩) (fun a => mLoad cPtr (a.add 0) k) h := by
  refine w_deref (w_load (v := some ⟨d, 0, none⟩) ?_ y)
  rw [pt_add]; exact At.own (l1 := []) (l2 := [Value.pointer (some ⟨d, 0, none⟩)]) (l3 := [Value.pointer (some ⟨p, 0, none⟩), Value.pointer (some ⟨q, 0, none⟩)]) x.cell rfl
theorem AtS.f2 (x : AtS h o s d p q cs each all tk es l) {k : Option Addr → H → Prop} (y : k (some ⟨q, 0, none⟩) h) : mDeref (some ⟨s, 0, none⟩) (fun a => mLoad cPtr (a.add 2) k) h := by
  refine w_deref (w_load (v := some ⟨q, 0, none⟩) ?_ y)
  rw [pt_add]; exact At.own (l1 := [Value.pointer (some ⟨d, 0, none⟩), Value.pointer (some ⟨p, 0, none⟩)]) (l2 := [Value.pointer (some ⟨q, 0, none⟩)]) (l3 := []) x.cell rfl
theorem w_cap (t : Nat) (ht : 3 < t) (x : AtS h o s d p q cs each all tk es l) {call : (S_api_Cap × Int → H → Prop) → H → Prop} {res : S_api_Cap × Int}
    (hc : ∀ (h1 : H) (o1 : Owner) (K : S_api_Cap × Int → H → Prop), SetO h1 o1 d p q cs each all tk es l → (∀ o' h', SetO h' o' d p q cs each all tk' es' l' → OS (· ≤ 3) o1 o' h1 h' → K res h') → call K h1)
    {rest : Addr × S_api_Cap × Int → H → Prop}
    (hr : ∀ b o' h', AtS h' o' s d p q cs each all tk' es' l' → BoxT h' o' t b res.1 → OS (fun i => i ≤ 3) o o' h h' → rest (⟨b, 0, none⟩, res.1, res.2) h') :
    mJoin (fun (s9 : Addr × S_api_Cap × Int) => mStore s9.1 [(Value.int .i64 s9.2.1.Obj), (Value.int .u64 s9.2.1.Pass.Hi), (Value.int .u64 s9.2.1.Pass.Lo)] (rest s9))
      (fun j => mBoth (call fun r => mNew N_api_Cap #[(Value.int .i64 0), (Value.int .u64 0), (Value.int .u64 0)] fun ad => j (ad, r.1, r.2)) (mNew N_api_Cap #[(Value.int .i64 0), (Value.int .u64 0), (Value.int .u64 0)] fun ad => call fun r => j (ad, r.1, r.2))) h := by
  have fin : ∀ (b : Nat) (o2 : Owner) (h2 : H), h b = none → SetO h2 o2 d p q cs each all tk' es' l' → h2 b = some (.cells #[(Value.int .i64 0), (Value.int .u64 0), (Value.int .u64 0)] N_api_Cap (0, 0)) → o2 b = some t →
      (∀ c x, h c = some x → (∀ i, o c = some i → ¬ i ≤ 3) → h2 c = some x) → (∀ c i, o c = some i → o2 c = some i) → (∀ c, o2 c ≠ none → o c ≠ none ∨ h c = none) → (∀ c, h2 c = none → h c = none) →
      mStore ⟨b, 0, none⟩ [(Value.int .i64 res.1.Obj), (Value.int .u64 res.1.Pass.Hi), (Value.int .u64 res.1.Pass.Lo)] (rest (⟨b, 0, none⟩, res.1, res.2)) h2 := by
    intro b o2 h2 fb s2 c2 ob but own new dom
    refine w_setBox (old := [(Value.int .i64 0), (Value.int .u64 0), (Value.int .u64 0)]) c2 rfl fun h3 c3 k3 d3 => ?_
    obtain ⟨k, ow3⟩ := OC.one s2.ow k3 d3 ob
    have s3 := s2.oc k ht ow3
    have hsb : s ≠ b := fun q => by rw [← q, x.cell] at fb; cases fb
    have os : OS (fun i => i ≤ 3) o o2 h h3 := ⟨fun c y e n => k3 c y (but c y e n) (fun (q : c = b) => by rw [q, fb] at e; cases e), own, new, fun c e => dom c (d3 c e)⟩
    exact hr b o2 h3 ⟨s3, os.free x.no x.cell, os.gone x.no (by rw [x.cell]; simp)⟩ ⟨c3, ob⟩ os
  refine w_join (w_both (hc h o _ x.set fun o1 h1 s1 k1 => ?_) ?_)
  · refine w_box fun b h2 f2 c2 k2 => ?_
    obtain ⟨o2, k3, ow2, ob⟩ := OC.anew (G := fun c => c = b) t s1.ow k2 (fun c g => by rw [g]; exact f2) fun c g => by rw [g, c2]; simp
    refine fin b o2 h2 (k1.dom _ f2) (s1.oc k3 ht ow2) c2 (ob b rfl) (fun c y e n => k2 _ _ (k1.but c y e n)) (fun c i e => k3.own _ _ (k1.own _ _ e)) (fun c e => ?_) fun c e => k1.dom _ (k2.fresh e)
    rcases k3.new c e with z | z
    · exact k1.new c z
    · exact .inr (k1.dom c z)
  · refine w_box fun b h1 f1 c1 k1 => ?_
    obtain ⟨o1, k2, ow1, ob⟩ := OC.anew (G := fun c => c = b) t x.set.ow k1 (fun c g => by rw [g]; exact f1) fun c g => by rw [g, c1]; simp
    refine hc h1 o1 _ (x.set.oc k2 ht ow1) fun o2 h2 s2 k3 => ?_
    have hn : ∀ i, o1 b = some i → ¬ i ≤ 3 := fun i q => by rw [ob b rfl] at q; cases q; omega
    refine fin b o2 h2 f1 s2 (k3.but _ _ c1 hn) (k3.own _ _ (ob b rfl)) (fun c y e n => k3.but _ _ (k1 _ _ e) fun i q => ?_) (fun c i e => k3.own _ _ (k2.own _ _ e)) (fun c e => ?_) fun c e => k1.fresh (k3.dom _ e)
    · cases z : o c with
      | none => exact ((k2.new c (by rw [q]; simp)).elim (fun w => absurd z w) fun w => by rw [w] at e; cases e)
      | some v => rw [k2.own _ _ z] at q; cases q; exact n _ z
    · rcases k3.new c e with z | z
      · exact k2.new c z
      · exact .inr (k1.fresh z)
end
def hdC : List S_api_Word := [⟨0, 3⟩, ⟨0, 3⟩, ⟨0, 5⟩, ⟨0, 3⟩]
def hdE : List En := [none, none, none, none]
noncomputable def hd1 := rootD 3 4 hdC 0 hdE [] 1
noncomputable def hd2 := rootD 3 4 hdC hd1.2.1 hd1.2.2.1 hd1.2.2.2 1
noncomputable def hd3 := childD 3 4 hdC hd2.2.1 hd2.2.2.1 hd2.2.2.2 ⟨1, ⟨0, 3⟩⟩ 5
noncomputable def hd4 := childD 3 4 hdC hd3.2.1 hd3.2.2.1 hd3.2.2.2 ⟨1, ⟨0, 5⟩⟩ 2
noncomputable def hd5 := childD 3 4 hdC hd4.2.1 hd4.2.2.1 hd4.2.2.2 ⟨1, ⟨0, 5⟩⟩ 1
theorem hd1_res : hd1.1 = (⟨1, ⟨0, 3⟩⟩, 0) := by kernel_rfl
theorem hd2_res : hd2.1 = (cap0, 19) := by kernel_rfl
theorem hd3_res : hd3.1 = (⟨1, ⟨0, 5⟩⟩, 0) := by kernel_rfl
theorem hd4_res : hd4.1 = (cap0, 4) := by kernel_rfl
theorem hd5_res : hd5.1 = (cap0, 11) := by kernel_rfl
theorem hd5_tk : hd5.2.1 = 4 := by kernel_rfl
theorem hd5_q : qcnt hd5.2.2.2 1 = 2 := by kernel_rfl
theorem hd_good : ∀ x ∈ hdC, GoodW x := by
  intro x hx
  simp only [hdC, List.mem_cons, List.not_mem_nil, or_false] at hx
  rcases hx with rfl | rfl | rfl | rfl
  · exact ⟨3, by decide, by kernel_rfl⟩
  · exact ⟨3, by decide, by kernel_rfl⟩
  · exact ⟨5, by decide, by kernel_rfl⟩
  · exact ⟨3, by decide, by kernel_rfl⟩
theorem hd_cut : hdC.map (cutW 4) = hdC := by kernel_rfl
section
variable {h h' : H} {o o' : Owner} {d p q : Nat} {cs : List S_api_Word} {each all : Int} {tk : Nat} {es : List En} {l : List (Int × Int)}
theorem OS.out {S : Nat → Prop} {h0 : H} (k : Keeps h0 h) (x : OS S o o' h h') (f : ∀ c, o c ≠ none → h0 c = none) : Keeps h0 h' := k.but x.bt fun c ⟨_, q, _⟩ => f c (by rw [q]; simp)
theorem t_dRootR (x : SetO h o d p q cs each all tk es l) {b : Int} {res : S_api_Cap × Int} (e : (rootD each all cs tk es l b).1 = res) {K : S_api_Cap × Int → H → Prop}
    (y : ∀ o' h', SetO h' o' d p q cs each all (rootD each all cs tk es l b).2.1 (rootD each all cs tk es l b).2.2.1 (rootD each all cs tk es l b).2.2.2 → OS (· ≤ 3) o o' h h' → K res h') :
    m_derive_Root (some ⟨d, 0, none⟩) (some ⟨p, 0, none⟩) (some ⟨q, 0, none⟩) b K h := t_dRoot x (by rw [e]; exact y)
theorem t_dChildR (x : SetO h o d p q cs each all tk es l) {c : S_api_Cap} {r : Int} {res : S_api_Cap × Int} (e : (childD each all cs tk es l c r).1 = res) {K : S_api_Cap × Int → H → Prop}
    (y : ∀ o' h', SetO h' o' d p q cs each all (childD each all cs tk es l c r).2.1 (childD each all cs tk es l c r).2.2.1 (childD each all cs tk es l c r).2.2.2 → OS (· ≤ 3) o o' h h' → K res h') :
    m_derive_Child (some ⟨d, 0, none⟩) (some ⟨p, 0, none⟩) (some ⟨q, 0, none⟩) c r K h := t_dChild x (by rw [e]; exact y)
end
theorem t_head14 {h : H} (er : ErrAt h) {K : Bool → H → Prop} (y : ∀ h', Keeps h h' → K true h') : m_law14_head K h := by
  unfold m_law14_head
  refine w_box fun b h1 f1 c1 k1 => ?_
  have ar : Arr cW h1 ⟨some ⟨b, 0, none⟩, 4, 4⟩ hdC := ⟨rfl, Nat.le_refl _, fun _ => ⟨_, rfl, at_box c1⟩⟩
  refine t_made14 (er.keep k1) ar hd_good (by decide) (by decide) (by decide) (by decide) (by decide) fun s w d p q r e f o h2 S2 _ c2 n2 _ _ k2 out => ?_
  rw [hd_cut] at S2
  have A0 : AtS h2 o s d p q hdC 3 4 0 hdE [] := ⟨S2, c2, n2⟩
  refine w_ifF rfl (w_set3 A0 ?_)
  refine w_cap 10 (by decide) A0 (res := (⟨1, ⟨0, 3⟩⟩, 0)) (tk' := hd1.2.1) (es' := hd1.2.2.1) (l' := hd1.2.2.2) (fun h1 o1 K s1 y => t_dRootR s1 hd1_res y) fun b1 o3 h3 A1 B1 j1 => ?_
  refine w_set3 A1 (w_cap 11 (by decide) A1 (res := (cap0, 19)) (tk' := hd2.2.1) (es' := hd2.2.2.1) (l' := hd2.2.2.2) (fun h1 o1 K s1 y => t_dRootR s1 hd2_res y) fun b2 o4 h4 A2 B2 j2 => ?_)
  have B12 := B1.os j2 (by decide)
  refine w_set3 A2 (w_load (v := ⟨1, ⟨0, 3⟩⟩) B12.at (w_cap 12 (by decide) A2 (res := (⟨1, ⟨0, 5⟩⟩, 0)) (tk' := hd3.2.1) (es' := hd3.2.2.1) (l' := hd3.2.2.2) (fun h1 o1 K s1 y => t_dChildR s1 hd3_res y) fun b3 o5 h5 A3 B3 j3 => ?_))
  have B13 := B12.os j3 (by decide)
  refine w_set3 A3 (w_load (v := ⟨1, ⟨0, 5⟩⟩) B3.at (w_cap 13 (by decide) A3 (res := (cap0, 4)) (tk' := hd4.2.1) (es' := hd4.2.2.1) (l' := hd4.2.2.2) (fun h1 o1 K s1 y => t_dChildR s1 hd4_res y) fun b4 o6 h6 A4 B4 j4 => ?_))
  have B14 := B13.os j4 (by decide)
  have B34 := B3.os j4 (by decide)
  refine w_set3 A4 (w_load (v := ⟨1, ⟨0, 5⟩⟩) B34.at (w_cap 14 (by decide) A4 (res := (cap0, 11)) (tk' := hd5.2.1) (es' := hd5.2.2.1) (l' := hd5.2.2.2) (fun h1 o1 K s1 y => t_dChildR s1 hd5_res y) fun b5 o7 h7 A5 B5 j5 => ?_))
  have B15 := B14.os j5 (by decide)
  have B35 := B34.os j5 (by decide)
  have k7 : Keeps h h7 := ((((j1.trans j2).trans j3).trans j4).trans j5).out (k1.trans k2) fun c q => k1.fresh (out c q)
  refine w_join (w_ifT rfl (w_load (v := ⟨1, ⟨0, 3⟩⟩) B15.at (w_join (w_ifT rfl (w_load (v := ⟨1, ⟨0, 5⟩⟩) B35.at (w_join (w_ifT rfl (A5.f0 (o_taken A5.set.dr (w_ifT ?_ (A5.f2 (o_qof A5.set.qu ?_)))))))))))) 
  · rw [hd5_tk]; rfl
  · rw [hd5_q]; exact y h7 k7
def twX (a m : Nat) : List S_api_Word := if a < m then (List.replicate (1 + m) ⟨0, 1⟩).set (1 + a) ⟨0, 0⟩ else List.replicate (1 + m) ⟨0, 1⟩
def twE : List En := [none, none, none, none, none, none, none, none, none]
noncomputable def tw1 (a m : Nat) := rootD 9 9 (twX a m) 0 twE [] 5
noncomputable def tw2 (a m : Nat) := childD 9 9 (twX a m) (tw1 a m).2.1 (tw1 a m).2.2.1 (tw1 a m).2.2.2 ⟨5, ⟨0, 1⟩⟩ 31
def twR (a m : Nat) : S_api_Cap × Int := if a < m ∧ a < 9 then (⟨5, ⟨0, 0⟩⟩, 0) else if 9 ≤ m then (cap0, 12) else (cap0, 11)
def twT (a m : Nat) : Nat := if a < m ∧ a < 9 then a + 2 else if 9 ≤ m then 10 else m + 1
noncomputable def twOk (a m : Nat) : Bool := decide ((tw1 a m).1.1 = ⟨5, ⟨0, 1⟩⟩) && decide ((tw1 a m).1.2 = 0) && decide ((tw2 a m).1.1 = (twR a m).1) && decide ((tw2 a m).1.2 = (twR a m).2) && decide ((tw2 a m).2.1 = twT a m) && ((decide (a < m) && decide (a < 9)) || decide (qcnt (tw2 a m).2.2.2 5 = 1))
set_option maxRecDepth 100000 in
theorem tw_all : ((List.range 30).all fun a => (List.range 30).all fun m => twOk a m) = true := by kernel_rfl
theorem tw_ok {a m : Nat} (ha : a < 30) (hm : m < 30) : (tw1 a m).1 = (⟨5, ⟨0, 1⟩⟩, 0) ∧ (tw2 a m).1 = twR a m ∧ (tw2 a m).2.1 = twT a m ∧ (¬ (a < m ∧ a < 9) → qcnt (tw2 a m).2.2.2 5 = 1) := by
  have h := List.all_eq_true.1 (List.all_eq_true.1 tw_all a (List.mem_range.2 ha)) m (List.mem_range.2 hm)
  unfold twOk at h
  simp only [Bool.and_eq_true, Bool.or_eq_true, decide_eq_true_eq] at h
  obtain ⟨⟨⟨⟨⟨h1, h2⟩, h3⟩, h4⟩, h5⟩, h6⟩ := h
  exact ⟨Prod.ext h1 h2, Prod.ext h3 h4, h5, fun q => h6.elim (fun z => absurd z q) id⟩
theorem cut_one {w : Int} (h : 1 ≤ w) : cutW w ⟨0, 1⟩ = ⟨0, 1⟩ := by
  unfold cutW
  have e : valW (Int.toNat 0) (Int.toNat 1) = 1 := by decide
  have h1 : 1 ≤ wc w := by unfold wc; omega
  have h2 : 2 ^ 1 ≤ 2 ^ wc w := Nat.pow_le_pow_right (by decide) h1
  show wordOf (valW (Int.toNat 0) (Int.toNat 1) % 2 ^ wc w) = _
  rw [e, Nat.mod_eq_of_lt (by omega)]
  rfl
theorem cut_nil (w : Int) : cutW w ⟨0, 0⟩ = ⟨0, 0⟩ := by
  unfold cutW
  have e : valW (Int.toNat 0) (Int.toNat 0) = 0 := by decide
  show wordOf (valW (Int.toNat 0) (Int.toNat 0) % 2 ^ wc w) = _
  rw [e, Nat.zero_mod]
  rfl
theorem tw_mem {a m : Nat} : ∀ x ∈ twX a m, x = ⟨0, 1⟩ ∨ x = ⟨0, 0⟩ := by
  intro x hx
  unfold twX at hx
  split at hx
  · rcases List.mem_or_eq_of_mem_set hx with q | q
    · exact .inl (List.eq_of_mem_replicate q)
    · exact .inr q
  · exact .inl (List.eq_of_mem_replicate hx)
theorem tw_cut {a m : Nat} {w : Int} (h : 1 ≤ w) : (twX a m).map (cutW w) = twX a m := by
  conv => rhs; rw [← List.map_id (twX a m)]
  refine List.map_congr_left fun x hx => ?_
  rcases tw_mem x hx with rfl | rfl
  · exact cut_one h
  · exact cut_nil w
theorem tw_len (a m : Nat) : (twX a m).length = 1 + m := by
  unfold twX; split <;> simp
theorem tw_good {a m : Nat} : ∀ x ∈ twX a m, GoodW x := by
  intro x hx
  rcases tw_mem x hx with rfl | rfl
  · exact ⟨1, by decide, by kernel_rfl⟩
  · exact ⟨0, by decide, by kernel_rfl⟩
theorem w_right {h : H} {a0 : S_law14_World} {xs : List S_api_Word} (ar : Arr cW h a0.Draws xs) {k : S_law14_World → H → Prop}
    (y : ∀ s5 ys, Arr cW h s5 ys → (∀ x ∈ ys, x ∈ xs) → ys.length ≤ 4096 → k ⟨1 + intoV a0.Width 128, 1 + intoV a0.Entries 256, 1 + intoV a0.Each 256, intoV a0.Knob 65, s5⟩ h) : mPure (m_law14_World_right a0) k h := by
  have hl := ar.len
  have hj : iMin (a0.Draws.len : Int) 4096 = ((min xs.length 4096 : Nat) : Int) := by unfold iMin; split <;> omega
  obtain ⟨s5, hc, a5⟩ := w_take (size := 2) ar (n := min xs.length 4096) (Nat.min_le_left _ _) (i := 0) (j := iMin (a0.Draws.len : Int) 4096) rfl hj (k := fun s' _ => Arr cW h s' (xs.take (min xs.length 4096))) fun s' a _ _ => a
  refine w_pure _ (fun h' k' z => ?_) (y s5 _ a5 (fun x hx => List.mem_of_mem_take hx) (by rw [List.length_take]; omega))
  unfold m_law14_World_right
  have r1 := intoV_rng a0.Width (b := 128) (by decide)
  have r2 := intoV_rng a0.Entries (b := 256) (by decide)
  have r3 := intoV_rng a0.Each (b := 256) (by decide)
  refine w_mod14 (by decide) (by decide) (w_mod14 (by decide) (by decide) (w_mod14 (by decide) (by decide) (w_mod14 (by decide) (by decide) ⟨s5, hc, ?_⟩)))
  rw [iAdd_eq (by omega) (by omega), iAdd_eq (by omega) (by omega), iAdd_eq (by omega) (by omega)]
  exact z
theorem t_DeriveTwins {h : H} {a0 : S_law14_World} {a1 a2 : Int} {xs : List S_api_Word} (er : ErrAt h) (ar : Arr cW h a0.Draws xs) {K : Bool → H → Prop} (y : ∀ h', Keeps h h' → K true h') : m_law14_DeriveTwins a0 a1 a2 K h := by
  unfold m_law14_DeriveTwins
  refine t_head14 er fun h1 k1 => w_ifF rfl (w_right (ar.keep k1) fun s5 ys _ _ _ => w_mod14 (by decide) (by decide) (w_mod14 (by decide) (by decide) ?_))
  have rA := intoV_rng a1 (b := 30) (by decide)
  have rM := intoV_rng a2 (b := 30) (by decide)
  have rW := intoV_rng a0.Width (b := 128) (by decide)
  have rK := intoV_rng a0.Knob (b := 65) (by decide)
  obtain ⟨A, hA⟩ : ∃ A : Nat, intoV a1 30 = A := ⟨(intoV a1 30).toNat, by omega⟩
  obtain ⟨M, hM⟩ : ∃ M : Nat, intoV a2 30 = M := ⟨(intoV a2 30).toNat, by omega⟩
  rw [hA, hM]
  generalize eW : 1 + intoV a0.Width 128 = W at *
  generalize eK : intoV a0.Knob 65 = kn at *
  have lA : A < 30 := by omega
  have lM : M < 30 := by omega
  obtain ⟨t1, t2, t3, t4⟩ := tw_ok lA lM
  refine w_box fun b h2 f2 c2 k2 => ?_
  have bu2 : Buf cW 2 N_api_Word h2 ⟨some ⟨b, 0, none⟩, 1, 1⟩ (List.replicate (1 + 0) ⟨0, 1⟩) := ⟨rfl, Nat.le_refl _, .inr ⟨b, [], (0, 0), rfl, by rw [List.append_nil]; exact c2, rfl, fun i _ => by simp [frozenIn]⟩⟩
  refine w_for M (fun i (s : Int × Int × Int × Int × Int × Sl) h' => s.1 = (i : Int) ∧ s.2.1 = W ∧ s.2.2.2.2.1 = kn ∧ Buf cW 2 N_api_Word h' s.2.2.2.2.2 (List.replicate (1 + i) ⟨0, 1⟩) ∧ Keeps h1 h' ∧ ∀ c, s.2.2.2.2.2.foot c → h1 c = none) ?_ ⟨rfl, rfl, rfl, bu2, k2, fun c ⟨_, q, e⟩ => by cases q; exact e ▸ f2⟩
  rintro rec i ⟨j, W', E', C', kn', sl⟩ h3 hi ⟨ej, ew, ek, bu, k3, f3⟩ more
  have ej : j = (i : Int) := ej
  have ew : W' = W := ew
  have ek : kn' = kn := ek
  subst ej; subst ew; subst ek
  have bu : Buf cW 2 N_api_Word h3 sl (List.replicate (1 + i) ⟨0, 1⟩) := bu
  have f3 : ∀ c, sl.foot c → h1 c = none := f3
  refine w_if' (fun c => ?_) fun c => ?_
  · have c : (i : Int) < M := c
    refine w_app (by_ := 16) word_len rfl bu [⟨0, 1⟩] rfl rfl (.inl (by rw [List.length_replicate, List.length_singleton]; omega)) fun s' h4 bu4 b4 f4 d4 => ?_
    refine more _ _ (by omega) ⟨iAdd_eq (by omega) (by omega), rfl, rfl, ?_, k3.but b4 f3, fun c q => (f4 c q).elim (f3 c) k3.fresh⟩
    rw [show 1 + (i + 1) = (1 + i) + 1 from by omega, List.replicate_succ' ]
    exact bu4
  · have c : ¬ (i : Int) < M := c
    obtain rfl : i = M := by omega
    refine w_joinP (fun _ h4 => Arr cW h4 sl (twX A i) ∧ Keeps h1 h4) (fun rest' use => ?_) ?_
    · refine w_if' (fun c => ?_) fun c => ?_
      · have c : (A : Int) < i := c
        have ei : iAdd .i64 1 (A : Int) = ((1 + A : Nat) : Int) := (iAdd_eq (by omega) (by omega)).trans (by omega)
        refine w_put word_len bu (i := 1 + A) (by rw [List.length_replicate]; omega) ei ⟨0, 0⟩ rfl fun h4 bu4 b4 d4 => use _ _ ⟨?_, k3.but b4 f3⟩
        unfold twX; rw [if_pos (by omega)]; exact bu4.arr
      · have c : ¬ (A : Int) < i := c
        refine use _ _ ⟨?_, k3⟩
        unfold twX; rw [if_neg (by omega)]; exact bu.arr
    · rintro _ h4 ⟨a4, k4⟩
      refine t_made14 ((er.keep k1).keep k4) a4 tw_good (by rw [tw_len]; omega) (by omega) (by decide) (by decide) (by omega) fun s w d p q r e f o h5 S5 _ c5 n5 _ _ k5 out => ?_
      rw [tw_cut (by omega)] at S5
      have A0 : AtS h5 o s d p q (twX A i) 9 9 0 twE [] := ⟨S5, c5, n5⟩
      refine w_ifF rfl (w_set3 A0 ?_)
      refine w_cap 10 (by decide) A0 (res := (⟨5, ⟨0, 1⟩⟩, 0)) (tk' := (tw1 A i).2.1) (es' := (tw1 A i).2.2.1) (l' := (tw1 A i).2.2.2) (fun h1 o1 K s1 y => t_dRootR s1 t1 y) fun b1 o6 h6 A1 B1 j1 => ?_
      refine w_set3 A1 (w_load (v := ⟨5, ⟨0, 1⟩⟩) B1.at (w_cap 11 (by decide) A1 (res := twR A i) (tk' := (tw2 A i).2.1) (es' := (tw2 A i).2.2.1) (l' := (tw2 A i).2.2.2) (fun h1 o1 K s1 y => t_dChildR s1 t2 y) fun b2 o7 h7 A2 B2 j2 => ?_))
      have B12 := B1.os j2 (by decide)
      have k7 : Keeps h h7 := k1.trans ((j1.trans j2).out (k4.trans k5) fun c q => k4.fresh (out c q))
      have T := y h7 k7
      have hp : At h7 (Addr.add ⟨b1, 0, none⟩ 1) (S_api_Word.cells ⟨0, 1⟩) := by
        rw [pt_add]; exact At.own (l1 := [Value.int .i64 5]) (l2 := S_api_Word.cells ⟨0, 1⟩) (l3 := []) B12.cell rfl
      refine w_join (w_ifF rfl (w_load (v := ⟨0, 1⟩) hp (w_ifF rfl (A2.f0 (o_taken A2.set.dr ?_)))))
      rw [t3]
      have es : iSub .i64 ((twT A i : Nat) : Int) 1 = ((twT A i - 1 : Nat) : Int) := is1 _ (by unfold twT; split <;> (try split) <;> omega) (by unfold twT; split <;> (try split) <;> omega)
      rw [es]
      by_cases c1 : A < i ∧ A < 9
      · have eR : twR A i = (⟨5, ⟨0, 0⟩⟩, 0) := if_pos c1
        have eT : twT A i = A + 2 := if_pos c1
        rw [eR] at B2 ⊢
        rw [eT]
        refine w_ifT (by simp; omega) (w_ifT rfl (w_load (v := ⟨5, ⟨0, 0⟩⟩) B2.at ?_))
        have ei : iAdd .i64 (A : Int) 1 = ((A + 2 - 1 : Nat) : Int) := (iAdd_eq (by omega) (by omega)).trans (by omega)
        rw [ei]
        simpa using T
      · refine w_ifF (by simp; omega) (w_if' (fun c2 => ?_) fun c2 => ?_)
        · have c2 : (9 : Int) ≤ i := c2
          have eR : twR A i = (cap0, 12) := (if_neg c1).trans (if_pos (by omega))
          have eT : twT A i = 10 := (if_neg c1).trans (if_pos (by omega))
          rw [eR] at B2 ⊢
          rw [eT]
          refine w_join (w_ifT rfl (w_load (v := cap0) B2.at (w_ifT rfl (A2.f2 (o_qof A2.set.qu ?_)))))
          rw [t4 c1]; exact T
        · have c2 : ¬ (9 : Int) ≤ i := c2
          have eR : twR A i = (cap0, 11) := (if_neg c1).trans (if_neg (by omega))
          have eT : twT A i = i + 1 := (if_neg c1).trans (if_neg (by omega))
          rw [eR] at B2 ⊢
          rw [eT]
          refine w_join (w_ifT rfl (w_load (v := cap0) B2.at (w_ifT ?_ (A2.f2 (o_qof A2.set.qu ?_)))))
          · simp [cap0]
          · rw [t4 c1]; exact T
end Go.Proofs.YtdleanjofhghnaaDoor.K
namespace Go.Proofs.YtdleanjofhghnaaDoor.K
open Go Go.ChangeShapes Go.WideShapes Go.RowKit
def laidD : List (String × DataW Unit) := [("errors.errorType", Rows.laid_errors_errorType)]
theorem d_et : Tryd.prog.globalNamed "errors.errorType" = some 0 := by kernel_rfl
theorem d_rt : (Tryd.prog.cutTypes.find? (·.1 == "internal/reflectlite.rtype")).map (·.2) = some 162 := by kernel_rfl
theorem d_oneRow : ((List.range 222).filter fun t => Tryd.prog.rowNamed t [101, 114, 114, 111, 114]) = [77] := by kernel_rfl
theorem d_size : Tryd.prog.types.size = 222 := by kernel_rfl
theorem handle_of_laid {W : World} (h : laidMetH Tryd.prog laidD W) : W.cell? ⟨0, 0, none⟩ = some (.iface 162 (.agg #[.pointer (some ⟨1, 77, none⟩)])) := by
  have h' : laidMet Tryd.prog [] W ∧ handlesMet Tryd.prog laidD W := h
  obtain ⟨name, u, ty, e1, e2, e3, e4, e5⟩ := h'.2 _ (List.mem_singleton.2 rfl)
  have en : name = [101, 114, 114, 111, 114] := (Option.some.inj e1).symm
  subst en
  obtain rfl := Option.some.inj (d_rt.symm.trans e2)
  have hm : ty ∈ (List.range 222).filter fun t => Tryd.prog.rowNamed t [101, 114, 114, 111, 114] := List.mem_filter.2 ⟨List.mem_range.2 (by rw [← d_size]; exact e3), e4⟩
  rw [d_oneRow] at hm
  obtain rfl := List.mem_singleton.1 hm
  have hh : typeHandle Tryd.prog 77 = .pointer (some ⟨1, 77, none⟩) := by kernel_rfl
  rw [hh] at e5
  simpa using World.var?_cell d_et e5 0
noncomputable def laidWorld (os : Os) : World :=
  let w0 := World.holding Tryd.prog os ⟨#[], #[], []⟩
  { w0 with heap := w0.heap.modify 0 fun
      | .cells _ t frozen => .cells #[.iface 162 (.agg #[.pointer (some ⟨1, 77, none⟩)])] t frozen
      | o => o }
theorem laidWorld_met (os : Os) (args : Array Value) : laidMetH Tryd.prog laidD ((laidWorld os).forCall (fun _ _ => 0) ⟨#[], args, []⟩).memory :=
  laidMetH_of_parts (laidMet_nil _ _) (by kernel_rfl)
theorem err_of_laid {W : World} (h : laidMetH Tryd.prog laidD W) : ErrAt (heapH W) := by
  have hc := handle_of_laid h
  unfold World.cell? at hc
  split at hc
  · rename_i c e fz hb
    rw [if_neg (by simp)] at hc
    refine ⟨rfl, c, e, fz, hb, ?_⟩
    exact grab_iff.2 fun i v hi => by
      rcases i with _ | i
      · simp at hi; rw [← hi]; exact hc
      · simp at hi
  · cases hc
end Go.Proofs.YtdleanjofhghnaaDoor.K
namespace Go.Proofs.YtdleanjofhghnaaDoor.K
open Go Go.ChangeShapes Go.WideShapes Go.ChangeAt Go.RowKit Go.Proofs
def G_api_Word (_W : World) (x : S_api_Word) : Prop := (IntKind.u64.min ≤ x.Hi ∧ x.Hi ≤ IntKind.u64.max) ∧ (IntKind.u64.min ≤ x.Lo ∧ x.Lo ≤ IntKind.u64.max)
set_option maxRecDepth 100000 in
theorem openC_api_Word {HH : Type} {enc : TypeId × Value → HH} {W : World} {t : TypeId} (ht : Tryd.prog.underlying t = Tryd.prog.underlying 29) (hc : Tryd.prog.cellsOf t = 2) {n : Nat} {cs : List Value} {y : DataW HH × List MemPlace} (h : DataW.trod enc Tryd.prog W 0 (fun _ => true) true n t cs = some y) : ∃ x : S_api_Word, cs = S_api_Word.cells x ∧ G_api_Word W x := by
  have ht : Tryd.prog.underlying t = _ := ht.trans Tryd.underlying29
  obtain ⟨_, _, _, _, hl0, _, _⟩ := DataW.trod_struct ht h
  obtain ⟨y0, n0, h0⟩ := trod_field ht h 0 _ rfl
  obtain ⟨x0, e0, g0⟩ := open_intC (k := .u64) (by kernel_rfl) h0
  obtain ⟨y1, n1, h1⟩ := trod_field ht h 1 _ rfl
  obtain ⟨x1, e1, g1⟩ := open_intC (k := .u64) (by kernel_rfl) h1
  have hl : cs.length = 2 := hl0.trans hc
  match cs, hl with
  | [c0, c1], _ =>
    replace e0 : [c0] = (cInt .u64) x0 := (show [c0] = _ by kernel_rfl).trans e0
    replace e1 : [c1] = (cInt .u64) x1 := (show [c1] = _ by kernel_rfl).trans e1
    exact ⟨⟨x0, x1⟩, (show [c0, c1] = [c0] ++ [c1] from rfl).trans (by rw [e0, e1]; rfl), g0, g1⟩
def G_law14_World (W : World) (x : S_law14_World) : Prop := (IntKind.i64.min ≤ x.Width ∧ x.Width ≤ IntKind.i64.max) ∧ (IntKind.i64.min ≤ x.Entries ∧ x.Entries ≤ IntKind.i64.max) ∧ (IntKind.i64.min ≤ x.Each ∧ x.Each ≤ IntKind.i64.max) ∧ (IntKind.i64.min ≤ x.Knob ∧ x.Knob ≤ IntKind.i64.max) ∧ (∃ xs, Arr S_api_Word.cells (heapH W) x.Draws xs ∧ (∀ z ∈ xs, G_api_Word W z) ∧ x.Draws.cap ≤ maxLen)
set_option maxRecDepth 100000 in
theorem openC_law14_World {HH : Type} {enc : TypeId × Value → HH} {W : World} {t : TypeId} (ht : Tryd.prog.underlying t = Tryd.prog.underlying 23) (hc : Tryd.prog.cellsOf t = 5) {n : Nat} {cs : List Value} {y : DataW HH × List MemPlace} (h : DataW.trod enc Tryd.prog W 0 (fun _ => true) true n t cs = some y) : ∃ x : S_law14_World, cs = S_law14_World.cells x ∧ G_law14_World W x := by
  have ht : Tryd.prog.underlying t = _ := ht.trans Tryd.underlying23
  obtain ⟨_, _, _, _, hl0, _, _⟩ := DataW.trod_struct ht h
  obtain ⟨y0, n0, h0⟩ := trod_field ht h 0 _ rfl
  obtain ⟨x0, e0, g0⟩ := open_intC (k := .i64) (by kernel_rfl) h0
  obtain ⟨y1, n1, h1⟩ := trod_field ht h 1 _ rfl
  obtain ⟨x1, e1, g1⟩ := open_intC (k := .i64) (by kernel_rfl) h1
  obtain ⟨y2, n2, h2⟩ := trod_field ht h 2 _ rfl
  obtain ⟨x2, e2, g2⟩ := open_intC (k := .i64) (by kernel_rfl) h2
  obtain ⟨y3, n3, h3⟩ := trod_field ht h 3 _ rfl
  obtain ⟨x3, e3, g3⟩ := open_intC (k := .i64) (by kernel_rfl) h3
  obtain ⟨y4, n4, h4⟩ := trod_field ht h 4 _ rfl
  obtain ⟨x4, e4, g4⟩ := open_slC (e := 30) (sz := 2) (cells := S_api_Word.cells) (Good := fun z => G_api_Word W z) (fun _ => rfl) (by decide) (by kernel_rfl) (by kernel_rfl) (fun _ _ _ hf => openC_api_Word (t := 30) (by kernel_rfl) (by kernel_rfl) hf) h4
  have hl : cs.length = 5 := hl0.trans hc
  match cs, hl with
  | [c0, c1, c2, c3, c4], _ =>
    replace e0 : [c0] = (cInt .i64) x0 := (show [c0] = _ by kernel_rfl).trans e0
    replace e1 : [c1] = (cInt .i64) x1 := (show [c1] = _ by kernel_rfl).trans e1
    replace e2 : [c2] = (cInt .i64) x2 := (show [c2] = _ by kernel_rfl).trans e2
    replace e3 : [c3] = (cInt .i64) x3 := (show [c3] = _ by kernel_rfl).trans e3
    replace e4 : [c4] = cSl x4 := (show [c4] = _ by kernel_rfl).trans e4
    exact ⟨⟨x0, x1, x2, x3, x4⟩, (show [c0, c1, c2, c3, c4] = [c0] ++ [c1] ++ [c2] ++ [c3] ++ [c4] from rfl).trans (by rw [e0, e1, e2, e3, e4]; rfl), g0, g1, g2, g3, g4⟩
set_option maxRecDepth 100000 in
theorem deriveTwins_lifted (os : Os) (started : os.Started) (HH : Type) (enc : TypeId × Value → HH) :
    ReturnsInHanded {} Tryd.checked os 3 .any (fun w args => (Rows.deriveTwinsSpec.pre enc Tryd.prog Tryd.f3 [] false w args ∧ laidMetH Tryd.prog laidD w) ∧ sizedMet enc Tryd.prog Tryd.f3 (OpenSpec.ofChange Rows.deriveTwinsSpec) false w args) (Rows.deriveTwinsSpec.post enc Tryd.prog Tryd.f3 false true false false) := by
  refine returnsInHanded_of_change_and (C := Tryd.checked) (X := fun w _ => laidMetH Tryd.prog laidD w) (fun _ _ _ hh h => h.of_heap hh) own started (by kernel_rfl) Tryd.func3
    (ChangeSpec.witness_at (enc := enc) (C := Tryd.checked) (os := os) (X := fun w _ => laidMetH Tryd.prog laidD w) false (laidWorld os) #[.agg #[.int .i64 0, .int .i64 0, .int .i64 0, .int .i64 0, .slice none 0 0], .int .i64 0, .int .i64 0] 8 rfl (by kernel_rfl) (by kernel_rfl) (by kernel_rfl) (by kernel_rfl) (by kernel_rfl) (laidWorld_met os _)) ?_
  intro W base args ds gs before hval0 hW hcnd _ hL _
  have er := err_of_laid hL
  have hval : ∀ (j : Nat) t v, Tryd.f3.params[j]? = some t → args[j]? = some v → Value.okWide Tryd.prog W .any base t v := hval0
  have hW' : DataW.Whole enc Tryd.prog Tryd.f3.params.toList Rows.deriveTwinsSpec.vars false W args.toList ds gs before := hW
  obtain ⟨p, q, hA0, hV, rfl, hfz, hnd⟩ := hW
  have hA : DataW.TrodAll enc Tryd.prog W 0 (fun _ => true) true [24, 3, 3] args.toList ds p := hA0
  obtain ⟨l⟩ := args
  obtain ⟨v0, l0, d0, ds0, p0, q0, e0, rfl, rfl, t0, hB0⟩ := trodAll_cons hA
  replace e0 : l = v0 :: l0 := e0
  subst e0
  obtain ⟨v1, l1, d1, ds1, p1, q1, e1, rfl, rfl, t1, hB1⟩ := trodAll_cons hB0
  replace e1 : l0 = v1 :: l1 := e1
  subst e1
  obtain ⟨v2, l2, d2, ds2, p2, q2, e2, rfl, rfl, t2, hB2⟩ := trodAll_cons hB1
  replace e2 : l1 = v2 :: l2 := e2
  subst e2
  obtain ⟨rfl, rfl, rfl⟩ := trodAll_nil hB2
  obtain ⟨rfl, rfl⟩ := trodVars_none hV
  obtain ⟨c0, rfl, _, _, hf0⟩ := open_str ((show Tryd.prog.underlying 24 = Tryd.prog.underlying 23 by kernel_rfl).trans Tryd.underlying23) (hval 0 24 v0 rfl rfl) t0
  obtain ⟨x0, ec0, g0⟩ := openC_law14_World (t := 24) (by kernel_rfl) (by kernel_rfl) hf0
  subst ec0
  obtain ⟨x1, rfl, _, _, w1⟩ := open_int (k := .i64) (by kernel_rfl) (hval 1 3 v1 rfl rfl) t1
  obtain ⟨x2, rfl, _, _, w2⟩ := open_int (k := .i64) (by kernel_rfl) (hval 2 3 v2 rfl rfl) t2
  have walk := s_law14_DeriveTwins.ok (x0, x1, x2) (fun r h' => r = true ∧ Keeps (heapH W) h') (heapH W) (t_DeriveTwins er g0.2.2.2.2.choose_spec.1 (K := fun r h' => r = true ∧ Keeps (heapH W) h') fun h' k => ⟨rfl, k⟩)
  refine (calls_law (walk.mono (fun v h' => fun ⟨r, e, er, k⟩ => ⟨by rw [e, er]; rfl, k⟩) fun _ _ k => k)).mono fun e W' => fun ⟨he, hb⟩ => ?_
  subst he
  exact ⟨_, rfl, post_law (tb := 4) laid (by kernel_rfl) rfl (by kernel_rfl) rfl hW' ⟨rfl, rfl, rfl⟩ hb⟩
theorem deriveTwins_holds : Rows.DeriveTwinsSaid :=
  OpenClaim.holds_of_wide 3 Tryd.f3 rfl rfl rfl rfl rfl rfl rfl ⟨rfl, rfl, rfl, rfl, rfl⟩ rfl rfl rfl rfl rfl (by kernel_rfl) Tryd.func3 (by kernel_rfl)
    (of_decide_eq_true (by kernel_rfl)) (by unfold Func.isWrapper; rw [if_neg (of_decide_eq_false (by kernel_rfl))]; exact ⟨rfl, rfl⟩)
    (fun os started H enc _ => deriveTwins_lifted os started H enc)
end Go.Proofs.YtdleanjofhghnaaDoor.K
namespace Go.Proofs.YtdleanjofhghnaaDoor.K
open Go
theorem deriveTwins_card : Rows.DeriveTwinsCardSaid :=
  Claim7.holds_tied_plain_at .later [] [.handle] true (true, "f045fa5fda008a9b7d21015d465c8aa5c38e8d7cb143c446c550db0e6603a4b2") true
    deriveTwins_holds (fun _ h => by cases h) (by kernel_rfl) (fun _ h => by cases h) deriveTwins_row_tie rfl ⟨rfl, rfl⟩ (by kernel_rfl) rfl
    (fun f fn hf hfn => by
      obtain rfl : f = 3 := Option.some.inj ((show Tryd.prog.funcNamed "sesame/sesamelaw14.DeriveTwins" = some 3 by kernel_rfl).symm.trans hf) |>.symm
      obtain rfl : fn = Tryd.f3 := (Option.some.inj (Tryd.func3.symm.trans hfn)).symm
      refine ⟨by kernel_rfl, fun j t ht => ?_⟩
      have hp : t ∈ [24, 3, 3] := by
        have hm : t ∈ Tryd.f3.params.toList := Array.mem_toList_iff.2 (Array.mem_of_getElem? ht)
        exact hm
      simp only [List.mem_cons, List.not_mem_nil, or_false] at hp
      rcases hp with rfl | rfl | rfl
      · exact (show Tryd.prog.wantsStandIn 24 = false by kernel_rfl)
      · exact (show Tryd.prog.wantsStandIn 3 = false by kernel_rfl)
      · exact (show Tryd.prog.wantsStandIn 3 = false by kernel_rfl)
      )
    (by kernel_rfl)
end Go.Proofs.YtdleanjofhghnaaDoor.K
