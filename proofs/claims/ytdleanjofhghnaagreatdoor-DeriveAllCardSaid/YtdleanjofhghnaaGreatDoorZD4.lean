/- deriveAll: true at every input, the arguments as they were: no condition. Part 4 of 6. -/
import Derived.Test.YtdleanjofhghnaaGreatDoorZD3
namespace Go.Proofs.YtdleanjofhghnaaGreatDoor.K
open Go
structure KChg (F F' : Nat → Prop) (h h' : H) : Prop where
  but : But F h h'
  foot : ∀ c, F' c → F c ∨ h c = none
  dom : ∀ c, h' c = none → h c = none
theorem KChg.refl (F : Nat → Prop) (h : H) : KChg F F h h := ⟨.refl _ _, fun _ f => .inl f, fun _ e => e⟩
theorem KChg.trans {F1 F2 F3 : Nat → Prop} {h1 h2 h3 : H} (x : KChg F1 F2 h1 h2) (y : KChg F2 F3 h2 h3) : KChg F1 F3 h1 h3 :=
  ⟨x.but.trans y.but fun n f => x.foot n f, fun c f => (y.foot c f).elim (x.foot c) fun e => .inr (x.dom c e), fun c e => x.dom c (y.dom c e)⟩
section
variable {h : H}
theorem w_box {t : TypeId} {c : Array Value} {k : Addr → H → Prop} (y : ∀ b h', h b = none → h' b = some (.cells c t (0, 0)) → Keeps h h' → k ⟨b, 0, none⟩ h') : mNew t c k h := w_new fun b hb => y b _ hb (upd_same _ _ _) (.new hb)
theorem w_setBox {b : Nat} {old new : List Value} {t : TypeId} {k : H → Prop} (e : h b = some (.cells old.toArray t (0, 0))) (hn : new.length = old.length) (y : ∀ h', h' b = some (.cells new.toArray t (0, 0)) → But (· = b) h h' → (∀ c, h' c = none → h c = none) → k h') : mStore ⟨b, 0, none⟩ new k h :=
  w_store (l1 := []) (l2 := old) (l3 := []) rfl (by rw [List.nil_append, List.append_nil]; exact e) rfl hn (by rw [List.nil_append, List.append_nil]; exact y _ (upd_same _ _ _) (.upd rfl) fun c q => (upd_none.1 q).2)
theorem at_box {b : Nat} {cs : List Value} {t : TypeId} {fz : Nat × Nat} (e : h b = some (.cells cs.toArray t fz)) : At h ⟨b, 0, none⟩ cs := At.own (l1 := []) (l3 := []) (by rw [List.nil_append, List.append_nil]; exact e) rfl
theorem Buf.one {T : Type} {cells : T → List Value} {sz : Nat} {e : TypeId} (hs : ∀ x, (cells x).length = sz) {b : Nat} {x : T} (q : h b = some (.cells (cells x).toArray e (0, 0))) : Buf cells sz e h ⟨some ⟨b, 0, none⟩, 1, 1⟩ [x] := by
  have e1 : flat cells [x] ++ [] = cells x := by simp [flat]
  exact ⟨rfl, Nat.le_refl _, .inr ⟨b, [], (0, 0), rfl, by rw [e1]; exact q, by rw [e1, hs]; simp, thawed0 _⟩⟩
end
theorem cap_len : ∀ x, (S_api_Cap.cells x).length = 3 := fun _ => rfl
theorem cap_plain : ∀ x, (S_api_Cap.cells x).all plainVal = true := fun _ => rfl
theorem partOf_r {r u : Int} (h : partOf r u = true) : 1 ≤ r ∧ r ≤ 31 := by
  unfold partOf at h
  rw [Bool.and_eq_true] at h
  exact of_decide_eq_true h.1
end Go.Proofs.YtdleanjofhghnaaGreatDoor.K
namespace Go.Proofs.YtdleanjofhghnaaGreatDoor.K
open Go Go.Proofs
def m_slices_Reverse_int_int (a0 : Sl) (K : (Unit) → H → Prop) : H → Prop :=
 mLoop (fun (rec2 : (Int × Int) → H → Prop) (s1 : Int × Int) =>
 mIf (decide (s1.1 < s1.2)) (
 mIdx a0 s1.2 1 fun ad3 =>
 mIdx a0 s1.1 1 fun ad4 =>
 mLoad (cInt .i64) ad3 fun x5 =>
 mLoad (cInt .i64) ad4 fun x6 =>
 mIdx a0 s1.1 1 fun ad7 =>
 mStore ad7 [(Value.int .i64 x5)] <|
 mIdx a0 s1.2 1 fun ad8 =>
 mStore ad8 [(Value.int .i64 x6)] <|
 rec2 ((iAdd .i64 s1.1 1), (iSub .i64 s1.2 1))
 ) (
 K ()
 )
 ) (0, (iSub .i64 (a0.len : Int) 1))
def x_slices_Reverse_int_int : Cx Tryz.prog := ⟨tys, [], [], [], mixed⟩
def h_slices_Reverse_int_int : Hint := (.seq .d (.blk (.loop [.slot 2 (tInt .i64), .slot 3 (tInt .i64)] 268435340 [] (.seq .d (.seq (.blk (.reg (.run [0, 4, 8, 12, 16, 20, 24, 32, 36, 40, 30, 46, 48, 55, 56, 63] .nil))) .d)))))
def s_slices_Reverse_int_int : Spec Tryz.prog := mkSpec x_slices_Reverse_int_int 84 Tryz.f84 [tSl] [] false h_slices_Reverse_int_int (fun a => m_slices_Reverse_int_int a) (fun a K h => by kernel_rfl) callee84 rfl
def m_slices_Clone_int_int (a0 : Sl) (K : (Sl) → H → Prop) : H → Prop :=
 mIf (a0.a.isNone) (
 K Sl.nil
 ) (
 mNew 3 #[] fun ad1 =>
 mAppend 3 1 8 #[(Value.int .i64 0)] (⟨some ad1, 0, 0⟩ : Sl) a0 fun s2 =>
 K s2
 )
def x_slices_Clone_int_int : Cx Tryz.prog := ⟨tys, [], [], [], mixed⟩
def h_slices_Clone_int_int : Hint := .d
def s_slices_Clone_int_int : Spec Tryz.prog := mkSpec x_slices_Clone_int_int 113 Tryz.f113 [tSl] [tSl] false h_slices_Clone_int_int (fun a => m_slices_Clone_int_int a) (fun a K h => by kernel_rfl) callee113 rfl
def m_slices_Index_int_int (a0 : Sl) (a1 : Int) (K : (Int) → H → Prop) : H → Prop :=
 mLoop (fun (rec2 : Int → H → Prop) (s1 : Int) =>
 mIf (decide (s1 < (a0.len : Int))) (
 mIdx a0 s1 1 fun ad3 =>
 mLoad (cInt .i64) ad3 fun x4 =>
 mIf (decide (a1 = x4)) (
 K s1
 ) (
 rec2 (iAdd .i64 s1 1)
 )
 ) (
 K (-1)
 )
 ) 0
def x_slices_Index_int_int : Cx Tryz.prog := ⟨tys, [], [], [], mixed⟩
def h_slices_Index_int_int : Hint := (.seq .d (.seq (.seq .d (.blk (.loop [.slot 8 (tInt .i64)] 524080 [] .d))) .d))
def s_slices_Index_int_int : Spec Tryz.prog := mkSpec x_slices_Index_int_int 87 Tryz.f87 [tSl, (tInt .i64)] [(tInt .i64)] false h_slices_Index_int_int (fun a => m_slices_Index_int_int a.1 a.2) (fun a K h => by kernel_rfl) callee87 rfl
def m_slices_Delete_int_int (a0 : Sl) (a1 : Int) (a2 : Int) (K : (Sl) → H → Prop) : H → Prop :=
 mCut3 a0 a1 a2 (a0.len : Int) 1 fun _ =>
 mIf (decide (a1 = a2)) (
 K a0
 ) (
 mCut a0 0 a1 1 fun s2 =>
 mCut a0 a2 (a0.len : Int) 1 fun s3 =>
 mAppend 3 1 8 #[(Value.int .i64 0)] s2 s3 fun s4 =>
 mCut s4 (s4.len : Int) (a0.len : Int) 1 fun s5 =>
 mClear #[(Value.int .i64 0)] s5 <|
 K s4
 )
def x_slices_Delete_int_int : Cx Tryz.prog := ⟨tys, [], [], [], mixed⟩
def h_slices_Delete_int_int : Hint := (.seq .d (.seq .d (.seq .d (.seq .d (.seq (.reg (.run [0, 4, 8, 12, 16, 20, 27, 28] .nil)) .d)))))
def s_slices_Delete_int_int : Spec Tryz.prog := mkSpec x_slices_Delete_int_int 88 Tryz.f88 [tSl, (tInt .i64), (tInt .i64)] [tSl] false h_slices_Delete_int_int (fun a => m_slices_Delete_int_int a.1 a.2.1 a.2.2) (fun a K h => by kernel_rfl) callee88 rfl
def m_kin_New (a0 : Int) (K : (Option Addr × Int) → H → Prop) : H → Prop :=
 mIf ((decide (a0 < 0)) || (decide (1024 < a0))) (
 K (none, 16)
 ) (
 mMake 171 40 #[(Value.bool false), (Value.int .i64 0), (Sl.val Sl.nil)] a0 a0 fun s1 =>
 mNew 157 #[(Sl.val s1)] fun ad2 =>
 K ((some ad2), 0)
 )
def x_kin_New : Cx Tryz.prog := ⟨tys, [], [], [], mixed⟩
def h_kin_New : Hint := (.seq .d (.seq (.seq (.reg (.run [3, 7, 11] (.sel 6 9 896 (.run [15, 19, 23] .nil) (.run [15, 19, 23] .nil) .nil))) .d) .d))
def s_kin_New : Spec Tryz.prog := mkSpec x_kin_New 41 Tryz.f41 [(tInt .i64)] [tPtr, (tInt .i64)] false h_kin_New (fun a => m_kin_New a) (fun a K h => by kernel_rfl) callee41 rfl
def m_kin_Tree_number (a0 : Option Addr) (a1 : Int) (K : (Bool) → H → Prop) : H → Prop :=
 mIf (decide (0 ≤ a1)) (
 mDeref a0 fun ad3 =>
 mLoad cSl (ad3.add 0) fun x4 =>
 K (decide (a1 < (x4.len : Int)))
 ) (
 K false
 )
def x_kin_Tree_number : Cx Tryz.prog := ⟨tys, [], [], [], mixed⟩
def h_kin_Tree_number : Hint := (.seq .d (.seq (.reg (.run [3, 7, 11] (.split 7 (.run [15, 19, 23, 27, 31, 35, 39, 43, 47] .nil) (.run [15, 19, 23, 27, 31, 35, 39, 43, 47] .nil)))) .d))
def s_kin_Tree_number : Spec Tryz.prog := mkSpec x_kin_Tree_number 107 Tryz.f107 [tPtr, (tInt .i64)] [tBool] false h_kin_Tree_number (fun a => m_kin_Tree_number a.1 a.2) (fun a K h => by kernel_rfl) callee107 rfl
def m_kin_Tree_at (a0 : Option Addr) (a1 : Int) (K : (Option Addr) → H → Prop) : H → Prop :=
 mDeref a0 fun ad1 =>
 mLoad cSl (ad1.add 0) fun x2 =>
 mIdx x2 a1 3 fun ad3 =>
 K (some ad3)
def x_kin_Tree_at : Cx Tryz.prog := ⟨tys, [], [], [], mixed⟩
def h_kin_Tree_at : Hint := .d
def s_kin_Tree_at : Spec Tryz.prog := mkSpec x_kin_Tree_at 85 Tryz.f85 [tPtr, (tInt .i64)] [tPtr] false h_kin_Tree_at (fun a => m_kin_Tree_at a.1 a.2) (fun a K h => by kernel_rfl) callee85 rfl
def m_kin_Tree_Has (a0 : Option Addr) (a1 : Int) (K : (Bool) → H → Prop) : H → Prop :=
 m_kin_Tree_number a0 a1 fun r1 =>
 mIf r1 (
 mDeref a0 fun ad6 =>
 mLoad cSl (ad6.add 0) fun x7 =>
 mIdx x7 a1 3 fun ad8 =>
 mLoad cBool (ad8.add 0) fun x9 =>
 K x9
 ) (
 K false
 )
def x_kin_Tree_Has : Cx Tryz.prog := ⟨tys, [s_kin_Tree_number], [], [], mixed⟩
def h_kin_Tree_Has : Hint := (.seq .d (.seq (.reg (.run [3, 7, 11, 15] (.split 8 (.run [19, 23, 27, 31, 35, 39, 43, 47, 51, 55] .nil) (.run [19, 23, 27, 31, 35, 39, 43, 47, 51, 55] .nil)))) .d))
def s_kin_Tree_Has : Spec Tryz.prog := mkSpec x_kin_Tree_Has 86 Tryz.f86 [tPtr, (tInt .i64)] [tBool] false h_kin_Tree_Has (fun a => m_kin_Tree_Has a.1 a.2) (fun a K h => by kernel_rfl) callee86 rfl
def m_kin_Tree_add (a0 : Option Addr) (a1 : Int) (a2 : Int) (K : (Int) → H → Prop) : H → Prop :=
 m_kin_Tree_Has a0 a1 fun r1 =>
 mIf r1 (
 K 19
 ) (
 mCallV (T := Option Addr) Tryz.prog (fun r => (Value.pointer r)) (⟨Value.func (.func 85) #[(Value.pointer a0)] #[], rfl, rfl⟩ : PV).1 [(Value.int .i64 a1)] fun r2 =>
 mDeref r2 fun ad3 =>
 mStore ad3 [(Value.bool true), (Value.int .i64 a2), (Sl.val Sl.nil)] <|
 mIf (decide (0 ≤ a2)) (
 mCallV (T := Option Addr) Tryz.prog (fun r => (Value.pointer r)) (⟨Value.func (.func 85) #[(Value.pointer a0)] #[], rfl, rfl⟩ : PV).1 [(Value.int .i64 a2)] fun r4 =>
 mDeref r4 fun ad5 =>
 mLoad cSl (ad5.add 2) fun x6 =>
 mApp 3 1 8 #[(Value.int .i64 0)] 1 [(Value.int .i64 a1)] x6 fun s7 =>
 mDeref r4 fun ad8 =>
 mStore (ad8.add 2) [(Sl.val s7)] <|
 K 0
 ) (
 K 0
 )
 )
def x_kin_Tree_add : Cx Tryz.prog := ⟨tys, [s_kin_Tree_Has], [31], [], mixed⟩
def h_kin_Tree_add : Hint := .d
def s_kin_Tree_add : Spec Tryz.prog := mkSpec x_kin_Tree_add 111 Tryz.f111 [tPtr, (tInt .i64), (tInt .i64)] [(tInt .i64)] false h_kin_Tree_add (fun a => m_kin_Tree_add a.1 a.2.1 a.2.2) (fun a K h => by kernel_rfl) callee111 rfl
def m_kin_Tree_Root (a0 : Option Addr) (a1 : Int) (K : (Int) → H → Prop) : H → Prop :=
 m_kin_Tree_number a0 a1 fun r1 =>
 mIf (!r1) (
 K 20
 ) (
 m_kin_Tree_add a0 a1 (-1) fun r2 =>
 K r2
 )
def x_kin_Tree_Root : Cx Tryz.prog := ⟨tys, [s_kin_Tree_number, s_kin_Tree_add], [], [], mixed⟩
def h_kin_Tree_Root : Hint := .d
def s_kin_Tree_Root : Spec Tryz.prog := mkSpec x_kin_Tree_Root 97 Tryz.f97 [tPtr, (tInt .i64)] [(tInt .i64)] false h_kin_Tree_Root (fun a => m_kin_Tree_Root a.1 a.2) (fun a K h => by kernel_rfl) callee97 rfl
def m_kin_Tree_Child (a0 : Option Addr) (a1 : Int) (a2 : Int) (K : (Int) → H → Prop) : H → Prop :=
 m_kin_Tree_number a0 a2 fun r1 =>
 mJoin (fun (s3 : Bool) =>
 mIf s3 (
 K 20
 ) (
 m_kin_Tree_add a0 a2 a1 fun r5 =>
 K r5
 )
 ) (fun j4 =>
 mIf (!r1) (
 j4 true
 ) (
 m_kin_Tree_Has a0 a1 fun r6 =>
 j4 (!r6)
 ))
def x_kin_Tree_Child : Cx Tryz.prog := ⟨tys, [s_kin_Tree_Has, s_kin_Tree_number, s_kin_Tree_add], [], [], mixed⟩
def h_kin_Tree_Child : Hint := (.seq .d (.seq (.seq (.reg (.run [3, 7, 11, 15, 19] (.join [.slot 16 tBool] 126976 [] (.split 11 (.run [23, 27, 31, 35, 39] .nil) (.run [23, 27, 31, 35, 39] .nil)) .nil))) .d) .d))
def s_kin_Tree_Child : Spec Tryz.prog := mkSpec x_kin_Tree_Child 101 Tryz.f101 [tPtr, (tInt .i64), (tInt .i64)] [(tInt .i64)] false h_kin_Tree_Child (fun a => m_kin_Tree_Child a.1 a.2.1 a.2.2) (fun a K h => by kernel_rfl) callee101 rfl
def m_kin_Tree_Children (a0 : Option Addr) (a1 : Int) (K : (Sl) → H → Prop) : H → Prop :=
 m_kin_Tree_Has a0 a1 fun r1 =>
 mIf (!r1) (
 K Sl.nil
 ) (
 m_kin_Tree_at a0 a1 fun r2 =>
 mDeref r2 fun ad3 =>
 mLoad cSl (ad3.add 2) fun x4 =>
 m_slices_Clone_int_int x4 fun r5 =>
 K r5
 )
def x_kin_Tree_Children : Cx Tryz.prog := ⟨tys, [s_kin_Tree_at, s_kin_Tree_Has, s_slices_Clone_int_int], [], [], mixed⟩
def h_kin_Tree_Children : Hint := .d
def s_kin_Tree_Children : Spec Tryz.prog := mkSpec x_kin_Tree_Children 106 Tryz.f106 [tPtr, (tInt .i64)] [tSl] false h_kin_Tree_Children (fun a => m_kin_Tree_Children a.1 a.2) (fun a K h => by kernel_rfl) callee106 rfl
def m_kin_Tree_Cut (a0 : Option Addr) (a1 : Int) (K : (Int) → H → Prop) : H → Prop :=
 m_kin_Tree_Has a0 a1 fun r1 =>
 mIf (!r1) (
 K 20
 ) (
 mCallV (T := Option Addr) Tryz.prog (fun r => (Value.pointer r)) (⟨Value.func (.func 85) #[(Value.pointer a0)] #[], rfl, rfl⟩ : PV).1 [(Value.int .i64 a1)] fun r2 =>
 mDeref r2 fun ad3 =>
 mLoad cSl (ad3.add 2) fun x4 =>
 mIf (decide (0 < (x4.len : Int))) (
 K 19
 ) (
 mJoin (fun (_s5 : Unit) =>
 mCallV (T := Option Addr) Tryz.prog (fun r => (Value.pointer r)) (⟨Value.func (.func 85) #[(Value.pointer a0)] #[], rfl, rfl⟩ : PV).1 [(Value.int .i64 a1)] fun r7 =>
 mDeref r7 fun ad8 =>
 mStore ad8 [(Value.bool false), (Value.int .i64 0), (Sl.val Sl.nil)] <|
 K 0
 ) (fun j6 =>
 mCallV (T := Option Addr) Tryz.prog (fun r => (Value.pointer r)) (⟨Value.func (.func 85) #[(Value.pointer a0)] #[], rfl, rfl⟩ : PV).1 [(Value.int .i64 a1)] fun r9 =>
 mDeref r9 fun ad10 =>
 mLoad (cInt .i64) (ad10.add 1) fun x11 =>
 mIf (decide (0 ≤ x11)) (
 mCallV (T := Option Addr) Tryz.prog (fun r => (Value.pointer r)) (⟨Value.func (.func 85) #[(Value.pointer a0)] #[], rfl, rfl⟩ : PV).1 [(Value.int .i64 x11)] fun r12 =>
 mDeref r12 fun ad13 =>
 mLoad cSl (ad13.add 2) fun x14 =>
 m_slices_Index_int_int x14 a1 fun r15 =>
 mDeref r12 fun ad16 =>
 mLoad cSl (ad16.add 2) fun x17 =>
 m_slices_Delete_int_int x17 r15 (iAdd .i64 r15 1) fun r18 =>
 mDeref r12 fun ad19 =>
 mStore (ad19.add 2) [(Sl.val r18)] <|
 j6 ()
 ) (
 j6 ()
 )
 )
 )
 )
def x_kin_Tree_Cut : Cx Tryz.prog := ⟨tys, [s_kin_Tree_Has, s_slices_Index_int_int, s_slices_Delete_int_int], [], [], mixed⟩
def h_kin_Tree_Cut : Hint := (.seq .d (.seq .d (.seq .d (.join [] 9007199221187008 [] .d .d))))
def s_kin_Tree_Cut : Spec Tryz.prog := mkSpec x_kin_Tree_Cut 55 Tryz.f55 [tPtr, (tInt .i64)] [(tInt .i64)] false h_kin_Tree_Cut (fun a => m_kin_Tree_Cut a.1 a.2) (fun a K h => by kernel_rfl) callee55 rfl
def m_walk_told_1 (a0 : PV) (a1 : Addr) (K : (Unit) → H → Prop) : H → Prop :=
 mLoad cPV a1 fun x1 =>
 mCallV (T := Sl) Tryz.prog (fun r => (Sl.val r)) x1.1 [] fun r2 =>
 mLoop (fun (rec4 : Int → H → Prop) (s3 : Int) =>
 mIf (decide (s3 < (r2.len : Int))) (
 mIdx r2 s3 1 fun ad5 =>
 mLoad (cInt .i64) ad5 fun x6 =>
 mCallV (T := Bool) Tryz.prog (fun r => (Value.bool r)) a0.1 [(Value.int .i64 x6)] fun r7 =>
 mIf (!r7) (
 K ()
 ) (
 rec4 (iAdd .i64 s3 1)
 )
 ) (
 K ()
 )
 ) 0
def x_walk_told_1 : Cx Tryz.prog := ⟨tys, [], [], [], mixed⟩
def h_walk_told_1 : Hint := (.seq .d (.blk (.loop [.slot 8 (tInt .i64)] 130832 [] .d)))
def s_walk_told_1 : Spec Tryz.prog := mkSpec x_walk_told_1 105 Tryz.f105 [tPV, tAdr] [] false h_walk_told_1 (fun a => m_walk_told_1 a.1 a.2) (fun a K h => by kernel_rfl) callee105 rfl
def m_walk_told (a0 : PV) (K : (PV) → H → Prop) : H → Prop :=
 mNew 167 #[a0.1] fun ad1 =>
 K (⟨Value.func (.func 105) #[] #[(Value.pointer (some ad1))], rfl, rfl⟩ : PV)
def x_walk_told : Cx Tryz.prog := ⟨tys, [], [], [], mixed⟩
def h_walk_told : Hint := .d
def s_walk_told : Spec Tryz.prog := mkSpec x_walk_told 81 Tryz.f81 [tPV] [tPV] false h_walk_told (fun a => m_walk_told a) (fun a K h => by kernel_rfl) callee81 rfl
def m_walk_down (a0 : Option Addr) (a1 : Int) (a2 : Bool) (K : (Sl) → H → Prop) : H → Prop :=
 m_kin_Tree_Has a0 a1 fun r1 =>
 mIf (!r1) (
 K Sl.nil
 ) (
 mNew 3 #[(Value.int .i64 a1)] fun ad2 =>
 mLoop (fun (rec4 : (Sl × Sl) → H → Prop) (s3 : Sl × Sl) =>
 mIf (decide (0 < (s3.2.len : Int))) (
 mIdx s3.2 (iSub .i64 (s3.2.len : Int) 1) 1 fun ad5 =>
 mLoad (cInt .i64) ad5 fun x6 =>
 mCut s3.2 0 (iSub .i64 (s3.2.len : Int) 1) 1 fun s7 =>
 mApp 3 1 8 #[(Value.int .i64 0)] 1 [(Value.int .i64 x6)] s3.1 fun s8 =>
 m_kin_Tree_Children a0 x6 fun r9 =>
 mJoin (fun (_s10 : Unit) =>
 mAppend 3 1 8 #[(Value.int .i64 0)] s7 r9 fun s12 =>
 rec4 (s8, s12)
 ) (fun j11 =>
 mIf (!a2) (
 m_slices_Reverse_int_int r9 fun _ =>
 j11 ()
 ) (
 j11 ()
 )
 )
 ) (
 K s3.1
 )
 ) (Sl.nil, (⟨some ad2, 1, 1⟩ : Sl))
 )
def x_walk_down : Cx Tryz.prog := ⟨tys, [s_slices_Reverse_int_int, s_kin_Tree_Has, s_kin_Tree_Children], [33], [], mixed⟩
def h_walk_down : Hint := (.seq .d (.seq .d (.seq .d (.seq .d (.seq (.blk (.loop [.slot 7 tSl, .slot 8 tSl] 35184371830656 [] (.seq .d (.blk (.seq .d (.seq .d (.seq .d (.seq .d (.seq .d (.join [] 4123168604160 [] .d .d)))))))))) .d)))))
def s_walk_down : Spec Tryz.prog := mkSpec x_walk_down 83 Tryz.f83 [tPtr, (tInt .i64), tBool] [tSl] false h_walk_down (fun a => m_walk_down a.1 a.2.1 a.2.2) (fun a K h => by kernel_rfl) callee83 rfl
def m_walk_Down_1 (a0 : Addr) (a1 : Addr) (K : (Sl) → H → Prop) : H → Prop :=
 mLoad cPtr a0 fun x1 =>
 mLoad (cInt .i64) a1 fun x2 =>
 m_walk_down x1 x2 false fun r3 =>
 K r3
def x_walk_Down_1 : Cx Tryz.prog := ⟨tys, [s_walk_down], [], [], mixed⟩
def h_walk_Down_1 : Hint := .d
def s_walk_Down_1 : Spec Tryz.prog := mkSpec x_walk_Down_1 82 Tryz.f82 [tAdr, tAdr] [tSl] false h_walk_Down_1 (fun a => m_walk_Down_1 a.1 a.2) (fun a K h => by kernel_rfl) callee82 rfl
def m_walk_Down (a0 : Option Addr) (a1 : Int) (K : (PV) → H → Prop) : H → Prop :=
 mNew 107 #[(Value.pointer a0)] fun ad1 =>
 mNew 3 #[(Value.int .i64 a1)] fun ad2 =>
 m_walk_told (⟨Value.func (.func 82) #[] #[(Value.pointer (some ad1)), (Value.pointer (some ad2))], rfl, rfl⟩ : PV) fun r3 =>
 K r3
def x_walk_Down : Cx Tryz.prog := ⟨tys, [s_walk_told], [], [], mixed⟩
def h_walk_Down : Hint := .d
def s_walk_Down : Spec Tryz.prog := mkSpec x_walk_Down 53 Tryz.f53 [tPtr, (tInt .i64)] [tPV] false h_walk_Down (fun a => m_walk_Down a.1 a.2) (fun a K h => by kernel_rfl) callee53 rfl
def m_walk_Fall (a0 : Option Addr) (a1 : Int) (K : (Sl) → H → Prop) : H → Prop :=
 m_walk_down a0 a1 true fun r1 =>
 m_slices_Reverse_int_int r1 fun _ =>
 K r1
def x_walk_Fall : Cx Tryz.prog := ⟨tys, [s_walk_down, s_slices_Reverse_int_int], [], [], mixed⟩
def h_walk_Fall : Hint := .d
def s_walk_Fall : Spec Tryz.prog := mkSpec x_walk_Fall 54 Tryz.f54 [tPtr, (tInt .i64)] [tSl] false h_walk_Fall (fun a => m_walk_Fall a.1 a.2) (fun a K h => by kernel_rfl) callee54 rfl
end Go.Proofs.YtdleanjofhghnaaGreatDoor.K
namespace Go.Proofs.YtdleanjofhghnaaGreatDoor.K
theorem nodup_rev {l : List Int} (h : l.Nodup) : l.reverse.Nodup := (List.Perm.nodup_iff (List.reverse_perm l)).2 h
inductive PreL (ch : Int → List Int) : List Int → List Int → Prop
  | nil : PreL ch [] []
  | cons {x : Int} {ys l L : List Int} : PreL ch (ch x) l → PreL ch ys L → PreL ch (x :: ys) (x :: (l ++ L))
inductive PostL (ch : Int → List Int) : List Int → List Int → Prop
  | nil : PostL ch [] []
  | cons {x : Int} {ys l L : List Int} : PostL ch (ch x) l → PostL ch ys L → PostL ch (x :: ys) (l ++ x :: L)
inductive Desc (ch : Int → List Int) (x : Int) : Int → Prop
  | refl : Desc ch x x
  | snoc {y z : Int} : Desc ch x y → z ∈ ch y → Desc ch x z
section
variable {ch : Int → List Int}
theorem PreL.append {a la b lb : List Int} (x : PreL ch a la) (y : PreL ch b lb) : PreL ch (a ++ b) (la ++ lb) := by
  induction x with
  | nil => exact y
  | cons p q ih1 ih2 => rw [List.cons_append, List.cons_append, List.append_assoc]; exact .cons p ih2
theorem PostL.append {a la b lb : List Int} (x : PostL ch a la) (y : PostL ch b lb) : PostL ch (a ++ b) (la ++ lb) := by
  induction x with
  | nil => exact y
  | cons p q ih1 ih2 => rw [List.cons_append, List.append_assoc, List.cons_append]; exact .cons p ih2
theorem PreL.inj {a l : List Int} (x : PreL ch a l) : ∀ {m : List Int}, PreL ch a m → l = m := by
  induction x with
  | nil => intro m y; cases y; rfl
  | cons p q ih1 ih2 =>
    intro m y
    cases y with
    | cons p' q' => rw [ih1 p', ih2 q']
theorem PreL.le {a l : List Int} (x : PreL ch a l) : a.length ≤ l.length := by
  induction x with
  | nil => exact Nat.le_refl _
  | cons p q ih1 ih2 => simp only [List.length_cons, List.length_append]; omega
theorem PreL.mirror {a l : List Int} (x : PreL (fun z => (ch z).reverse) a l) : PostL ch a.reverse l.reverse := by
  induction x with
  | nil => exact .nil
  | @cons z ys l L p q ih1 ih2 =>
    rw [List.reverse_cons, List.reverse_cons, List.reverse_append, List.append_assoc]
    refine ih2.append ?_
    rw [List.reverse_reverse] at ih1
    exact .cons ih1 .nil
theorem Desc.cons {x y z : Int} (hy : y ∈ ch x) (d : Desc ch y z) : Desc ch x z := by
  induction d with
  | refl => exact .snoc .refl hy
  | snoc _ h ih => exact .snoc ih h
theorem Desc.head {x z : Int} (d : Desc ch x z) : z = x ∨ ∃ y, y ∈ ch x ∧ Desc ch y z := by
  induction d with
  | refl => exact .inl rfl
  | snoc d h ih =>
    rcases ih with rfl | ⟨y, hy, e⟩
    · exact .inr ⟨_, h, .refl⟩
    · exact .inr ⟨y, hy, .snoc e h⟩
theorem Desc.trans {x y z : Int} (a : Desc ch x y) (b : Desc ch y z) : Desc ch x z := by
  induction b with
  | refl => exact a
  | snoc _ h ih => exact .snoc ih h
theorem PreL.mem {a l : List Int} (x : PreL ch a l) {z : Int} : z ∈ l ↔ ∃ r, r ∈ a ∧ Desc ch r z := by
  induction x with
  | nil => simp
  | @cons y ys l L p q ih1 ih2 =>
    rw [List.mem_cons, List.mem_append, ih1, ih2]
    constructor
    · rintro (rfl | ⟨r, hr, d⟩ | ⟨r, hr, d⟩)
      · exact ⟨z, List.mem_cons_self .., .refl⟩
      · exact ⟨y, List.mem_cons_self .., d.cons hr⟩
      · exact ⟨r, List.mem_cons_of_mem _ hr, d⟩
    · rintro ⟨r, hr, d⟩
      rcases List.mem_cons.1 hr with rfl | hr
      · rcases d.head with e | ⟨w, hw, e⟩
        · exact .inl e
        · exact .inr (.inl ⟨w, hw, e⟩)
      · exact .inr (.inr ⟨r, hr, d⟩)
theorem PostL.mem {a l : List Int} (x : PostL ch a l) {z : Int} : z ∈ l ↔ ∃ r, r ∈ a ∧ Desc ch r z := by
  induction x with
  | nil => simp
  | @cons y ys l L p q ih1 ih2 =>
    rw [List.mem_append, List.mem_cons, ih1, ih2]
    constructor
    · rintro (⟨r, hr, d⟩ | rfl | ⟨r, hr, d⟩)
      · exact ⟨y, List.mem_cons_self .., d.cons hr⟩
      · exact ⟨z, List.mem_cons_self .., .refl⟩
      · exact ⟨r, List.mem_cons_of_mem _ hr, d⟩
    · rintro ⟨r, hr, d⟩
      rcases List.mem_cons.1 hr with rfl | hr
      · rcases d.head with e | ⟨w, hw, e⟩
        · exact .inr (.inl e)
        · exact .inl ⟨w, hw, e⟩
      · exact .inr (.inr ⟨r, hr, d⟩)
theorem PreL.behind {a l : List Int} (x : PreL ch a l) : ∀ {i : Nat} {z : Int}, l[i]? = some z → z ∈ a ∨ ∃ y, y ∈ l.take i ∧ z ∈ ch y := by
  induction x with
  | nil => intro i z e; simp at e
  | @cons y ys l L p q ih1 ih2 =>
    intro i z e
    cases i with
    | zero => simp at e; subst e; exact .inl (List.mem_cons_self ..)
    | succ i =>
      rw [List.getElem?_cons_succ, List.getElem?_append] at e
      rw [List.take_succ_cons]
      split at e
      · rename_i hi
        rcases ih1 e with r | ⟨w, hw, hz⟩
        · exact .inr ⟨y, List.mem_cons_self .., r⟩
        · refine .inr ⟨w, List.mem_cons_of_mem _ ?_, hz⟩
          rw [List.take_append]
          exact List.mem_append_left _ hw
      · rename_i hi
        rcases ih2 e with r | ⟨w, hw, hz⟩
        · exact .inl (List.mem_cons_of_mem _ r)
        · refine .inr ⟨w, List.mem_cons_of_mem _ ?_, hz⟩
          rw [List.take_append]
          exact List.mem_append_right _ hw
theorem PostL.behind {a l : List Int} (x : PostL ch a l) : ∀ {i : Nat} {z : Int}, l[i]? = some z → ∀ y, y ∈ ch z → y ∈ l.take i := by
  induction x with
  | nil => intro i z e; simp at e
  | @cons w ys l L p q ih1 ih2 =>
    intro i z e y hy
    rw [List.getElem?_append] at e
    rw [List.take_append]
    split at e
    · exact List.mem_append_left _ (ih1 e y hy)
    · rename_i hi
      have hl : l.length ≤ i := by omega
      cases hk : i - l.length with
      | zero =>
        rw [hk] at e; simp at e; subst e
        rw [List.take_of_length_le hl]
        exact List.mem_append_left _ (p.mem.2 ⟨y, hy, .refl⟩)
      | succ k =>
        rw [hk, List.getElem?_cons_succ] at e
        rw [List.take_succ_cons]
        exact List.mem_append_right _ (List.mem_cons_of_mem _ (ih2 e y hy))
structure Forest (ch : Int → List Int) : Prop where
  uniq : ∀ x y z, z ∈ ch x → z ∈ ch y → x = y
  nd : ∀ x, (ch x).Nodup
  rank : ∃ (w : Int → Nat) (B : Nat), ∀ x y, y ∈ ch x → w x < w y ∧ w y ≤ B
theorem Forest.mirror (f : Forest ch) : Forest (fun z => (ch z).reverse) :=
  ⟨fun x y z a b => f.uniq x y z (List.mem_reverse.1 a) (List.mem_reverse.1 b), fun x => nodup_rev (f.nd x), by obtain ⟨w, B, h⟩ := f.rank; exact ⟨w, B, fun x y e => h x y (List.mem_reverse.1 e)⟩⟩
theorem Forest.comp (f : Forest ch) {a z : Int} (x : Desc ch a z) : ∀ {b : Int}, Desc ch b z → Desc ch a b ∨ Desc ch b a := by
  induction x with
  | refl => exact fun y => .inr y
  | @snoc y z d h ih =>
    intro b e
    cases e with
    | refl => exact .inl (.snoc d h)
    | snoc d' h' =>
      obtain rfl := f.uniq _ _ _ h h'
      exact ih d'
theorem Forest.acyc (f : Forest ch) {x y : Int} (hy : y ∈ ch x) (d : Desc ch y x) : False := by
  obtain ⟨w, B, hw⟩ := f.rank
  have le : ∀ {a b}, Desc ch a b → w a ≤ w b := fun d => by
    induction d with
    | refl => exact Nat.le_refl _
    | snoc _ h ih => have := (hw _ _ h).1; omega
  have := le d
  have := (hw _ _ hy).1
  omega
theorem Forest.kids (f : Forest ch) {x a b : Int} (ha : a ∈ ch x) (hb : b ∈ ch x) (d : Desc ch a b) : a = b := by
  cases d with
  | refl => rfl
  | snoc d h =>
    obtain rfl := f.uniq _ _ _ h hb
    exact (f.acyc ha d).elim
theorem PreL.nodup (f : Forest ch) {a l : List Int} (x : PreL ch a l) (hn : a.Nodup) (ha : ∀ p q, p ∈ a → q ∈ a → Desc ch p q → p = q) : l.Nodup := by
  induction x with
  | nil => exact List.nodup_nil
  | @cons y ys l L p q ih1 ih2 =>
    rw [List.nodup_cons] at hn
    have h1 := ih1 (f.nd y) fun a b ha hb d => f.kids ha hb d
    have h2 := ih2 hn.2 fun a b pa pb d => ha a b (List.mem_cons_of_mem _ pa) (List.mem_cons_of_mem _ pb) d
    rw [List.nodup_cons, List.mem_append, List.nodup_append]
    refine ⟨fun e => ?_, h1, h2, fun z hz z' hz' e => ?_⟩
    · rcases e with e | e
      · obtain ⟨r, hr, d⟩ := p.mem.1 e
        exact f.acyc hr d
      · obtain ⟨r, hr, d⟩ := q.mem.1 e
        have := ha r y (List.mem_cons_of_mem _ hr) (List.mem_cons_self ..) d
        exact hn.1 (this ▸ hr)
    · subst e
      obtain ⟨r, hr, d⟩ := p.mem.1 hz
      obtain ⟨r', hr', d'⟩ := q.mem.1 hz'
      have dy : Desc ch y z := d.cons hr
      rcases f.comp (b := r') dy d' with c | c
      · have := ha y r' (List.mem_cons_self ..) (List.mem_cons_of_mem _ hr') c
        exact hn.1 (this ▸ hr')
      · have := ha r' y (List.mem_cons_of_mem _ hr') (List.mem_cons_self ..) c
        exact hn.1 (this ▸ hr')
theorem PreL.nodup1 (f : Forest ch) {n : Int} {l : List Int} (x : PreL ch [n] l) : l.Nodup := x.nodup f (by simp) fun p q hp hq _ => (List.mem_singleton.1 hp).trans (List.mem_singleton.1 hq).symm
theorem PreL.ex (f : Forest ch) : ∀ a, ∃ l, PreL ch a l := by
  obtain ⟨w, B, hw⟩ := f.rank
  have main : ∀ k, ∀ a : List Int, (∀ x ∈ a, B + 1 - w x < k) → ∃ l, PreL ch a l := by
    intro k
    induction k with
    | zero =>
      intro a ha
      cases a with
      | nil => exact ⟨[], .nil⟩
      | cons x r => exact absurd (ha x (List.mem_cons_self ..)) (Nat.not_lt_zero _)
    | succ k ih =>
      intro a
      induction a with
      | nil => exact fun _ => ⟨[], .nil⟩
      | cons x r ihr =>
        intro ha
        obtain ⟨L, hL⟩ := ihr fun y hy => ha y (List.mem_cons_of_mem _ hy)
        obtain ⟨l, hl⟩ := ih (ch x) fun y hy => by
          obtain ⟨h1, h2⟩ := hw x y hy
          have := ha x (List.mem_cons_self ..)
          omega
        exact ⟨_, .cons hl hL⟩
  exact fun a => main (B + 2) a fun x _ => by omega
theorem PreL.post (f : Forest ch) {n : Int} {l : List Int} (x : PreL ch [n] l) : ∃ m, PreL (fun z => (ch z).reverse) [n] m ∧ PostL ch [n] m.reverse ∧ m.reverse.Perm l := by
  obtain ⟨m, hm⟩ := PreL.ex f.mirror [n]
  refine ⟨m, hm, hm.mirror, ?_⟩
  refine (List.perm_ext_iff_of_nodup (nodup_rev (hm.nodup1 f.mirror)) (x.nodup1 f)).2 fun z => ?_
  rw [hm.mirror.mem, x.mem]
  exact Iff.rfl
end
end Go.Proofs.YtdleanjofhghnaaGreatDoor.K
namespace Go.Proofs.YtdleanjofhghnaaGreatDoor.K
open Go
structure Nd where
  there : Bool
  parent : Int
  kids : List Int
def nd0 : Nd := ⟨false, 0, []⟩
theorem kn_len : ∀ x, (S_kin_node.cells x).length = 3 := fun _ => rfl
structure TreeAt (h : H) (p : Nat) (s : Sl) (vs : List S_kin_node) (ns : List Nd) : Prop where
  cell : h p = some (.cells (S_kin_Tree.cells ⟨s⟩).toArray N_kin_Tree (0, 0))
  buf : Buf S_kin_node.cells 3 N_kin_node h s vs
  len : vs.length = ns.length
  big : ns.length ≤ 256
  nd : ∀ (i : Nat) v n, vs[i]? = some v → ns[i]? = some n → v.xthere = n.there ∧ v.xparent = n.parent ∧ Buf (cInt .i64) 1 N_int h v.xchildren n.kids
  apart : ∀ (i j : Nat) v w, vs[i]? = some v → vs[j]? = some w → i ≠ j → ∀ c, v.xchildren.foot c → ¬ w.xchildren.foot c
def TFoot (p : Nat) (s : Sl) (vs : List S_kin_node) (c : Nat) : Prop := c = p ∨ s.foot c ∨ ∃ v ∈ vs, v.xchildren.foot c
structure Tree (h : H) (p : Nat) (s : Sl) (F : Nat → Prop) (ns : List Nd) : Prop where
  ex : ∃ vs, TreeAt h p s vs ns ∧ ∀ c, F c ↔ TFoot p s vs c
def hasN (ns : List Nd) (i : Int) : Bool := decide (0 ≤ i) && ((ns[i.toNat]?.map Nd.there).getD false)
theorem hasN_iff {ns : List Nd} {i : Nat} : hasN ns (i : Int) = true ↔ ∃ n, ns[i]? = some n ∧ n.there = true := by
  unfold hasN
  rw [decide_eq_true (by omega : (0 : Int) ≤ (i : Int)), Bool.true_and, Int.toNat_natCast]
  cases ns[i]? with
  | none => simp
  | some n => simp
section
variable {h : H} {p : Nat} {s : Sl} {F : Nat → Prop} {vs : List S_kin_node} {ns : List Nd}
theorem TreeAt.apartP (x : TreeAt h p s vs ns) : ¬ s.foot p := fun f => (x.buf.typed f).ne (Typed.of x.cell) (by decide) rfl
theorem TreeAt.kidT (x : TreeAt h p s vs ns) {i : Nat} {v : S_kin_node} (e : vs[i]? = some v) {c : Nat} (f : v.xchildren.foot c) : Typed h N_int c := by
  obtain ⟨n, hn⟩ : ∃ n, ns[i]? = some n := ⟨_, List.getElem?_eq_getElem (by have := lt_of_get e; have := x.len; omega)⟩
  exact (x.nd i v n e hn).2.2.typed f
theorem TreeAt.keep {h' : H} (x : TreeAt h p s vs ns) (k : Keeps h h') : TreeAt h' p s vs ns :=
  ⟨k _ _ x.cell, x.buf.keep k, x.len, x.big, fun i v n e e' => by obtain ⟨a, b, c⟩ := x.nd i v n e e'; exact ⟨a, b, c.keep k⟩, x.apart⟩
theorem Tree.keep {h' : H} (x : Tree h p s F ns) (k : Keeps h h') : Tree h' p s F ns := by
  obtain ⟨vs, a, b⟩ := x.ex
  exact ⟨vs, a.keep k, b⟩
theorem TreeAt.typed (x : TreeAt h p s vs ns) {c : Nat} (f : TFoot p s vs c) : Typed h N_kin_Tree c ∨ Typed h N_kin_node c ∨ Typed h N_int c := by
  rcases f with rfl | f | ⟨v, hv, f⟩
  · exact .inl (Typed.of x.cell)
  · exact .inr (.inl (x.buf.typed f))
  · obtain ⟨i, hi⟩ := List.mem_iff_getElem?.1 hv
    exact .inr (.inr (x.kidT hi f))
theorem Tree.typed (x : Tree h p s F ns) {c : Nat} (f : F c) : Typed h N_kin_Tree c ∨ Typed h N_kin_node c ∨ Typed h N_int c := by
  obtain ⟨vs, a, b⟩ := x.ex
  exact a.typed ((b c).1 f)
theorem Tree.but {h' : H} {G : Nat → Prop} (x : Tree h p s F ns) (k : But G h h') (f : ∀ c, G c → ¬ F c) : Tree h' p s F ns := by
  obtain ⟨vs, a, b⟩ := x.ex
  refine ⟨vs, ⟨k _ _ a.cell fun q => f _ q ((b _).2 (.inl rfl)), a.buf.but k fun z hz q => f _ q ((b _).2 (.inr (.inl ⟨z, hz, rfl⟩))), a.len, a.big, fun i v n e e' => ?_, a.apart⟩, b⟩
  obtain ⟨p1, p2, p3⟩ := a.nd i v n e e'
  exact ⟨p1, p2, p3.but k fun z hz q => f _ q ((b _).2 (.inr (.inr ⟨v, List.mem_of_getElem? e, z, hz, rfl⟩)))⟩
theorem TreeAt.f0 (x : TreeAt h p s vs ns) : At h ((⟨p, 0, none⟩ : Addr).add 0) (cSl s) := At.own (l1 := []) (l3 := []) x.cell rfl
theorem t_number (x : TreeAt h p s vs ns) {i : Int} {K : Bool → H → Prop} (y : K (decide (0 ≤ i ∧ i < (ns.length : Int))) h) : m_kin_Tree_number (some ⟨p, 0, none⟩) i K h := by
  unfold m_kin_Tree_number
  have hl := x.buf.len
  have := x.len
  refine w_if' (fun c => w_deref (w_load x.f0 ?_)) fun c => ?_
  · have e : decide (i < (s.len : Int)) = decide (0 ≤ i ∧ i < (ns.length : Int)) := by rw [Bool.eq_iff_iff, decide_eq_true_eq, decide_eq_true_eq]; omega
    rw [e]; exact y
  · rw [decide_eq_false (by omega)] at y; exact y
theorem t_HasA (x : TreeAt h p s vs ns) {i : Int} {K : Bool → H → Prop} (y : K (hasN ns i) h) : m_kin_Tree_Has (some ⟨p, 0, none⟩) i K h := by
  unfold m_kin_Tree_Has
  refine t_number x (w_if' (fun c => w_deref (w_load x.f0 ?_)) fun c => ?_)
  · obtain ⟨k, rfl⟩ : ∃ k : Nat, i = k := ⟨i.toNat, by omega⟩
    have hk : k < ns.length := by omega
    obtain ⟨v, hv⟩ : ∃ v, vs[k]? = some v := ⟨_, List.getElem?_eq_getElem (by have := x.len; omega)⟩
    have hn := List.getElem?_eq_getElem hk
    refine w_field kn_len x.buf.arr hv rfl (v' := v.xthere) (cells' := cBool) (l1 := []) (l3 := (S_kin_node.cells v).drop 1) rfl rfl ?_
    have e : hasN ns (k : Int) = ns[k].there := by unfold hasN; rw [Int.toNat_natCast, hn]; simp
    rw [(x.nd k _ _ hv hn).1, ← e]; exact y
  · have e : hasN ns i = false := by
      unfold hasN
      by_cases q : 0 ≤ i
      · rw [List.getElem?_eq_none (by omega)]; simp
      · rw [decide_eq_false q]; rfl
    rw [e] at y; exact y
theorem t_Has (x : Tree h p s F ns) {i : Int} {K : Bool → H → Prop} (y : K (hasN ns i) h) : m_kin_Tree_Has (some ⟨p, 0, none⟩) i K h := by
  obtain ⟨vs, a, _⟩ := x.ex
  exact t_HasA a y
theorem t_at (x : TreeAt h p s vs ns) {i : Nat} {v : S_kin_node} (e : vs[i]? = some v) {K : Option Addr → H → Prop} (y : ∀ a, isIdx s (i : Int) 3 a → At h a (S_kin_node.cells v) → K (some a) h) : m_kin_Tree_at (some ⟨p, 0, none⟩) (i : Int) K h := by
  unfold m_kin_Tree_at
  exact w_deref (w_load x.f0 (w_idx kn_len x.buf.arr e rfl fun a ia ha => y a ia ha))
theorem cv_at (x : TreeAt h p s vs ns) {i : Nat} {v : S_kin_node} (e : vs[i]? = some v) {k : Option Addr → H → Prop} (y : ∀ a, isIdx s (i : Int) 3 a → At h a (S_kin_node.cells v) → k (some a) h) :
    mCallV (T := Option Addr) Tryz.prog (fun r => Value.pointer r) (.func (.func s_kin_Tree_at.f) #[.pointer (some ⟨p, 0, none⟩)] #[]) [.int .i64 (i : Int)] k h :=
  callV_of s_kin_Tree_at (first := #[.pointer (some ⟨p, 0, none⟩)]) (cap := #[]) (args := [.int .i64 (i : Int)]) (some ⟨p, 0, none⟩, (i : Int)) rfl (t_at x e y)
theorem TreeAt.node (x : TreeAt h p s vs ns) {i : Nat} {v v' : S_kin_node} {n' : Nd} (e : vs[i]? = some v) {h' : H} (bu : Buf S_kin_node.cells 3 N_kin_node h' s (vs.set i v')) (k : But s.foot h h') (b' : Buf (cInt .i64) 1 N_int h v'.xchildren n'.kids) (q : v'.xthere = n'.there ∧ v'.xparent = n'.parent)
    (fr : ∀ c, v'.xchildren.foot c → v.xchildren.foot c ∨ ∀ (j : Nat) (w : S_kin_node), vs[j]? = some w → ¬ w.xchildren.foot c) (ns' : List Nd) (hns : ns' = ns.set i n') : TreeAt h' p s (vs.set i v') ns' := by
  subst hns
  have hi := lt_of_get e
  have noS : ∀ {b : Sl} {l : List Int}, Buf (cInt .i64) 1 N_int h b l → ∀ a, b.a = some a → ¬ s.foot a.block := fun bb a ha f => (x.buf.typed f).ne (bb.typed ⟨a, ha, rfl⟩) (by decide) rfl
  refine ⟨k _ _ x.cell x.apartP, bu, by rw [List.length_set, List.length_set]; exact x.len, by rw [List.length_set]; exact x.big, fun j w m ew em => ?_, fun a b w u ew eu hne c fw fu => ?_⟩
  · rw [List.getElem?_set] at ew em
    by_cases z : i = j
    · rw [if_pos z] at ew em
      rw [if_pos hi] at ew
      rw [if_pos (by have := x.len; omega)] at em
      cases ew; cases em
      exact ⟨q.1, q.2, b'.but k (noS b')⟩
    · rw [if_neg z] at ew em
      obtain ⟨p1, p2, p3⟩ := x.nd j w m ew em
      exact ⟨p1, p2, p3.but k (noS p3)⟩
  · rw [List.getElem?_set] at ew eu
    by_cases z1 : i = a
    · rw [if_pos z1, if_pos hi] at ew
      have z2 : i ≠ b := fun q => hne (z1.symm.trans q)
      rw [if_neg z2] at eu
      cases ew
      rcases fr c fw with g | g
      · exact x.apart i b v u e eu z2 c g fu
      · exact g b u eu fu
    · rw [if_neg z1] at ew
      by_cases z2 : i = b
      · rw [if_pos z2, if_pos hi] at eu
        cases eu
        rcases fr c fu with g | g
        · exact x.apart i a v w e ew z1 c g fw
        · exact g a w ew fw
      · rw [if_neg z2] at eu
        exact x.apart a b w u ew eu hne c fw fu
end
def rootN (ns : List Nd) (n : Nat) : List Nd := ns.set n ⟨true, -1, []⟩
def childN (ns : List Nd) (q n : Nat) : List Nd := match ns[q]? with
  | some d => (ns.set n ⟨true, (q : Int), []⟩).set q { d with kids := d.kids ++ [(n : Int)] }
  | none => ns
section
variable {h : H} {p : Nat} {s : Sl} {F : Nat → Prop} {vs : List S_kin_node} {ns : List Nd}
theorem foot_at {s : Sl} {i : Int} {sz : Nat} {a : Addr} (x : isIdx s i sz a) : s.foot a.block := by
  obtain ⟨a0, h0, _, _, rfl⟩ := x
  exact ⟨a0, h0, (add_block _ _).symm⟩
theorem t_KRoot (x : Tree h p s F ns) {n : Nat} (hn : n < ns.length) (no : hasN ns (n : Int) = false) {K : Int → H → Prop} (y : ∀ h' F', Tree h' p s F' (rootN ns n) → KChg F F' h h' → K 0 h') : m_kin_Tree_Root (some ⟨p, 0, none⟩) (n : Int) K h := by
  obtain ⟨vs, a, b⟩ := x.ex
  unfold m_kin_Tree_Root m_kin_Tree_add
  refine t_number a ?_
  rw [show decide (0 ≤ (n : Int) ∧ (n : Int) < (ns.length : Int)) = true from decide_eq_true (by omega)]
  refine w_ifF rfl (t_HasA a ?_)
  rw [no]
  refine w_ifF rfl ?_
  obtain ⟨v, hv⟩ : ∃ v, vs[n]? = some v := ⟨_, List.getElem?_eq_getElem (by have := a.len; omega)⟩
  refine cv_at a hv fun ad ia ha => w_deref ?_
  refine w_set kn_len a.buf hv ia (v' := ⟨true, -1, Sl.nil⟩) (c1 := []) (c2 := S_kin_node.cells v) (c3 := []) (by simp) (by rfl) (by rfl) (add_zero ad).symm fun h2 b2 k2 d2 => w_ifF rfl ?_
  have x2 := a.node (n' := ⟨true, -1, []⟩) hv b2 k2 Buf.nil ⟨rfl, rfl⟩ (fun c ⟨z, hz, _⟩ => by cases hz) _ rfl
  refine y h2 _ ⟨_, x2, fun c => Iff.rfl⟩ ⟨k2.mono fun c f => (b c).2 (.inr (.inl f)), fun c f => .inl ((b c).2 ?_), d2⟩
  rcases f with f | f | ⟨w, hw, f⟩
  · exact .inl f
  · exact .inr (.inl f)
  · rcases List.mem_or_eq_of_mem_set hw with q | q
    · exact .inr (.inr ⟨w, q, f⟩)
    · subst q; obtain ⟨z, hz, _⟩ := f; cases hz
theorem t_KChild (x : Tree h p s F ns) {q n : Nat} (hn : n < ns.length) (no : hasN ns (n : Int) = false) (hq : hasN ns (q : Int) = true) (hk : ∀ d, ns[q]? = some d → d.kids.length ≤ 256) {K : Int → H → Prop} (y : ∀ h' F', Tree h' p s F' (childN ns q n) → KChg F F' h h' → K 0 h') : m_kin_Tree_Child (some ⟨p, 0, none⟩) (q : Int) (n : Int) K h := by
  obtain ⟨vs, a, b⟩ := x.ex
  obtain ⟨d, hd, dt⟩ := hasN_iff.1 hq
  have hne : n ≠ q := fun e => by subst e; rw [hq] at no; cases no
  unfold m_kin_Tree_Child m_kin_Tree_add
  refine t_number a ?_
  rw [show decide (0 ≤ (n : Int) ∧ (n : Int) < (ns.length : Int)) = true from decide_eq_true (by omega)]
  refine w_join (w_ifF rfl (t_HasA a ?_))
  rw [hq]
  refine w_ifF rfl (t_HasA a ?_)
  rw [no]
  refine w_ifF rfl ?_
  obtain ⟨v, hv⟩ : ∃ v, vs[n]? = some v := ⟨_, List.getElem?_eq_getElem (by have := a.len; omega)⟩
  refine cv_at a hv fun ad ia ha => w_deref ?_
  refine w_set kn_len a.buf hv ia (v' := ⟨true, (q : Int), Sl.nil⟩) (c1 := []) (c2 := S_kin_node.cells v) (c3 := []) (by simp) (by rfl) (by rfl) (add_zero ad).symm fun h2 b2 k2 d2 => w_ifT (by simp) ?_
  have x2 := a.node (n' := ⟨true, (q : Int), []⟩) hv b2 k2 Buf.nil ⟨rfl, rfl⟩ (fun c ⟨z, hz, _⟩ => by cases hz) _ rfl
  have hql := lt_of_get hd
  obtain ⟨vq, hvq⟩ : ∃ vq, (vs.set n ⟨true, (q : Int), Sl.nil⟩)[q]? = some vq := ⟨_, List.getElem?_eq_getElem (by rw [List.length_set, a.len]; exact hql)⟩
  have hvq0 : vs[q]? = some vq := by rw [List.getElem?_set, if_neg hne] at hvq; exact hvq
  have hnq : (ns.set n ⟨true, (q : Int), []⟩)[q]? = some d := by rw [List.getElem?_set, if_neg hne]; exact hd
  obtain ⟨e1, e2, bk⟩ := x2.nd q vq d hvq hnq
  refine cv_at x2 hvq fun aq iq haq => w_deref (w_load (v := vq.xchildren) (cells := cSl) (At.sub (l1 := (S_kin_node.cells vq).take 2) (l3 := []) haq rfl) ?_)
  have hkd := hk d hd
  refine w_app (by_ := 8) ci_len rfl bk [(n : Int)] rfl rfl (.inl (by simp only [List.length_singleton]; omega)) fun s3 h3 bu3 b3 f3 d3 => w_deref ?_
  have nS : ∀ c, vq.xchildren.foot c → ¬ s.foot c := fun c f g => (x2.buf.typed g).ne (x2.kidT hvq f) (by decide) rfl
  have buS : Buf S_kin_node.cells 3 N_kin_node h3 s (vs.set n ⟨true, (q : Int), Sl.nil⟩) := x2.buf.but b3 fun z hz f => nS _ f ⟨z, hz, rfl⟩
  have haq3 : At h3 aq (S_kin_node.cells vq) := haq.but b3 fun f => nS _ f (foot_at iq)
  refine w_set kn_len buS hvq iq (v' := ⟨vq.xthere, vq.xparent, s3⟩) (c1 := (S_kin_node.cells vq).take 2) (c2 := [Sl.val vq.xchildren]) (c3 := []) (by rfl) (by rfl) (by rfl) (by rfl) fun h4 b4 k4 d4 => ?_
  have k24 : But (fun c => vq.xchildren.foot c ∨ s.foot c) h2 h4 := (b3.mono fun _ f => .inl f).trans (k4.mono fun _ f => .inr f) fun _ f => .inl f
  have bu4 : Buf (cInt .i64) 1 N_int h4 s3 (d.kids ++ [(n : Int)]) := bu3.but k4 fun z hz f => (bu3.typed ⟨z, hz, rfl⟩).ne (buS.typed f) (by decide) rfl
  have hs3 : ∀ c, s3.foot c → vq.xchildren.foot c ∨ h2 c = none := f3
  have e0 : childN ns q n = (ns.set n ⟨true, (q : Int), []⟩).set q { d with kids := d.kids ++ [(n : Int)] } := by unfold childN; rw [hd]
  have x4 : TreeAt h4 p s ((vs.set n ⟨true, (q : Int), Sl.nil⟩).set q ⟨vq.xthere, vq.xparent, s3⟩) (childN ns q n) := by
    rw [e0]
    have lq : q < (vs.set n ⟨true, (q : Int), Sl.nil⟩).length := lt_of_get hvq
    refine ⟨k24 _ _ x2.cell fun f => f.elim (fun f => (x2.kidT hvq f).ne (Typed.of x2.cell) (by decide) rfl) x2.apartP, b4, by simp only [List.length_set]; exact a.len, by rw [List.length_set]; exact x2.big, fun j w m ew em => ?_, fun i j w u ew eu hij c fw fu => ?_⟩
    · rw [List.getElem?_set] at ew em
      by_cases z : q = j
      · rw [if_pos z, if_pos lq] at ew
        rw [if_pos z, if_pos (lt_of_get hnq)] at em
        cases ew; cases em
        exact ⟨e1, e2, bu4⟩
      · rw [if_neg z] at ew em
        obtain ⟨p1, p2, p3⟩ := x2.nd j w m ew em
        exact ⟨p1, p2, p3.but k24 fun z' hz f => f.elim (fun f => x2.apart q j vq w hvq ew z _ f ⟨z', hz, rfl⟩) fun f => (p3.typed ⟨z', hz, rfl⟩).ne (x2.buf.typed f) (by decide) rfl⟩
    · rw [List.getElem?_set] at ew eu
      have old : ∀ {i : Nat} {w : S_kin_node}, (vs.set n ⟨true, (q : Int), Sl.nil⟩)[i]? = some w → q ≠ i → ∀ c, s3.foot c → ¬ w.xchildren.foot c := fun {i w} ew z c f g => by
        rcases hs3 c f with r | r
        · exact x2.apart q i vq w hvq ew z c r g
        · exact (x2.kidT ew g).has r
      by_cases z1 : q = i
      · rw [if_pos z1, if_pos lq] at ew
        cases ew
        have z2 : q ≠ j := fun r => hij (z1.symm.trans r)
        rw [if_neg z2] at eu
        exact old eu z2 c fw fu
      · rw [if_neg z1] at ew
        by_cases z2 : q = j
        · rw [if_pos z2, if_pos lq] at eu
          cases eu
          exact old ew z1 c fu fw
        · rw [if_neg z2] at eu
          exact x2.apart i j w u ew eu hij c fw fu
  have kF : But F h h4 := (k2.mono fun c f => (b c).2 (.inr (.inl f))).trans k24 fun c f => .inl ((b c).2 (f.elim (fun f => .inr (.inr ⟨vq, List.mem_of_getElem? hvq0, f⟩)) fun f => .inr (.inl f)))
  have d24 : ∀ c, h4 c = none → h2 c = none := fun c e => d3 c (d4 c e)
  refine y h4 _ ⟨_, x4, fun c => Iff.rfl⟩ ⟨kF, fun c f => ?_, fun c e => d2 c (d24 c e)⟩
  rcases f with f | f | ⟨w, hw, f⟩
  · exact .inl ((b c).2 (.inl f))
  · exact .inl ((b c).2 (.inr (.inl f)))
  · rcases List.mem_or_eq_of_mem_set hw with r | r
    · rcases List.mem_or_eq_of_mem_set r with r | r
      · exact .inl ((b c).2 (.inr (.inr ⟨w, r, f⟩)))
      · subst r; obtain ⟨z, hz, _⟩ := f; cases hz
    · subst r
      rcases hs3 c f with g | g
      · exact .inl ((b c).2 (.inr (.inr ⟨vq, List.mem_of_getElem? hvq0, g⟩)))
      · exact .inr (d2 c g)
end
section
variable {h : H} {p : Nat} {s : Sl} {F : Nat → Prop} {vs : List S_kin_node} {ns : List Nd}
theorem TreeAt.setKids (x : TreeAt h p s vs ns) {q : Nat} {v : S_kin_node} {d : Nd} (hv : vs[q]? = some v) (hd : ns[q]? = some d) {h3 : H} {s3 : Sl} {ks : List Int} (b3 : But v.xchildren.foot h h3) (d3 : ∀ c, h3 c = none → h c = none) (bu3 : Buf (cInt .i64) 1 N_int h3 s3 ks) (f3 : ∀ c, s3.foot c → v.xchildren.foot c ∨ h c = none)
    {a : Addr} (ia : isIdx s (q : Int) 3 a) {k : H → Prop} (y : ∀ h4, TreeAt h4 p s (vs.set q ⟨v.xthere, v.xparent, s3⟩) (ns.set q ⟨d.there, d.parent, ks⟩) → But (fun c => v.xchildren.foot c ∨ s.foot c) h h4 → (∀ c, h4 c = none → h c = none) → k h4) : mStore (a.add 2) [Sl.val s3] k h3 := by
  obtain ⟨e1, e2, bk⟩ := x.nd q v d hv hd
  have nS : ∀ c, v.xchildren.foot c → ¬ s.foot c := fun c f g => (x.buf.typed g).ne (x.kidT hv f) (by decide) rfl
  have buS : Buf S_kin_node.cells 3 N_kin_node h3 s vs := x.buf.but b3 fun z hz f => nS _ f ⟨z, hz, rfl⟩
  refine w_set kn_len buS hv ia (v' := ⟨v.xthere, v.xparent, s3⟩) (c1 := (S_kin_node.cells v).take 2) (c2 := [Sl.val v.xchildren]) (c3 := []) (by rfl) (by rfl) (by rfl) (by rfl) fun h4 b4 k4 d4 => ?_
  have k24 : But (fun c => v.xchildren.foot c ∨ s.foot c) h h4 := (b3.mono fun _ f => .inl f).trans (k4.mono fun _ f => .inr f) fun _ f => .inl f
  have bu4 : Buf (cInt .i64) 1 N_int h4 s3 ks := bu3.but k4 fun z hz f => (bu3.typed ⟨z, hz, rfl⟩).ne (buS.typed f) (by decide) rfl
  have lq : q < vs.length := lt_of_get hv
  refine y h4 ⟨k24 _ _ x.cell fun f => f.elim (fun f => (x.kidT hv f).ne (Typed.of x.cell) (by decide) rfl) x.apartP, b4, by simp only [List.length_set]; exact x.len, by rw [List.length_set]; exact x.big, fun j w m ew em => ?_, fun i j w u ew eu hij c fw fu => ?_⟩ k24 fun c e => d3 c (d4 c e)
  · rw [List.getElem?_set] at ew em
    by_cases z : q = j
    · rw [if_pos z, if_pos lq] at ew
      rw [if_pos z, if_pos (lt_of_get hd)] at em
      cases ew; cases em
      exact ⟨e1, e2, bu4⟩
    · rw [if_neg z] at ew em
      obtain ⟨p1, p2, p3⟩ := x.nd j w m ew em
      exact ⟨p1, p2, p3.but k24 fun z' hz f => f.elim (fun f => x.apart q j v w hv ew z _ f ⟨z', hz, rfl⟩) fun f => (p3.typed ⟨z', hz, rfl⟩).ne (x.buf.typed f) (by decide) rfl⟩
  · rw [List.getElem?_set] at ew eu
    have old : ∀ {i : Nat} {w : S_kin_node}, vs[i]? = some w → q ≠ i → ∀ c, s3.foot c → ¬ w.xchildren.foot c := fun {i w} ew z c f g => by
      rcases f3 c f with r | r
      · exact x.apart q i v w hv ew z c r g
      · exact (x.kidT ew g).has r
    by_cases z1 : q = i
    · rw [if_pos z1, if_pos lq] at ew
      cases ew
      have z2 : q ≠ j := fun r => hij (z1.symm.trans r)
      rw [if_neg z2] at eu
      exact old eu z2 c fw fu
    · rw [if_neg z1] at ew
      by_cases z2 : q = j
      · rw [if_pos z2, if_pos lq] at eu
        cases eu
        exact old ew z1 c fu fw
      · rw [if_neg z2] at eu
        exact x.apart i j w u ew eu hij c fw fu
theorem t_KNew {n : Nat} (hn : n ≤ 256) {K : Option Addr × Int → H → Prop} (y : ∀ p s F h', Tree h' p s F (List.replicate n nd0) → Keeps h h' → (∀ c, F c → h c = none) → K (some ⟨p, 0, none⟩, 0) h') : m_kin_New (n : Int) K h := by
  unfold m_kin_New
  refine w_ifF (by simp; omega) (w_make kn_len ⟨false, 0, Sl.nil⟩ rfl rfl rfl (by omega) (by omega) fun s h1 bu k1 f1 _ => w_new fun p fp => ?_)
  refine y p s _ _ ⟨List.replicate n ⟨false, 0, Sl.nil⟩, ⟨upd_same _ _ _, bu.keep (.new fp), by simp, by rw [List.length_replicate]; exact hn, fun i v m e1 e2 => ?_, fun i j v w e1 _ _ c f => ?_⟩, fun c => Iff.rfl⟩ (k1.trans (.new fp)) fun c f => ?_
  · obtain rfl := List.eq_of_mem_replicate (List.mem_of_getElem? e1)
    obtain rfl := List.eq_of_mem_replicate (List.mem_of_getElem? e2)
    exact ⟨rfl, rfl, Buf.nil⟩
  · obtain rfl := List.eq_of_mem_replicate (List.mem_of_getElem? e1)
    obtain ⟨a, ha, _⟩ := f; cases ha
  · rcases f with rfl | f | ⟨v, hv, f⟩
    · exact k1.fresh fp
    · exact f1 c f
    · obtain rfl := List.eq_of_mem_replicate hv
      obtain ⟨a, ha, _⟩ := f; cases ha
theorem t_Kids (x : Tree h p s F ns) {i : Nat} {d : Nd} (hd : ns[i]? = some d) (ht : d.there = true) (hk : d.kids.length ≤ 2 ^ 40) {K : Sl → H → Prop} (y : ∀ s' h', Buf (cInt .i64) 1 N_int h' s' d.kids → Keeps h h' → (∀ c, s'.foot c → h c = none) → K s' h') : m_kin_Tree_Children (some ⟨p, 0, none⟩) (i : Int) K h := by
  obtain ⟨vs, a, b⟩ := x.ex
  unfold m_kin_Tree_Children
  refine t_HasA a ?_
  rw [show hasN ns (i : Int) = true from hasN_iff.2 ⟨d, hd, ht⟩]
  obtain ⟨v, hv⟩ : ∃ v, vs[i]? = some v := ⟨_, List.getElem?_eq_getElem (by have := a.len; have := lt_of_get hd; omega)⟩
  obtain ⟨e1, e2, bk⟩ := a.nd i v d hv hd
  refine w_ifF rfl (t_at a hv fun ad ia ha => w_deref (w_load (v := v.xchildren) (cells := cSl) (At.sub (l1 := (S_kin_node.cells v).take 2) (l3 := []) ha rfl) ?_))
  exact w_clone ci_len ci_plain rfl bk.arr (by omega) y
end
theorem erase_idx (m : Int) : ∀ l : List Int, l.eraseIdx (l.idxOf m) = l.erase m := by
  intro l
  induction l with
  | nil => rfl
  | cons a r ih =>
    rw [List.idxOf_cons, List.erase_cons]
    by_cases e : a = m
    · subst e; simp
    · have : (a == m) = false := by simpa using e
      simp [this, ih]
def cutN (ns : List Nd) (m : Nat) : List Nd := match ns[m]? with
  | none => ns
  | some d => if d.parent < 0 then ns.set m nd0 else match ns[d.parent.toNat]? with
    | none => ns
    | some dq => (ns.set d.parent.toNat ⟨dq.there, dq.parent, dq.kids.erase (m : Int)⟩).set m nd0
section
variable {h : H} {p : Nat} {s : Sl} {F : Nat → Prop} {vs : List S_kin_node} {ns : List Nd}
theorem t_KCut (x : Tree h p s F ns) {m : Nat} {d : Nd} (hd : ns[m]? = some d) (ht : d.there = true) (h0 : d.kids = []) (hq : 0 ≤ d.parent → d.parent.toNat ≠ m ∧ ∃ dq, ns[d.parent.toNat]? = some dq ∧ (m : Int) ∈ dq.kids ∧ dq.kids.length ≤ 256)
    {K : Int → H → Prop} (y : ∀ h' F', Tree h' p s F' (cutN ns m) → KChg F F' h h' → K 0 h') : m_kin_Tree_Cut (some ⟨p, 0, none⟩) (m : Int) K h := by
  obtain ⟨vs, a, b⟩ := x.ex
  unfold m_kin_Tree_Cut
  refine t_HasA a ?_
  rw [show hasN ns (m : Int) = true from hasN_iff.2 ⟨d, hd, ht⟩]
  obtain ⟨v, hv⟩ : ∃ v, vs[m]? = some v := ⟨_, List.getElem?_eq_getElem (by have := a.len; have := lt_of_get hd; omega)⟩
  obtain ⟨e1, e2, bk⟩ := a.nd m v d hv hd
  refine w_ifF rfl (cv_at a hv fun ad ia ha => w_deref (w_load (v := v.xchildren) (cells := cSl) (At.sub (l1 := (S_kin_node.cells v).take 2) (l3 := []) ha rfl) ?_))
  have hl0 : v.xchildren.len = 0 := by have := bk.len; rw [h0] at this; exact this
  refine w_ifF (by rw [hl0]; rfl) ?_
  refine w_joinP (fun _ h1 => ∃ vs1 ns1, TreeAt h1 p s vs1 ns1 ∧ vs1[m]? = some v ∧ ns1.set m nd0 = cutN ns m ∧ But F h h1 ∧ (∀ c, TFoot p s vs1 c → F c) ∧ ∀ c, h1 c = none → h c = none) (fun j hj => ?_) ?_
  · refine cv_at a hv fun ad1 ia1' ha1 => w_deref (w_load (v := v.xparent) (cells := cInt .i64) (At.sub (l1 := (S_kin_node.cells v).take 1) (l3 := (S_kin_node.cells v).drop 2) ha1 rfl) (w_if' (fun c => ?_) fun c => ?_))
    · have c : 0 ≤ d.parent := by rw [← e2]; exact c
      obtain ⟨hne, dq, hdq, hmem, hlen⟩ := hq c
      clear hq
      generalize hqd : d.parent.toNat = q at *
      have ep : v.xparent = (q : Int) := by rw [e2]; omega
      rw [ep]
      obtain ⟨vq, hvq⟩ : ∃ vq, vs[q]? = some vq := ⟨_, List.getElem?_eq_getElem (by have := a.len; have := lt_of_get hdq; omega)⟩
      obtain ⟨g1, g2, bq⟩ := a.nd q vq dq hvq hdq
      refine cv_at a hvq fun aq iq haq => w_deref ?_
      have lkid : At h (aq.add 2) (cSl vq.xchildren) := At.sub (l1 := (S_kin_node.cells vq).take 2) (l3 := []) haq rfl
      refine w_load lkid ?_
      unfold m_slices_Index_int_int
      refine w_index bq.arr (by omega) hmem (w_deref (w_load lkid ?_))
      unfold m_slices_Delete_int_int
      have hix := List.idxOf_lt_length_of_mem hmem
      refine w_delete (by_ := 8) (k := fun r18 => mDeref (some aq) fun ad19 => mStore (ad19.add 2) [Sl.val r18] (j ())) ci_len ci_plain 0 rfl bq hix (by omega) rfl ?_ ?_
      · rw [iAdd_eq (by omega) (by omega)]; omega
      intro s3 h3 bu3 f3 b3 d3
      refine w_deref ?_
      rw [erase_idx] at bu3
      refine a.setKids hvq hdq b3 d3 bu3 (fun c f => .inl (f3 c f)) iq fun h4 x4 b4 d4 => ?_
      refine hj _ _ ⟨_, _, x4, by rw [List.getElem?_set, if_neg hne]; exact hv, ?_, b4.mono fun c f => (b c).2 (f.elim (fun f => .inr (.inr ⟨vq, List.mem_of_getElem? hvq, f⟩)) fun f => .inr (.inl f)), fun c f => (b c).2 ?_, d4⟩
      · unfold cutN
        rw [hd]
        simp only
        rw [if_neg (by omega), hqd, hdq]
      · rcases f with f | f | ⟨w, hw, f⟩
        · exact .inl f
        · exact .inr (.inl f)
        · rcases List.mem_or_eq_of_mem_set hw with r | r
          · exact .inr (.inr ⟨w, r, f⟩)
          · subst r; exact .inr (.inr ⟨vq, List.mem_of_getElem? hvq, f3 c f⟩)
    · have c : ¬ 0 ≤ d.parent := by rw [← e2]; exact c
      refine hj _ _ ⟨vs, ns, a, hv, ?_, .refl _ _, fun c f => (b c).2 f, fun _ e => e⟩
      unfold cutN
      rw [hd]
      simp only
      rw [if_pos (by omega)]
  · rintro _ h1 ⟨vs1, ns1, x1, hv1, en, bt1, fo1, dm1⟩
    refine cv_at x1 hv1 fun ad1 ia1' ha1 => w_deref ?_
    refine w_set kn_len x1.buf hv1 ia1' (v' := ⟨false, 0, Sl.nil⟩) (c1 := []) (c2 := S_kin_node.cells v) (c3 := []) (by simp) (by rfl) (by rfl) (add_zero ad1).symm fun h2 b2 k2 d2 => ?_
    have x2 := x1.node (n' := nd0) hv1 b2 k2 Buf.nil ⟨rfl, rfl⟩ (fun c ⟨z, hz, _⟩ => by cases hz) _ rfl
    rw [en] at x2
    refine y h2 _ ⟨_, x2, fun c => Iff.rfl⟩ ⟨bt1.trans k2 fun c f => .inl (fo1 c (.inr (.inl f))), fun c f => .inl (fo1 c ?_), fun c e => dm1 c (d2 c e)⟩
    rcases f with f | f | ⟨w, hw, f⟩
    · exact .inl f
    · exact .inr (.inl f)
    · rcases List.mem_or_eq_of_mem_set hw with r | r
      · exact .inr (.inr ⟨w, r, f⟩)
      · subst r; obtain ⟨z, hz, _⟩ := f; cases hz
end
def chN (ns : List Nd) (i : Int) : List Int := if 0 ≤ i then ((ns[i.toNat]?).map Nd.kids).getD [] else []
theorem chN_nat (ns : List Nd) (i : Nat) : chN ns (i : Int) = ((ns[i]?).map Nd.kids).getD [] := by
  unfold chN
  rw [if_pos (by omega), Int.toNat_natCast]
def LiveL (ns : List Nd) (l : List Int) : Prop := ∀ z, z ∈ l → hasN ns z = true
theorem hasN_nat {ns : List Nd} {z : Int} (x : hasN ns z = true) : ∃ (i : Nat) (d : Nd), z = i ∧ ns[i]? = some d ∧ d.there = true ∧ chN ns z = d.kids := by
  have h0 : 0 ≤ z := by
    unfold hasN at x
    rw [Bool.and_eq_true] at x
    exact of_decide_eq_true x.1
  obtain ⟨i, rfl⟩ : ∃ i : Nat, z = i := ⟨z.toNat, by omega⟩
  obtain ⟨d, h1, h2⟩ := hasN_iff.1 x
  exact ⟨i, d, rfl, h1, h2, by rw [chN_nat, h1]; rfl⟩
theorem concat_of {T : Type} {l : List T} {n : Nat} (h : l.length = n + 1) : ∃ a x, l = a ++ [x] ∧ a.length = n := by
  rcases List.eq_nil_or_concat l with q | ⟨a, x, q⟩
  · subst q; simp at h
  · rw [List.concat_eq_append] at q; subst q; exact ⟨a, x, rfl, by simp at h; exact h⟩
theorem cut_front {s : Sl} {n : Nat} {i j : Int} {h : H} (hi : i = 0) (hj : j = n) (hn : n ≤ s.cap) {k : Sl → H → Prop} {size : Nat} (y : k ⟨s.a, n, s.cap⟩ h) : mCut s i j size k h := by
  refine w_cut (lo := 0) (hi := n) hi hj (Nat.zero_le _) hn ?_
  have hcut : (if s.cap = 0 then s.a else s.a.map (·.add (0 * size))) = s.a := by
    split
    · rfl
    · cases s.a <;> simp [add_zero]
  rw [hcut, Nat.sub_zero, Nat.sub_zero]
  exact y
section
variable {h : H} {p : Nat} {s : Sl} {F : Nat → Prop} {ns : List Nd}
theorem t_down (x : Tree h p s F ns) {n : Nat} {turn : Bool} {c' : Int → List Int} (hc' : ∀ z, c' z = if turn then (chN ns z).reverse else chN ns z) {l : List Int} (hl : PreL c' [(n : Int)] l) (live : LiveL ns l) (len : l.length ≤ 4096) {K : Sl → H → Prop}
    (y : ∀ s' h', Buf (cInt .i64) 1 N_int h' s' l → Keeps h h' → (∀ c, s'.foot c → h c = none) → K s' h') : m_walk_down (some ⟨p, 0, none⟩) (n : Int) turn K h := by
  unfold m_walk_down
  refine t_Has x ?_
  have hn : (n : Int) ∈ l := by cases hl; exact List.mem_cons_self ..
  rw [live _ hn]
  refine w_ifF rfl (w_new fun b hb => ?_)
  refine w_for l.length (fun i (z : Sl × Sl) h' => ∃ st, Buf (cInt .i64) 1 N_int h' z.1 (l.take i) ∧ Buf (cInt .i64) 1 N_int h' z.2 st ∧ PreL c' st.reverse (l.drop i) ∧ Keeps h h' ∧ (∀ c, z.1.foot c → h c = none) ∧ (∀ c, z.2.foot c → h c = none) ∧ ∀ c, z.1.foot c → ¬ z.2.foot c) ?_ ?_
  rotate_left
  · exact ⟨[(n : Int)], Buf.nil, ⟨rfl, Nat.le_refl _, .inr ⟨b, [], (0, 0), rfl, upd_same _ _ _, rfl, thawed0 _⟩⟩, hl, .new hb, fun c ⟨a, q, _⟩ => by (cases q), fun c ⟨a, q, r⟩ => by (cases q; subst r; exact hb), fun c ⟨a, q, _⟩ => by cases q⟩
  rintro rec i ⟨out, sk⟩ h1 hi ⟨st, bo, bs, hp, kp, fo, fs, ap⟩ more
  have bo : Buf (cInt .i64) 1 N_int h1 out (l.take i) := bo
  have bs : Buf (cInt .i64) 1 N_int h1 sk st := bs
  have ls := bs.len
  refine w_if' (fun c => ?_) fun c => ?_
  · have c : 0 < (sk.len : Int) := c
    obtain ⟨m, hm⟩ : ∃ m, st.length = m + 1 := ⟨st.length - 1, by omega⟩
    obtain ⟨st', z, rfl, hst⟩ := concat_of hm
    have hle := hp.le
    rw [List.length_reverse, List.length_drop] at hle
    rw [List.reverse_append] at hp
    have hp : PreL c' (z :: st'.reverse) (l.drop i) := hp
    have hil : i < l.length := by omega
    obtain ⟨l1, L1, e, p1, p2⟩ : ∃ l1 L1, l.drop i = z :: (l1 ++ L1) ∧ PreL c' (c' z) l1 ∧ PreL c' st'.reverse L1 := by
      generalize hd : l.drop i = d at hp
      cases hp with
      | cons a b => exact ⟨_, _, rfl, a, b⟩
    have hz : l[i]? = some z := by
      have := congrArg (fun q : List Int => q[0]?) e
      simpa [List.getElem?_drop] using this
    obtain ⟨j, d, rfl, hd, hth, hch⟩ := hasN_nat (live z (List.mem_of_getElem? hz))
    have hkl : d.kids.length ≤ 4096 := by
      have q1 := p1.le
      have q2 := congrArg List.length e
      rw [List.length_drop, List.length_cons, List.length_append] at q2
      rw [hc', hch] at q1
      have : d.kids.length ≤ l1.length := by
        cases turn with
        | true => simpa using q1
        | false => simpa using q1
      omega
    have hcap := bs.cap
    show mIdx sk (iSub .i64 (sk.len : Int) 1) 1 _ h1
    rw [ls, hm, is1 (m + 1) (by omega) (by omega)]
    refine w_idx (i := m) (v := (j : Int)) ci_len bs.arr (by rw [← hst]; simp) (by omega) fun a _ ha => w_load ha ?_
    refine cut_front (s := sk) rfl (n := m) (by omega) (by omega) ?_
    have bs2 : Buf (cInt .i64) 1 N_int h1 ⟨sk.a, m, sk.cap⟩ st' := by
      have := bs.front (n := m) (by omega)
      rwa [← hst, List.take_left, hst] at this
    refine w_app (by_ := 8) ci_len rfl bo [(j : Int)] rfl rfl (.inl (by rw [List.length_take]; simp only [List.length_singleton]; omega)) fun o2 h2 bo2 b2 f2 d2 => ?_
    have bs3 := bs2.but b2 fun a ha f => ap _ f ⟨a, ha, rfl⟩
    have k2 : Keeps h h2 := kp.but b2 fo
    refine t_Kids (x.keep k2) hd hth (by omega) fun s3 h3 bu3 k3 f3 => ?_
    refine w_joinP (fun _ h4 => Buf (cInt .i64) 1 N_int h4 s3 (c' (j : Int)).reverse ∧ But s3.foot h3 h4 ∧ ∀ c, h4 c = none → h3 c = none) (fun J hJ => ?_) ?_
    · refine w_if (fun e0 => ?_) fun e0 => ?_
      · unfold m_slices_Reverse_int_int
        refine w_reverse bu3 (by omega) fun h4 bu4 b4 d4 => hJ _ _ ⟨?_, b4, d4⟩
        rw [hc', hch]
        cases turn with
        | true => cases e0
        | false => exact bu4
      · refine hJ _ _ ⟨?_, .refl _ _, fun _ q => q⟩
        rw [hc', hch]
        cases turn with
        | true => rw [if_pos rfl, List.reverse_reverse]; exact bu3
        | false => cases e0
    · rintro _ h4 ⟨bu4, b4, d4⟩
      have bs4 : Buf (cInt .i64) 1 N_int h4 ⟨sk.a, m, sk.cap⟩ st' := (bs3.keep k3).but b4 fun a ha f => bs3.has ⟨a, ha, rfl⟩ (f3 _ f)
      have bo4 : Buf (cInt .i64) 1 N_int h4 o2 (l.take i ++ [(j : Int)]) := (bo2.keep k3).but b4 fun a ha f => bo2.has ⟨a, ha, rfl⟩ (f3 _ f)
      have hkl' : (c' (j : Int)).reverse.length = d.kids.length := by
        rw [hc', hch]; cases turn <;> simp
      refine w_append (by_ := 8) ci_len ci_plain rfl bs4 bu4.arr (.inl (by rw [hkl']; omega)) fun s5 h5 bu5 b5 f5 d5 => ?_
      have dsj : ∀ c, o2.foot c → ¬ (⟨sk.a, m, sk.cap⟩ : Sl).foot c := fun c f g => by
        rcases f2 c f with q | q
        · exact ap c q g
        · exact bs2.has g q
      refine more _ _ hil ⟨st' ++ (c' (j : Int)).reverse, ?_, bu5, ?_, ?_, fun c f => ?_, fun c f => ?_, fun c f g => ?_⟩
      · have := bo4.but b5 fun a ha f => dsj _ ⟨a, ha, rfl⟩ f
        have e1 : l.take (i + 1) = l.take i ++ [(j : Int)] := by rw [List.take_add_one, hz]; rfl
        rw [e1]; exact this
      · rw [List.reverse_append, List.reverse_reverse]
        have e2 : l.drop (i + 1) = l1 ++ L1 := by
          have := congrArg List.tail e
          simpa [List.tail_drop] using this
        rw [e2]
        exact p1.append p2
      · refine ((k2.trans k3).but b4 fun c f => k2.fresh (f3 c f)).but b5 fun c f => fs c f
      · rcases f2 c f with q | q
        · exact fo c q
        · exact kp.fresh q
      · rcases f5 c f with q | q
        · exact fs c q
        · exact k2.fresh (k3.fresh (d4 c q))
      · rcases f5 c g with q | q
        · exact dsj c f q
        · exact bo2.has f (k3.fresh (d4 c q))
  · have c : ¬ 0 < (sk.len : Int) := c
    obtain rfl : st = [] := List.length_eq_zero_iff.1 (by omega)
    have hp : PreL c' [] (l.drop i) := hp
    generalize hd : l.drop i = d at hp
    cases hp
    have : l.take i = l := by rw [List.take_of_length_le]; have := congrArg List.length hd; rw [List.length_drop] at this; simp at this; omega
    rw [this] at bo
    exact y _ _ bo kp fo
theorem t_Fall (x : Tree h p s F ns) {n : Nat} {m : List Int} (hm : PreL (fun z => (chN ns z).reverse) [(n : Int)] m) (live : LiveL ns m) (len : m.length ≤ 4096) {K : Sl → H → Prop}
    (y : ∀ s' h', Buf (cInt .i64) 1 N_int h' s' m.reverse → Keeps h h' → (∀ c, s'.foot c → h c = none) → K s' h') : m_walk_Fall (some ⟨p, 0, none⟩) (n : Int) K h := by
  unfold m_walk_Fall
  refine t_down x (turn := true) (fun _ => rfl) hm live len fun s1 h1 bu1 k1 f1 => ?_
  unfold m_slices_Reverse_int_int
  exact w_reverse (K := fun _ => K s1) bu1 (by omega) fun h2 bu2 b2 d2 => y _ _ bu2 (k1.but b2 f1) f1
theorem w_Down (x : Tree h p s F ns) {n : Nat} {l : List Int} (hl : PreL (chN ns) [(n : Int)] l) (live : LiveL ns l) (len : l.length ≤ 4096)
    {body : Int → ((H → Prop) → H → Prop) → (Nat → H → Prop) → H → Prop} {k : Nat → H → Prop} (b : Int → (Nat → H → Prop) → H → Prop) (hb : ∀ x mid kj, body x mid kj = mid (b x kj))
    (J : (Nat → Prop) → Nat → H → Prop) (has : ∀ G i h, J G i h → ∀ c, G c → h c ≠ none) (stab : ∀ G i h h' E, J G i h → But E h h' → (∀ c, E c → ¬ G c) → J G i h') {G0 : Nat → Prop} (j0 : J G0 0 h)
    (step : ∀ (i : Nat) (z : Nat), l[i]? = some (z : Int) → ∀ G h' kj, J G i h' → (∀ G' h'', J G' (i + 1) h'' → KChg G G' h' h'' → kj 0 h'') → b (z : Int) kj h')
    (y : ∀ G h', J G l.length h' → KChg G0 G h h' → k 0 h') :
    m_walk_Down (some ⟨p, 0, none⟩) (n : Int) (fun r => mRangeF (A := Int) Tryz.prog (fun x => [(Value.int .i64 x)]) r.1 body k) h := by
  unfold m_walk_Down m_walk_told
  refine w_new fun b1 hb1 => w_new fun b2 hb2 => w_new fun b3 hb3 => ?_
  generalize eh1 : upd h b1 (.cells #[Value.pointer (some ⟨p, 0, none⟩)] N_P_kin_Tree (0, 0)) = h1 at *
  generalize eh2 : upd h1 b2 (.cells #[Value.int .i64 (n : Int)] 3 (0, 0)) = h2 at *
  generalize eh3 : upd h2 b3 _ = h3
  have k1 : Keeps h h1 := eh1 ▸ .new hb1
  have k2 : Keeps h1 h2 := eh2 ▸ .new hb2
  have k3 : Keeps h2 h3 := eh3 ▸ .new hb3
  have c1 : h1 b1 = some (.cells #[Value.pointer (some ⟨p, 0, none⟩)] N_P_kin_Tree (0, 0)) := by rw [← eh1]; exact upd_same _ _ _
  have c2 : h2 b2 = some (.cells #[Value.int .i64 (n : Int)] 3 (0, 0)) := by rw [← eh2]; exact upd_same _ _ _
  have c3 : h3 b3 = some (.cells #[Value.func (.func 82) #[] #[(Value.pointer (some ⟨b1, 0, none⟩)), (Value.pointer (some ⟨b2, 0, none⟩))]] 167 (0, 0)) := by rw [← eh3]; exact upd_same _ _ _
  have k03 : Keeps h h3 := (k1.trans k2).trans k3
  refine ⟨105, Tryz.f105, #[], #[.pointer (some ⟨b3, 0, none⟩)], rfl, callee105, fun w ob bz hw law => ?_⟩
  have kw : Keeps h3 (upd h3 w (ob 0)) := .new hw
  suffices hm : m_walk_told_1 (⟨.func (.yield w) #[] #[], rfl, rfl⟩ : PV) ⟨b3, 0, none⟩ (fun _ h'' => ∃ j, h'' w = some (ob j) ∧ ∀ o, k j (upd h'' w o)) (upd h3 w (ob 0)) from
    (s_walk_told_1.ok ((⟨.func (.yield w) #[] #[], rfl, rfl⟩ : PV), (⟨b3, 0, none⟩ : Addr)) (fun _ h'' => ∃ j, h'' w = some (ob j) ∧ ∀ o, k j (upd h'' w o)) _ hm).mono (fun v h'' ⟨_, _, q⟩ => q) fun _ _ q => q
  unfold m_walk_told_1
  have a3 := kw _ _ c3
  refine w_load (v := (⟨Value.func (.func 82) #[] #[(Value.pointer (some ⟨b1, 0, none⟩)), (Value.pointer (some ⟨b2, 0, none⟩))], rfl, rfl⟩ : PV)) (At.own (l1 := []) (l3 := []) a3 rfl) ?_
  have use : ∀ {K : Sl → H → Prop} {h' : H}, m_walk_Down_1 (⟨b1, 0, none⟩ : Addr) (⟨b2, 0, none⟩ : Addr) K h' → mCallV (T := Sl) Tryz.prog (fun r => Sl.val r) (.func (.func 82) #[] #[(Value.pointer (some ⟨b1, 0, none⟩)), (Value.pointer (some ⟨b2, 0, none⟩))]) [] K h' := fun hm =>
    callV_of s_walk_Down_1 (first := #[]) (cap := #[(Value.pointer (some ⟨b1, 0, none⟩)), (Value.pointer (some ⟨b2, 0, none⟩))]) (args := []) ((⟨b1, 0, none⟩ : Addr), (⟨b2, 0, none⟩ : Addr)) rfl hm
  refine use ?_
  unfold m_walk_Down_1
  refine w_load (v := some ⟨p, 0, none⟩) (cells := cPtr) (At.own (l1 := []) (l3 := []) (kw _ _ (k3 _ _ (k2 _ _ c1))) rfl) (w_load (v := (n : Int)) (cells := cInt .i64) (At.own (l1 := []) (l3 := []) (kw _ _ (k3 _ _ c2)) rfl) ?_)
  refine t_down ((x.keep k03).keep kw) (turn := false) (fun _ => rfl) hl live len fun s4 h4 bu4 k4 f4 => ?_
  have hw0 : h w = none := k03.fresh hw
  have hw4 : h4 w = some (ob 0) := k4 _ _ (upd_same _ _ _)
  have nG : ∀ c, G0 c → c ≠ w := fun c g e => has _ _ _ j0 c g (e ▸ hw0)
  refine w_for l.length (fun i z h' => z = (i : Int) ∧ i ≤ l.length ∧ ∃ G, J G i h' ∧ KChg G0 G h h' ∧ h' w = some (ob 0) ∧ ¬ G w ∧ Buf (cInt .i64) 1 N_int h' s4 l ∧ ∀ c, s4.foot c → ¬ G c) ?_ ?_
  rotate_left
  · refine ⟨rfl, Nat.zero_le _, G0, stab _ _ _ _ (fun _ => False) j0 (.of ((k03.trans kw).trans k4)) (fun _ q => q.elim), ⟨.of ((k03.trans kw).trans k4), fun c g => .inl g, fun c q => ((k03.trans kw).trans k4).fresh q⟩, hw4, fun g => nG _ g rfl, bu4, fun c f g => ?_⟩
    exact has _ _ _ j0 c g (k03.fresh (kw.fresh (f4 c f)))
  rintro rec i z h' hi ⟨rfl, _, G, jg, kg, hw', gw, bu, fg⟩ more
  have hl4 := bu.len
  have fw : ¬ s4.foot w := fun f => by have := f4 w f; rw [upd_same] at this; cases this
  refine w_if' (fun c => ?_) fun c => ?_
  · have c : (i : Int) < (s4.len : Int) := c
    have hil : i < l.length := by omega
    have hz := List.getElem?_eq_getElem hil
    refine w_idx ci_len bu.arr hz rfl fun a _ ha => w_load ha ?_
    obtain ⟨zn, hzn⟩ : ∃ zn : Nat, l[i] = (zn : Int) := by
      obtain ⟨j, _, e, _⟩ := hasN_nat (live _ (List.getElem_mem hil))
      exact ⟨j, e⟩
    rw [hzn] at hz ⊢
    refine .inr ⟨w, rfl, law (zn : Int) _ h' hw' ?_⟩
    rw [hb]
    refine ⟨hw', ?_⟩
    have bE : But (fun c => c = w) h' (upd h' w bz) := .upd rfl
    refine step i zn hz G _ _ (stab _ _ _ _ _ jg bE fun c q g => gw (q ▸ g)) fun G' h'' jg' kg' => ?_
    have gw' : ¬ G' w := fun g => (kg'.foot w g).elim gw fun q => by rw [upd_same] at q; cases q
    have hwz : h'' w = some bz := kg'.but w bz (upd_same _ _ _) gw
    refine ⟨hwz, ?_⟩
    have bE2 : But (fun c => c = w) h'' (upd h'' w (ob 0)) := .upd rfl
    have dm : ∀ c, upd h'' w (ob 0) c = none → h' c = none := fun c q => (upd_none.1 (kg'.dom c (upd_none.1 q).2)).2
    have kgg : KChg G G' h' (upd h'' w (ob 0)) := ⟨fun b o' e ng => ?_, fun c g => (kg'.foot c g).imp id fun q => (upd_none.1 q).2, dm⟩
    · refine w_ifF rfl (more _ _ hil ⟨ia1 i (by omega), by omega, G', stab _ _ _ _ _ jg' bE2 (fun c q g => gw' (q ▸ g)), kg.trans kgg, upd_same _ _ _, gw', bu.but kgg.but fun a ha f => fg _ ⟨a, ha, rfl⟩ f, fun c f g => ?_⟩)
      rcases kgg.foot c g with q | q
      · exact fg c f q
      · exact bu.has f q
    · by_cases q : b = w
      · subst q; rw [hw'] at e; cases e; exact upd_same _ _ _
      · rw [upd_ne _ _ q]
        exact kg'.but b o' (by rw [upd_ne _ _ q]; exact e) ng
  · have c : ¬ (i : Int) < (s4.len : Int) := c
    obtain rfl : i = l.length := by omega
    refine ⟨0, hw', fun o => y G _ (stab _ _ _ _ (· = w) jg (.upd rfl) fun c q g => gw (q ▸ g)) ⟨fun b o' e ng => ?_, kg.foot, fun c q => kg.dom c (upd_none.1 q).2⟩⟩
    have hbw : b ≠ w := fun q => by rw [q, hw0] at e; cases e
    rw [upd_ne _ _ hbw]; exact kg.but b o' e ng
end
end Go.Proofs.YtdleanjofhghnaaGreatDoor.K
namespace Go.Proofs.YtdleanjofhghnaaGreatDoor.K
open Go Go.Proofs
def m_catalogue_New (a0 : Int) (a1 : Int) (K : (Option Addr × Int) → H → Prop) : H → Prop :=
 mIf ((((decide (a0 < 1)) || (decide (256 < a0))) || (decide (a1 < 0))) || (decide (64 < a1))) (
 K (none, 16)
 ) (
 m_slots_New_int a0 a1 fun r1 =>
 mIf (!decide (r1.2 = 0)) (
 K (none, r1.2)
 ) (
 m_kin_New a0 fun r2 =>
 mIf (!decide (r2.2 = 0)) (
 K (none, r2.2)
 ) (
 mJoin (fun (s3 : Sl × Sl × Option Nat × Option Nat) =>
 mNew 114 #[(Value.pointer r1.1), (Value.pointer r2.1), (Sl.val s3.1), (Sl.val s3.2.1), (Value.map s3.2.2.1), (Value.map s3.2.2.2)] fun ad65 =>
 K ((some ad65), 0)
 ) (fun j4 =>
 mBoth (
 mMake 119 40 #[(Value.int .i64 0), (Value.int .u64 0), (Value.int .u64 0), (Value.int .i64 0), (Value.int .i64 0)] a0 a0 fun s5 =>
 mBoth (
 mMake 4 1 #[(Value.bool false)] a0 a0 fun s6 =>
 mMakeMap fun m7 =>
 mMakeMap fun m8 =>
 j4 (s5, s6, m7, m8)
 ) (
 mBoth (
 mMakeMap fun m9 =>
 mBoth (
 mMake 4 1 #[(Value.bool false)] a0 a0 fun s10 =>
 mMakeMap fun m11 =>
 j4 (s5, s10, m9, m11)
 ) (
 mMakeMap fun m12 =>
 mMake 4 1 #[(Value.bool false)] a0 a0 fun s13 =>
 j4 (s5, s13, m9, m12)
 )
 ) (
 mMakeMap fun m14 =>
 mBoth (
 mMake 4 1 #[(Value.bool false)] a0 a0 fun s15 =>
 mMakeMap fun m16 =>
 j4 (s5, s15, m16, m14)
 ) (
 mMakeMap fun m17 =>
 mMake 4 1 #[(Value.bool false)] a0 a0 fun s18 =>
 j4 (s5, s18, m17, m14)
 )
 )
 )
 ) (
 mBoth (
 mMake 4 1 #[(Value.bool false)] a0 a0 fun s19 =>
 mBoth (
 mMake 119 40 #[(Value.int .i64 0), (Value.int .u64 0), (Value.int .u64 0), (Value.int .i64 0), (Value.int .i64 0)] a0 a0 fun s20 =>
 mMakeMap fun m21 =>
 mMakeMap fun m22 =>
 j4 (s20, s19, m21, m22)
 ) (
 mBoth (
 mMakeMap fun m23 =>
 mBoth (
 mMake 119 40 #[(Value.int .i64 0), (Value.int .u64 0), (Value.int .u64 0), (Value.int .i64 0), (Value.int .i64 0)] a0 a0 fun s24 =>
 mMakeMap fun m25 =>
 j4 (s24, s19, m23, m25)
 ) (
 mMakeMap fun m26 =>
 mMake 119 40 #[(Value.int .i64 0), (Value.int .u64 0), (Value.int .u64 0), (Value.int .i64 0), (Value.int .i64 0)] a0 a0 fun s27 =>
 j4 (s27, s19, m23, m26)
 )
 ) (
 mMakeMap fun m28 =>
 mBoth (
 mMake 119 40 #[(Value.int .i64 0), (Value.int .u64 0), (Value.int .u64 0), (Value.int .i64 0), (Value.int .i64 0)] a0 a0 fun s29 =>
 mMakeMap fun m30 =>
 j4 (s29, s19, m30, m28)
 ) (
 mMakeMap fun m31 =>
 mMake 119 40 #[(Value.int .i64 0), (Value.int .u64 0), (Value.int .u64 0), (Value.int .i64 0), (Value.int .i64 0)] a0 a0 fun s32 =>
 j4 (s32, s19, m31, m28)
 )
 )
 )
 ) (
 mBoth (
 mMakeMap fun m33 =>
 mBoth (
 mMake 119 40 #[(Value.int .i64 0), (Value.int .u64 0), (Value.int .u64 0), (Value.int .i64 0), (Value.int .i64 0)] a0 a0 fun s34 =>
 mBoth (
 mMake 4 1 #[(Value.bool false)] a0 a0 fun s35 =>
 mMakeMap fun m36 =>
 j4 (s34, s35, m33, m36)
 ) (
 mMakeMap fun m37 =>
 mMake 4 1 #[(Value.bool false)] a0 a0 fun s38 =>
 j4 (s34, s38, m33, m37)
 )
 ) (
 mBoth (
 mMake 4 1 #[(Value.bool false)] a0 a0 fun s39 =>
 mBoth (
 mMake 119 40 #[(Value.int .i64 0), (Value.int .u64 0), (Value.int .u64 0), (Value.int .i64 0), (Value.int .i64 0)] a0 a0 fun s40 =>
 mMakeMap fun m41 =>
 j4 (s40, s39, m33, m41)
 ) (
 mMakeMap fun m42 =>
 mMake 119 40 #[(Value.int .i64 0), (Value.int .u64 0), (Value.int .u64 0), (Value.int .i64 0), (Value.int .i64 0)] a0 a0 fun s43 =>
 j4 (s43, s39, m33, m42)
 )
 ) (
 mMakeMap fun m44 =>
 mBoth (
 mMake 119 40 #[(Value.int .i64 0), (Value.int .u64 0), (Value.int .u64 0), (Value.int .i64 0), (Value.int .i64 0)] a0 a0 fun s45 =>
 mMake 4 1 #[(Value.bool false)] a0 a0 fun s46 =>
 j4 (s45, s46, m33, m44)
 ) (
 mMake 4 1 #[(Value.bool false)] a0 a0 fun s47 =>
 mMake 119 40 #[(Value.int .i64 0), (Value.int .u64 0), (Value.int .u64 0), (Value.int .i64 0), (Value.int .i64 0)] a0 a0 fun s48 =>
 j4 (s48, s47, m33, m44)
 )
 )
 )
 ) (
 mMakeMap fun m49 =>
 mBoth (
 mMake 119 40 #[(Value.int .i64 0), (Value.int .u64 0), (Value.int .u64 0), (Value.int .i64 0), (Value.int .i64 0)] a0 a0 fun s50 =>
 mBoth (
 mMake 4 1 #[(Value.bool false)] a0 a0 fun s51 =>
 mMakeMap fun m52 =>
 j4 (s50, s51, m52, m49)
 ) (
 mMakeMap fun m53 =>
 mMake 4 1 #[(Value.bool false)] a0 a0 fun s54 =>
 j4 (s50, s54, m53, m49)
 )
 ) (
 mBoth (
 mMake 4 1 #[(Value.bool false)] a0 a0 fun s55 =>
 mBoth (
 mMake 119 40 #[(Value.int .i64 0), (Value.int .u64 0), (Value.int .u64 0), (Value.int .i64 0), (Value.int .i64 0)] a0 a0 fun s56 =>
 mMakeMap fun m57 =>
 j4 (s56, s55, m57, m49)
 ) (
 mMakeMap fun m58 =>
 mMake 119 40 #[(Value.int .i64 0), (Value.int .u64 0), (Value.int .u64 0), (Value.int .i64 0), (Value.int .i64 0)] a0 a0 fun s59 =>
 j4 (s59, s55, m58, m49)
 )
 ) (
 mMakeMap fun m60 =>
 mBoth (
 mMake 119 40 #[(Value.int .i64 0), (Value.int .u64 0), (Value.int .u64 0), (Value.int .i64 0), (Value.int .i64 0)] a0 a0 fun s61 =>
 mMake 4 1 #[(Value.bool false)] a0 a0 fun s62 =>
 j4 (s61, s62, m60, m49)
 ) (
 mMake 4 1 #[(Value.bool false)] a0 a0 fun s63 =>
 mMake 119 40 #[(Value.int .i64 0), (Value.int .u64 0), (Value.int .u64 0), (Value.int .i64 0), (Value.int .i64 0)] a0 a0 fun s64 =>
 j4 (s64, s63, m60, m49)
 )
 )
 )
 )
 )
 ))
 )
 )
 )
def x_catalogue_New : Cx Tryz.prog := ⟨tys, [s_slots_New_int, s_kin_New], [], [], mixed⟩
def h_catalogue_New : Hint := (.seq .d (.seq (.seq (.reg (.run [3, 7, 11] (.sel 11 14 28672 (.run [15, 19, 23] .nil) (.run [15, 19, 23] .nil) (.run [27] (.sel 15 18 458752 (.run [31, 35, 39] .nil) (.run [31, 35, 39] .nil) (.run [43] (.sel 19 22 7340032 (.run [47, 51, 55] .nil) (.run [47, 51, 55] .nil) .nil))))))) .d) (.seq .d (.seq .d (.seq .d (.seq .d (.seq (.reg (.run [0, 4, 8, 12, 20] (.join [.slot 44 tSl, .slot 46 tSl, .slot 47 tMap, .slot 48 tMap] 510173395288064 [] (.alt 4 (.alt 6 (.run [30, 34] .nil) (.both 7 8 (.both 6 8 (.run [34] .nil) (.run [27] .nil)) (.both 6 7 (.run [30] .nil) (.run [27] .nil)))) (.alt 6 (.alt 4 (.run [30, 34] .nil) (.both 7 8 (.both 4 8 (.run [34] .nil) (.run [19] .nil)) (.both 4 7 (.run [30] .nil) (.run [19] .nil)))) (.both 7 8 (.alt 4 (.both 6 8 (.run [34] .nil) (.run [27] .nil)) (.both 6 8 (.both 4 8 (.run [34] .nil) (.run [19] .nil)) (.both 4 6 (.run [27] .nil) (.run [19] .nil)))) (.alt 4 (.both 6 7 (.run [30] .nil) (.run [27] .nil)) (.both 6 7 (.both 4 7 (.run [30] .nil) (.run [19] .nil)) (.both 4 6 (.run [27] .nil) (.run [19] .nil))))))) (.run [36, 42, 44, 48] .nil)))) .d)))))))
def s_catalogue_New : Spec Tryz.prog := mkSpec x_catalogue_New 14 Tryz.f14 [(tInt .i64), (tInt .i64)] [tPtr, (tInt .i64)] false h_catalogue_New (fun a => m_catalogue_New a.1 a.2) (fun a K h => by kernel_rfl) callee14 rfl
def m_catalogue_Catalogue_In (a0 : Option Addr) (a1 : Int) (K : (Int) → H → Prop) : H → Prop :=
 mDeref a0 fun ad1 =>
 mLoad cMap (ad1.add 5) fun x2 =>
 mLookup (eqV Tryz.prog 40 3) (Value.int .i64) 0 x2 (Value.int .i64 a1) fun r3 =>
 K r3.1
def x_catalogue_Catalogue_In : Cx Tryz.prog := ⟨tys, [], [], [], mixed⟩
def h_catalogue_Catalogue_In : Hint := .d
def s_catalogue_Catalogue_In : Spec Tryz.prog := mkSpec x_catalogue_Catalogue_In 61 Tryz.f61 [tPtr, (tInt .i64)] [(tInt .i64)] false h_catalogue_Catalogue_In (fun a => m_catalogue_Catalogue_In a.1 a.2) (fun a K h => by kernel_rfl) callee61 rfl
def m_catalogue_Catalogue_free (a0 : Option Addr) (K : (Int) → H → Prop) : H → Prop :=
 mDeref a0 fun ad1 =>
 mLoad cSl (ad1.add 3) fun x2 =>
 mLoop (fun (rec4 : Int → H → Prop) (s3 : Int) =>
 mIf (decide (s3 < (x2.len : Int))) (
 mIdx x2 s3 1 fun ad5 =>
 mLoad cBool ad5 fun x6 =>
 mIf (!x6) (
 K s3
 ) (
 rec4 (iAdd .i64 s3 1)
 )
 ) (
 K (-1)
 )
 ) 0
def x_catalogue_Catalogue_free : Cx Tryz.prog := ⟨tys, [], [], [], mixed⟩
def h_catalogue_Catalogue_free : Hint := (.seq .d (.seq (.seq .d (.blk (.loop [.slot 10 (tInt .i64)] 523292 [] .d))) .d))
def s_catalogue_Catalogue_free : Spec Tryz.prog := mkSpec x_catalogue_Catalogue_free 95 Tryz.f95 [tPtr] [(tInt .i64)] false h_catalogue_Catalogue_free (fun a => m_catalogue_Catalogue_free a) (fun a K h => by kernel_rfl) callee95 rfl
def m_catalogue_Catalogue_put (a0 : Option Addr) (a1 : Int) (a2 : S_api_Token) (K : (Unit) → H → Prop) : H → Prop :=
 mDeref a0 fun ad1 =>
 mLoad cPtr ((ad1.add 0).add 0) fun x2 =>
 m_slots_Table_int_Put x2 a2.Cap a1 fun _ =>
 mDeref a0 fun ad4 =>
 mDeref a0 fun ad5 =>
 mLoad cSl (ad4.add 2) fun x6 =>
 mLoad cSl (ad5.add 3) fun x7 =>
 mIdx x6 a1 5 fun ad8 =>
 mStore ad8 [(Value.int .i64 a2.Cap.Obj), (Value.int .u64 a2.Cap.Pass.Hi), (Value.int .u64 a2.Cap.Pass.Lo), (Value.int .i64 a2.Rights), (Value.int .i64 a2.Parent)] <|
 mIdx x7 a1 1 fun ad9 =>
 mStore ad9 [(Value.bool true)] <|
 mDeref a0 fun ad10 =>
 mLoad cMap (ad10.add 5) fun x11 =>
 mLookup (eqV Tryz.prog 40 3) (Value.int .i64) 0 x11 (Value.int .i64 a2.Cap.Obj) fun r12 =>
 mMapSet (eqV Tryz.prog 40 3) x11 (Value.int .i64 a2.Cap.Obj) (Value.int .i64 (iAdd .i64 r12.1 1)) <|
 K ()
def x_catalogue_Catalogue_put : Cx Tryz.prog := ⟨tys, [s_slots_Table_int_Put], [5], [], mixed⟩
def h_catalogue_Catalogue_put : Hint := (.seq .d (.seq (.reg (.run [0, 4, 8, 12, 20, 28, 25, 18, 35] .nil)) (.seq (.reg (.run [0, 4, 8, 16, 20, 24, 28, 36, 41, 14, 34, 44, 51, 52, 59] .nil)) (.reg (.run [0, 4, 8, 16, 20, 25, 14, 30, 32, 39] .nil)))))
def s_catalogue_Catalogue_put : Spec Tryz.prog := mkSpec x_catalogue_Catalogue_put 98 Tryz.f98 [tPtr, (tInt .i64), S_api_Token.ty] [] false h_catalogue_Catalogue_put (fun a => m_catalogue_Catalogue_put a.1 a.2.1 a.2.2) (fun a K h => by kernel_rfl) callee98 rfl
def m_catalogue_Catalogue_Root (a0 : Option Addr) (a1 : S_api_Cap) (a2 : Int) (K : (Int × Int) → H → Prop) : H → Prop :=
 m_catalogue_Catalogue_free a0 fun r1 =>
 mPure (m_mask_Valid a2) fun r2 =>
 mIf (!r2) (
 K (0, 4)
 ) (
 mDeref a0 fun ad3 =>
 mLoad cMap (ad3.add 5) fun x4 =>
 mLookup (eqV Tryz.prog 40 3) (Value.int .i64) 0 x4 (Value.int .i64 a1.Obj) fun r5 =>
 mIf (decide (0 < r5.1)) (
 K (0, 19)
 ) (
 mIf (decide (r1 < 0)) (
 K (0, 10)
 ) (
 mDeref a0 fun ad6 =>
 mLoad cPtr ((ad6.add 0).add 1) fun x7 =>
 m_kin_Tree_Root x7 r1 fun _ =>
 m_catalogue_Catalogue_put a0 r1 (⟨⟨a1.Obj, ⟨a1.Pass.Hi, a1.Pass.Lo⟩⟩, a2, (-1)⟩ : S_api_Token) fun _ =>
 mDeref a0 fun ad10 =>
 mLoad cMap (ad10.add 4) fun x11 =>
 mMapSet (eqV Tryz.prog 40 3) x11 (Value.int .i64 a1.Obj) (Value.int .i64 r1) <|
 K (r1, 0)
 )
 )
 )
def x_catalogue_Catalogue_Root : Cx Tryz.prog := ⟨tys, [s_catalogue_Catalogue_free, s_mask_Valid, s_kin_Tree_Root, s_catalogue_Catalogue_put], [4], [], mixed⟩
def h_catalogue_Catalogue_Root : Hint := (.seq .d (.seq .d (.seq (.blk (.seq .d (.cond .d (.seq (.reg (.run [0, 4, 8, 16, 21, 14, 26, 28, 32] .nil)) .d)))) (.seq .d (.seq .d (.seq (.reg (.run [0, 4, 8, 16, 24, 21, 14, 31] .nil)) .d))))))
def s_catalogue_Catalogue_Root : Spec Tryz.prog := mkSpec x_catalogue_Catalogue_Root 65 Tryz.f65 [tPtr, S_api_Cap.ty, (tInt .i64)] [(tInt .i64), (tInt .i64)] false h_catalogue_Catalogue_Root (fun a => m_catalogue_Catalogue_Root a.1 a.2.1 a.2.2) (fun a K h => by kernel_rfl) callee65 rfl
def m_catalogue_Catalogue_Find (a0 : Option Addr) (a1 : S_api_Cap) (K : (Int × Bool) → H → Prop) : H → Prop :=
 mDeref a0 fun ad1 =>
 mLoad cPtr ((ad1.add 0).add 0) fun x2 =>
 m_slots_Table_int_Get x2 a1 fun r3 =>
 K (r3.1, r3.2)
def x_catalogue_Catalogue_Find : Cx Tryz.prog := ⟨tys, [s_slots_Table_int_Get], [3], [], mixed⟩
def h_catalogue_Catalogue_Find : Hint := (.seq .d (.seq (.reg (.run [0, 4, 8, 12, 21, 18, 27, 28, 32, 36, 40] .nil)) .d))
def s_catalogue_Catalogue_Find : Spec Tryz.prog := mkSpec x_catalogue_Catalogue_Find 24 Tryz.f24 [tPtr, S_api_Cap.ty] [(tInt .i64), tBool] false h_catalogue_Catalogue_Find (fun a => m_catalogue_Catalogue_Find a.1 a.2) (fun a K h => by kernel_rfl) callee24 rfl
def m_catalogue_Catalogue_At (a0 : Option Addr) (a1 : Int) (K : (S_api_Token × Bool) → H → Prop) : H → Prop :=
 mJoin (fun (s3 : Bool) =>
 mJoin (fun (s9 : Bool) =>
 mIf s9 (
 K ((⟨⟨0, ⟨0, 0⟩⟩, 0, 0⟩ : S_api_Token), false)
 ) (
 mDeref a0 fun ad11 =>
 mLoad cSl (ad11.add 2) fun x12 =>
 mIdx x12 a1 5 fun ad13 =>
 mLoad S_api_Token.cells ad13 fun x14 =>
 K (x14, true)
 )
 ) (fun j10 =>
 mIf s3 (
 j10 true
 ) (
 mDeref a0 fun ad15 =>
 mLoad cSl (ad15.add 3) fun x16 =>
 mIdx x16 a1 1 fun ad17 =>
 mLoad cBool ad17 fun x18 =>
 j10 (!x18)
 ))
 ) (fun j4 =>
 mIf (decide (a1 < 0)) (
 j4 true
 ) (
 mDeref a0 fun ad19 =>
 mLoad cSl (ad19.add 3) fun x20 =>
 j4 (decide ((x20.len : Int) ≤ a1))
 ))
def x_catalogue_Catalogue_At : Cx Tryz.prog := ⟨tys, [], [4], [], mixed⟩
def h_catalogue_Catalogue_At : Hint := (.seq .d (.seq (.seq (.reg (.run [3, 7, 11] (.join [.slot 16 tBool] 130560 [] (.split 8 (.run [15, 19, 23, 27, 31, 35, 39, 43] .nil) (.run [15, 19, 23, 27, 31, 35, 39, 43] .nil)) (.run [47] (.join [.slot 26 tBool] 133955584 [] (.split 17 (.run [51, 55, 59, 63, 67, 71, 75, 79, 83] .nil) (.run [51, 55, 59, 63, 67, 71, 75, 79, 83] .nil)) .nil))))) .d) .d))
def s_catalogue_Catalogue_At : Spec Tryz.prog := mkSpec x_catalogue_Catalogue_At 52 Tryz.f52 [tPtr, (tInt .i64)] [S_api_Token.ty, tBool] false h_catalogue_Catalogue_At (fun a => m_catalogue_Catalogue_At a.1 a.2) (fun a K h => by kernel_rfl) callee52 rfl
def m_catalogue_Catalogue_Child (a0 : Option Addr) (a1 : Int) (a2 : S_api_Cap) (a3 : Int) (K : (Int × Int) → H → Prop) : H → Prop :=
 m_catalogue_Catalogue_At a0 a1 fun r1 =>
 mIf (!r1.2) (
 K (0, 20)
 ) (
 mDeref a0 fun ad2 =>
 mLoad cPtr ((ad2.add 0).add 0) fun x3 =>
 m_slots_Table_int_Get x3 a2 fun r4 =>
 m_catalogue_Catalogue_free a0 fun r5 =>
 mIf (!decide (r1.1.Cap.Obj = a2.Obj)) (
 K (0, 3)
 ) (
 mPure (m_mask_Part a3 r1.1.Rights) fun r6 =>
 mIf (!r6) (
 K (0, 4)
 ) (
 mIf r4.2 (
 K (0, 19)
 ) (
 mIf (decide (r5 < 0)) (
 K (0, 10)
 ) (
 mDeref a0 fun ad7 =>
 mLoad cPtr ((ad7.add 0).add 1) fun x8 =>
 m_kin_Tree_Child x8 a1 r5 fun _ =>
 m_catalogue_Catalogue_put a0 r5 (⟨⟨a2.Obj, ⟨a2.Pass.Hi, a2.Pass.Lo⟩⟩, a3, a1⟩ : S_api_Token) fun _ =>
 K (r5, 0)
 )
 )
 )
 )
 )
def x_catalogue_Catalogue_Child : Cx Tryz.prog := ⟨tys, [s_slots_Table_int_Get, s_catalogue_Catalogue_At, s_mask_Part, s_catalogue_Catalogue_free, s_catalogue_Catalogue_put, s_kin_Tree_Child], [6, 10], [], mixed⟩
def h_catalogue_Catalogue_Child : Hint := (.seq .d (.seq .d (.seq .d (.seq (.reg (.run [0, 4, 8, 12, 21, 18, 27, 28, 32, 36, 40, 44] .nil)) .d))))
def s_catalogue_Catalogue_Child : Spec Tryz.prog := mkSpec x_catalogue_Catalogue_Child 70 Tryz.f70 [tPtr, (tInt .i64), S_api_Cap.ty, (tInt .i64)] [(tInt .i64), (tInt .i64)] false h_catalogue_Catalogue_Child (fun a => m_catalogue_Catalogue_Child a.1 a.2.1 a.2.2.1 a.2.2.2) (fun a K h => by kernel_rfl) callee70 rfl
def m_catalogue_Catalogue_Drop (a0 : Option Addr) (a1 : Int) (K : (Sl × Int) → H → Prop) : H → Prop :=
 mNew 46 #[(Value.pointer a0)] fun ad1 =>
 mLoad cPtr ad1 fun x2 =>
 m_catalogue_Catalogue_At x2 a1 fun r3 =>
 mNew 119 #[(Value.int .i64 0), (Value.int .u64 0), (Value.int .u64 0), (Value.int .i64 0), (Value.int .i64 0)] fun ad4 =>
 mStore ad4 [(Value.int .i64 r3.1.Cap.Obj), (Value.int .u64 r3.1.Cap.Pass.Hi), (Value.int .u64 r3.1.Cap.Pass.Lo), (Value.int .i64 r3.1.Rights), (Value.int .i64 r3.1.Parent)] <|
 mIf (!r3.2) (
 K (Sl.nil, 20)
 ) (
 mNew 77 #[(Sl.val Sl.nil)] fun ad5 =>
 mLoad cPtr ad1 fun x6 =>
 mDeref x6 fun ad7 =>
 mLoad cPtr ((ad7.add 0).add 1) fun x8 =>
 m_walk_Down x8 a1 fun r9 =>
 mRangeF (A := Int) Tryz.prog (fun x => [(Value.int .i64 x)]) r9.1 (fun x10 mid11 kj12 =>
 mid11 (
 mLoad cSl ad5 fun x14 =>
 mLoad cPtr ad1 fun x15 =>
 mDeref x15 fun ad16 =>
 mLoad cSl (ad16.add 2) fun x17 =>
 mIdx x17 x10 5 fun ad18 =>
 mLoad S_api_Cap.cells (ad18.add 0) fun x19 =>
 mNew 37 #[(Value.int .i64 x19.Obj), (Value.int .u64 x19.Pass.Hi), (Value.int .u64 x19.Pass.Lo)] fun ad20 =>
 mAppend 37 3 24 #[(Value.int .i64 0), (Value.int .u64 0), (Value.int .u64 0)] x14 (⟨some ad20, 1, 1⟩ : Sl) fun s21 =>
 mStore ad5 [(Sl.val s21)] <|
 kj12 0
 )
 ) (fun j13 =>
 mIf (Nat.beq j13 0) (
 mLoad cPtr ad1 fun x22 =>
 mDeref x22 fun ad23 =>
 mLoad cPtr ((ad23.add 0).add 1) fun x24 =>
 m_walk_Fall x24 a1 fun r25 =>
 mLoop (fun (rec27 : Int → H → Prop) (s26 : Int) =>
 mIf (decide (s26 < (r25.len : Int))) (
 mIdx r25 s26 1 fun ad28 =>
 mLoad (cInt .i64) ad28 fun x29 =>
 mLoad cPtr ad1 fun x30 =>
 mDeref x30 fun ad31 =>
 mLoad cPtr ((ad31.add 0).add 1) fun x32 =>
 m_kin_Tree_Cut x32 x29 fun _ =>
 mLoad cPtr ad1 fun x34 =>
 mDeref x34 fun ad35 =>
 mLoad cPtr ((ad35.add 0).add 0) fun x36 =>
 mLoad cPtr ad1 fun x37 =>
 mDeref x37 fun ad38 =>
 mLoad cSl (ad38.add 2) fun x39 =>
 mIdx x39 x29 5 fun ad40 =>
 mLoad S_api_Cap.cells (ad40.add 0) fun x41 =>
 m_slots_Table_int_Drop x36 x41 fun _ =>
 mLoad cPtr ad1 fun x43 =>
 mDeref x43 fun ad44 =>
 mLoad cSl (ad44.add 3) fun x45 =>
 mIdx x45 x29 1 fun ad46 =>
 mStore ad46 [(Value.bool false)] <|
 rec27 (iAdd .i64 s26 1)
 ) (
 mJoin (fun (_s47 : Unit) =>
 mLoad cSl ad5 fun x49 =>
 K (x49, 0)
 ) (fun j48 =>
 mLoad cPtr ad1 fun x50 =>
 mDeref x50 fun ad51 =>
 mLoad cMap (ad51.add 5) fun x52 =>
 mLoad (cInt .i64) ((ad4.add 0).add 0) fun x53 =>
 mLookup (eqV Tryz.prog 40 3) (Value.int .i64) 0 x52 (Value.int .i64 x53) fun r54 =>
 mLoad cSl ad5 fun x55 =>
 mMapSet (eqV Tryz.prog 40 3) x52 (Value.int .i64 x53) (Value.int .i64 (iSub .i64 r54.1 (x55.len : Int))) <|
 mLoad cPtr ad1 fun x56 =>
 mDeref x56 fun ad57 =>
 mLoad cMap (ad57.add 5) fun x58 =>
 mLoad (cInt .i64) ((ad4.add 0).add 0) fun x59 =>
 mLookup (eqV Tryz.prog 40 3) (Value.int .i64) 0 x58 (Value.int .i64 x59) fun r60 =>
 mIf (decide (r60.1 = 0)) (
 mLoad cPtr ad1 fun x61 =>
 mDeref x61 fun ad62 =>
 mLoad cMap (ad62.add 5) fun x63 =>
 mLoad (cInt .i64) ((ad4.add 0).add 0) fun x64 =>
 mMapDel (eqV Tryz.prog 40 3) x63 (Value.int .i64 x64) <|
 mLoad cPtr ad1 fun x65 =>
 mDeref x65 fun ad66 =>
 mLoad cMap (ad66.add 4) fun x67 =>
 mLoad (cInt .i64) ((ad4.add 0).add 0) fun x68 =>
 mMapDel (eqV Tryz.prog 40 3) x67 (Value.int .i64 x68) <|
 j48 ()
 ) (
 j48 ()
 )
 )
 )
 ) 0
 ) (
 nope))
 )
def x_catalogue_Catalogue_Drop : Cx Tryz.prog := ⟨tys, [s_catalogue_Catalogue_At, s_walk_Down, s_walk_Fall, s_kin_Tree_Cut, s_slots_Table_int_Drop], [], [], mixed⟩
def h_catalogue_Catalogue_Drop : Hint := (.seq .d (.seq .d (.seq .d (.seq .d (.seq (.seq .d (.blk (.rng [(tInt .i64)] [] false .d (.blk (.reg (.run [20, 2, 6, 8, 12, 18, 24, 28, 34, 38, 43, 47] .nil)))))) (.seq (.seq .d (.blk (.loop [.slot 47 (tInt .i64)] 604462909666577098999808 [] (.seq .d (.seq .d (.seq (.blk (.seq .d (.seq .d (.seq (.reg (.run [36, 2, 4, 8, 12, 18, 22, 24, 28, 34, 40, 44, 50, 55] .nil)) .d)))) .d)))))) (.join [] 10384593716465192347253678071087104 [] (.seq (.reg (.run [16, 20, 2, 4, 8, 14, 26, 30, 34, 36, 40, 47] .nil)) (.seq (.reg (.run [16, 20, 2, 4, 8, 14, 26, 30, 32] .nil)) (.cond (.seq (.reg (.run [16, 20, 2, 4, 8, 14, 26, 31] .nil)) (.reg (.run [16, 20, 2, 4, 8, 14, 26, 31] .nil))) .d))) .d)))))))
def s_catalogue_Catalogue_Drop : Spec Tryz.prog := mkSpec x_catalogue_Catalogue_Drop 25 Tryz.f25 [tPtr, (tInt .i64)] [tSl, (tInt .i64)] false h_catalogue_Catalogue_Drop (fun a => m_catalogue_Catalogue_Drop a.1 a.2) (fun a K h => by kernel_rfl) callee25 rfl
def m_catalogue_Catalogue_Of (a0 : Option Addr) (a1 : Int) (K : (Sl) → H → Prop) : H → Prop :=
 mNew 46 #[(Value.pointer a0)] fun ad1 =>
 mLoad cPtr ad1 fun x2 =>
 mDeref x2 fun ad3 =>
 mLoad cMap (ad3.add 4) fun x4 =>
 mLookup (eqV Tryz.prog 40 3) (Value.int .i64) 0 x4 (Value.int .i64 a1) fun r5 =>
 mIf (!r5.2) (
 K Sl.nil
 ) (
 mNew 84 #[(Sl.val Sl.nil)] fun ad6 =>
 mMakeMap fun m7 =>
 mMapSet (eqV Tryz.prog 40 3) m7 (Value.int .i64 (-1)) (Value.int .i64 (-1)) <|
 mNew 100 #[(Value.map none)] fun ad8 =>
 mStore ad8 [(Value.map m7)] <|
 mLoad cPtr ad1 fun x9 =>
 mDeref x9 fun ad10 =>
 mLoad cPtr ((ad10.add 0).add 1) fun x11 =>
 m_walk_Down x11 r5.1 fun r12 =>
 mRangeF (A := Int) Tryz.prog (fun x => [(Value.int .i64 x)]) r12.1 (fun x13 mid14 kj15 =>
 mid14 (
 mLoad cPtr ad1 fun x17 =>
 mDeref x17 fun ad18 =>
 mLoad cSl (ad18.add 2) fun x19 =>
 mIdx x19 x13 5 fun ad20 =>
 mLoad S_api_Token.cells ad20 fun x21 =>
 mNew 119 #[(Value.int .i64 0), (Value.int .u64 0), (Value.int .u64 0), (Value.int .i64 0), (Value.int .i64 0)] fun ad22 =>
 mStore ad22 [(Value.int .i64 x21.Cap.Obj), (Value.int .u64 x21.Cap.Pass.Hi), (Value.int .u64 x21.Cap.Pass.Lo), (Value.int .i64 x21.Rights), (Value.int .i64 x21.Parent)] <|
 mLoad cMap ad8 fun x23 =>
 mLoad cSl ad6 fun x24 =>
 mMapSet (eqV Tryz.prog 40 3) x23 (Value.int .i64 x13) (Value.int .i64 (x24.len : Int)) <|
 mLoad cMap ad8 fun x25 =>
 mLoad (cInt .i64) (ad22.add 4) fun x26 =>
 mLookup (eqV Tryz.prog 40 3) (Value.int .i64) 0 x25 (Value.int .i64 x26) fun r27 =>
 mStore (ad22.add 4) [(Value.int .i64 r27.1)] <|
 mLoad cSl ad6 fun x28 =>
 mLoad S_api_Token.cells ad22 fun x29 =>
 mNew 119 #[(Value.int .i64 x29.Cap.Obj), (Value.int .u64 x29.Cap.Pass.Hi), (Value.int .u64 x29.Cap.Pass.Lo), (Value.int .i64 x29.Rights), (Value.int .i64 x29.Parent)] fun ad30 =>
 mAppend 119 5 40 #[(Value.int .i64 0), (Value.int .u64 0), (Value.int .u64 0), (Value.int .i64 0), (Value.int .i64 0)] x28 (⟨some ad30, 1, 1⟩ : Sl) fun s31 =>
 mStore ad6 [(Sl.val s31)] <|
 kj15 0
 )
 ) (fun j16 =>
 mIf (Nat.beq j16 0) (
 mLoad cSl ad6 fun x32 =>
 K x32
 ) (
 nope))
 )
def x_catalogue_Catalogue_Of : Cx Tryz.prog := ⟨tys, [s_walk_Down], [], [], mixed⟩
def h_catalogue_Catalogue_Of : Hint := (.seq .d (.seq .d (.seq .d (.seq .d (.seq .d (.seq (.seq .d (.blk (.rng [(tInt .i64)] [] false .d .d))) .d))))))
def s_catalogue_Catalogue_Of : Spec Tryz.prog := mkSpec x_catalogue_Catalogue_Of 30 Tryz.f30 [tPtr, (tInt .i64)] [tSl] false h_catalogue_Catalogue_Of (fun a => m_catalogue_Catalogue_Of a.1 a.2) (fun a K h => by kernel_rfl) callee30 rfl
def m_catalogue_Catalogue_Count (a0 : Option Addr) (K : (Int) → H → Prop) : H → Prop :=
 mDeref a0 fun ad1 =>
 mLoad cPtr ((ad1.add 0).add 0) fun x2 =>
 m_slots_Table_int_Len x2 fun r3 =>
 K r3
def x_catalogue_Catalogue_Count : Cx Tryz.prog := ⟨tys, [s_slots_Table_int_Len], [], [], mixed⟩
def h_catalogue_Catalogue_Count : Hint := .d
def s_catalogue_Catalogue_Count : Spec Tryz.prog := mkSpec x_catalogue_Catalogue_Count 34 Tryz.f34 [tPtr] [(tInt .i64)] false h_catalogue_Catalogue_Count (fun a => m_catalogue_Catalogue_Count a) (fun a K h => by kernel_rfl) callee34 rfl
end Go.Proofs.YtdleanjofhghnaaGreatDoor.K
namespace Go.Proofs.YtdleanjofhghnaaGreatDoor.K
open Go
abbrev En := Option (S_api_Token × List Int)
def ndOf : En → Nd
  | none => nd0
  | some (t, ks) => ⟨true, t.Parent, ks⟩
def nds (es : List En) : List Nd := es.map ndOf
abbrev Has (es : List En) (i : Nat) (t : S_api_Token) (ks : List Int) : Prop := es[i]? = some (some (t, ks))
structure CWF (es : List En) : Prop where
  len : 1 ≤ es.length ∧ es.length ≤ 256
  nd : ∀ i t ks, Has es i t ks → ks.Nodup
  down : ∀ i t ks, Has es i t ks → ∀ k ∈ ks, ∃ (j : Nat) (u : S_api_Token) (us : List Int), k = j ∧ Has es j u us ∧ u.Parent = i
  up : ∀ j u us, Has es j u us → u.Parent = -1 ∨ ∃ (i : Nat) (t : S_api_Token) (ks : List Int), u.Parent = i ∧ Has es i t ks ∧ (j : Int) ∈ ks ∧ t.Cap.Obj = u.Cap.Obj ∧ partOf u.Rights t.Rights = true
  rank : ∃ (w : Nat → Nat) (B : Nat), ∀ j u us, Has es j u us → w j ≤ B ∧ ∀ i : Nat, u.Parent = i → w i < w j
  cap : ∀ i j t ks u us, Has es i t ks → Has es j u us → t.Cap = u.Cap → i = j
  one : ∀ i j t ks u us, Has es i t ks → Has es j u us → t.Parent = -1 → u.Parent = -1 → t.Cap.Obj = u.Cap.Obj → i = j
  right : ∀ i t ks, Has es i t ks → 1 ≤ t.Rights ∧ t.Rights ≤ 31
theorem Has.lt {es : List En} {i : Nat} {t ks} (x : Has es i t ks) : i < es.length := lt_of_get x
theorem Has.uniq {es : List En} {i : Nat} {t ks u us} (x : Has es i t ks) (y : Has es i u us) : t = u ∧ ks = us := by
  have := x.symm.trans y
  simpa using this
theorem nds_get {es : List En} {i : Nat} {t ks} (x : Has es i t ks) : (nds es)[i]? = some ⟨true, t.Parent, ks⟩ := by
  unfold nds
  rw [List.getElem?_map, x]; rfl
theorem nds_len (es : List En) : (nds es).length = es.length := List.length_map ..
theorem hasN_nds {es : List En} {z : Int} : hasN (nds es) z = true ↔ ∃ (i : Nat) (t : S_api_Token) (ks : List Int), z = i ∧ Has es i t ks := by
  constructor
  · intro x
    obtain ⟨i, d, rfl, hd, ht, _⟩ := hasN_nat x
    unfold nds at hd
    rw [List.getElem?_map] at hd
    cases e : es[i]? with
    | none => rw [e] at hd; cases hd
    | some o =>
      cases o with
      | none => rw [e] at hd; cases hd; cases ht
      | some p => obtain ⟨t, ks⟩ := p; exact ⟨i, t, ks, rfl, e⟩
  · rintro ⟨i, t, ks, rfl, x⟩
    exact hasN_iff.2 ⟨_, nds_get x, rfl⟩
theorem chN_nds {es : List En} {i : Nat} {t ks} (x : Has es i t ks) : chN (nds es) (i : Int) = ks := by
  rw [chN_nat, nds_get x]; rfl
theorem chN_mem {es : List En} {z k : Int} (x : k ∈ chN (nds es) z) : ∃ (i : Nat) (t : S_api_Token) (ks : List Int), z = i ∧ Has es i t ks ∧ k ∈ ks := by
  by_cases h0 : 0 ≤ z
  · obtain ⟨i, rfl⟩ : ∃ i : Nat, z = i := ⟨z.toNat, by omega⟩
    rw [chN_nat] at x
    unfold nds at x
    rw [List.getElem?_map] at x
    cases e : es[i]? with
    | none => rw [e] at x; cases x
    | some o =>
      cases o with
      | none => rw [e] at x; cases x
      | some p => obtain ⟨t, ks⟩ := p; rw [e] at x; exact ⟨i, t, ks, rfl, e, x⟩
  · unfold chN at x
    rw [if_neg h0] at x; cases x
theorem CWF.forest {es : List En} (w : CWF es) : Forest (chN (nds es)) := by
  refine ⟨fun x y z hx hy => ?_, fun x => ?_, ?_⟩
  · obtain ⟨i, t, ks, rfl, h1, m1⟩ := chN_mem hx
    obtain ⟨j, u, us, rfl, h2, m2⟩ := chN_mem hy
    obtain ⟨a, v, vs, rfl, h3, p3⟩ := w.down i t ks h1 z m1
    obtain ⟨b, v', vs', e, h4, p4⟩ := w.down j u us h2 _ m2
    obtain rfl : a = b := by omega
    obtain ⟨rfl, rfl⟩ := h3.uniq h4
    omega
  · by_cases h : ∃ k, k ∈ chN (nds es) x
    · obtain ⟨k, hk⟩ := h
      obtain ⟨i, t, ks, rfl, h1, m1⟩ := chN_mem hk
      rw [chN_nds h1]; exact w.nd i t ks h1
    · rw [List.eq_nil_iff_forall_not_mem.2 fun a ha => h ⟨a, ha⟩]; exact List.nodup_nil
  · obtain ⟨r, B, hr⟩ := w.rank
    refine ⟨fun z => r z.toNat, B, fun x y hy => ?_⟩
    obtain ⟨i, t, ks, rfl, h1, m1⟩ := chN_mem hy
    obtain ⟨j, u, us, rfl, h2, p2⟩ := w.down i t ks h1 y m1
    obtain ⟨a, b⟩ := hr j u us h2
    have := b i p2
    dsimp only
    rw [Int.toNat_natCast, Int.toNat_natCast]
    omega
theorem CWF.below {es : List En} (w : CWF es) {x z : Int} (hx : hasN (nds es) x = true) (d : Desc (chN (nds es)) x z) : hasN (nds es) z = true := by
  cases d with
  | refl => exact hx
  | snoc d hz =>
    obtain ⟨i, t, ks, rfl, h1, m1⟩ := chN_mem hz
    obtain ⟨j, u, us, rfl, h2, _⟩ := w.down i t ks h1 z m1
    exact hasN_nds.2 ⟨j, u, us, rfl, h2⟩
theorem nodup_le : ∀ (n : Nat) (l : List Int), l.Nodup → (∀ z ∈ l, ∃ i : Nat, i < n ∧ z = i) → l.length ≤ n := by
  intro n
  induction n with
  | zero =>
    intro l _ h
    cases l with
    | nil => exact Nat.le_refl _
    | cons a r => obtain ⟨i, hi, _⟩ := h a (List.mem_cons_self ..); omega
  | succ n ih =>
    intro l hn h
    have := ih (l.erase (n : Int)) (hn.erase _) fun z hz => by
      obtain ⟨q1, q2⟩ := (List.Nodup.mem_erase_iff hn).1 hz
      obtain ⟨i, hi, rfl⟩ := h z q2
      exact ⟨i, by omega, rfl⟩
    rw [List.length_erase] at this
    split at this <;> omega
structure Below (es : List En) (n : Nat) (l : List Int) : Prop where
  pre : PreL (chN (nds es)) [(n : Int)] l
  live : LiveL (nds es) l
  nd : l.Nodup
  len : l.length ≤ es.length
theorem CWF.belowL {es : List En} (w : CWF es) {n : Nat} {t ks} (hn : Has es n t ks) {ch : Int → List Int} (hch : ∀ z k, k ∈ ch z ↔ k ∈ chN (nds es) z) (fo : Forest ch) {l : List Int} (hl : PreL ch [(n : Int)] l) : LiveL (nds es) l ∧ l.Nodup ∧ l.length ≤ es.length := by
  have live : LiveL (nds es) l := fun z hz => by
    obtain ⟨r, hr, d⟩ := hl.mem.1 hz
    obtain rfl := List.mem_singleton.1 hr
    have conv : ∀ {a b}, Desc ch a b → Desc (chN (nds es)) a b := fun d => by
      induction d with
      | refl => exact .refl
      | snoc _ h ih => exact .snoc ih ((hch _ _).1 h)
    exact w.below (hasN_nds.2 ⟨n, t, ks, rfl, hn⟩) (conv d)
  have nd := hl.nodup1 fo
  refine ⟨live, nd, nodup_le _ _ nd fun z hz => ?_⟩
  obtain ⟨i, u, us, rfl, h⟩ := hasN_nds.1 (live z hz)
  exact ⟨i, h.lt, rfl⟩
theorem CWF.ex {es : List En} (w : CWF es) {n : Nat} {t ks} (hn : Has es n t ks) : ∃ l, Below es n l := by
  obtain ⟨l, hl⟩ := PreL.ex w.forest [(n : Int)]
  obtain ⟨a, b, c⟩ := w.belowL hn (fun _ _ => Iff.rfl) w.forest hl
  exact ⟨l, hl, a, b, c⟩
def capsG : Nat → List En → List (S_api_Cap × Int)
  | _, [] => []
  | k, none :: r => capsG (k + 1) r
  | k, some (t, _) :: r => (t.Cap, (k : Int)) :: capsG (k + 1) r
theorem capsG_mem {c : S_api_Cap} {v : Int} : ∀ {es : List En} {k : Nat}, (c, v) ∈ capsG k es ↔ ∃ (i : Nat) (t : S_api_Token) (ks : List Int), Has es i t ks ∧ t.Cap = c ∧ v = ((k + i : Nat) : Int) := by
  intro es
  induction es with
  | nil =>
    intro k
    constructor
    · intro h; cases h
    · rintro ⟨i, t, ks, h, _⟩; cases h
  | cons e r ih =>
    intro k
    cases e with
    | none =>
      rw [capsG, ih]
      constructor
      · rintro ⟨i, t, ks, a, b, c⟩; exact ⟨i + 1, t, ks, a, b, by omega⟩
      · rintro ⟨i, t, ks, a, b, c⟩
        cases i with
        | zero => cases a
        | succ i => exact ⟨i, t, ks, a, b, by omega⟩
    | some p =>
      obtain ⟨u, us⟩ := p
      rw [capsG, List.mem_cons, ih]
      constructor
      · rintro (a | ⟨i, t, ks, a, b, c⟩)
        · cases a; exact ⟨0, u, us, rfl, rfl, by simp⟩
        · exact ⟨i + 1, t, ks, a, b, by omega⟩
      · rintro ⟨i, t, ks, a, b, c⟩
        cases i with
        | zero =>
          have a : some (some (u, us)) = some (some (t, ks)) := a
          cases a; left; rw [b, c]; simp
        | succ i => exact .inr ⟨i, t, ks, a, b, by omega⟩
theorem capsG_new {t : S_api_Token} {ks : List Int} : ∀ {es : List En} {i k : Nat}, es[i]? = some none → (capsG k (es.set i (some (t, ks)))).Perm ((t.Cap, ((k + i : Nat) : Int)) :: capsG k es) := by
  intro es
  induction es with
  | nil => intro i k h; cases h
  | cons e r ih =>
    intro i k h
    cases i with
    | zero => cases h; exact .refl _
    | succ i =>
      have h : r[i]? = some none := h
      have := ih (k := k + 1) h
      rw [List.set_cons_succ]
      rw [show k + 1 + i = k + (i + 1) by omega] at this
      cases e with
      | none => exact this
      | some p =>
        obtain ⟨u, us⟩ := p
        exact (this.cons _).trans (.swap ..)
theorem capsG_kill {t : S_api_Token} {ks : List Int} : ∀ {es : List En} {i k : Nat}, Has es i t ks → (capsG k es).Perm ((t.Cap, ((k + i : Nat) : Int)) :: capsG k (es.set i none)) := by
  intro es
  induction es with
  | nil => intro i k h; cases h
  | cons e r ih =>
    intro i k h
    cases i with
    | zero => cases h; exact .refl _
    | succ i =>
      have h : Has r i t ks := h
      have := ih (k := k + 1) h
      rw [List.set_cons_succ]
      rw [show k + 1 + i = k + (i + 1) by omega] at this
      cases e with
      | none => exact this
      | some p =>
        obtain ⟨u, us⟩ := p
        exact (this.cons _).trans (.swap ..)
theorem capsG_congr : ∀ {es es' : List En} {k : Nat}, es.map (Option.map Prod.fst) = es'.map (Option.map Prod.fst) → capsG k es = capsG k es' := by
  intro es
  induction es with
  | nil =>
    intro es' k h
    cases es' with
    | nil => rfl
    | cons a r => cases h
  | cons e r ih =>
    intro es' k h
    cases es' with
    | nil => cases h
    | cons e' r' =>
      rw [List.map_cons, List.map_cons, List.cons.injEq] at h
      have := ih (k := k + 1) h.2
      cases e with
      | none =>
        cases e' with
        | none => exact this
        | some p => cases h.1
      | some p =>
        cases e' with
        | none => cases h.1
        | some p' =>
          obtain ⟨u, us⟩ := p; obtain ⟨u', us'⟩ := p'
          have h1 : some u = some u' := h.1
          cases h1
          rw [capsG, capsG, this]
def cnt (es : List En) (o : Int) : Nat := (capsG 0 es).countP fun p => decide (p.1.Obj = o)
theorem cnt_le (es : List En) (o : Int) : cnt es o ≤ es.length := by
  have h : ∀ (es : List En) (k : Nat), (capsG k es).length ≤ es.length := by
    intro es
    induction es with
    | nil => exact fun _ => Nat.le_refl _
    | cons e r ih =>
      intro k
      have := ih (k + 1)
      cases e with
      | none => rw [capsG]; simp only [List.length_cons]; omega
      | some p => obtain ⟨u, us⟩ := p; rw [capsG]; simp only [List.length_cons]; omega
  exact Nat.le_trans List.countP_le_length (h es 0)
theorem cnt_pos {es : List En} {o : Int} : 0 < cnt es o ↔ ∃ (i : Nat) (t : S_api_Token) (ks : List Int), Has es i t ks ∧ t.Cap.Obj = o := by
  unfold cnt
  rw [List.countP_pos_iff]
  constructor
  · rintro ⟨⟨c, v⟩, hm, e⟩
    obtain ⟨i, t, ks, a, b, _⟩ := capsG_mem.1 hm
    exact ⟨i, t, ks, a, by rw [b]; simpa using e⟩
  · rintro ⟨i, t, ks, a, b⟩
    exact ⟨(t.Cap, ((0 + i : Nat) : Int)), capsG_mem.2 ⟨i, t, ks, a, rfl, rfl⟩, by simpa using b⟩
theorem CWF.empty {n : Nat} (h1 : 1 ≤ n) (h2 : n ≤ 256) : CWF (List.replicate n none) := by
  have no : ∀ {i t ks}, ¬ Has (List.replicate n none) i t ks := fun h => by
    have := List.eq_of_mem_replicate (List.mem_of_getElem? h)
    cases this
  exact ⟨by rw [List.length_replicate]; exact ⟨h1, h2⟩, fun _ _ _ h => (no h).elim, fun _ _ _ h => (no h).elim, fun _ _ _ h => (no h).elim, ⟨fun _ => 0, 0, fun _ _ _ h => (no h).elim⟩, fun _ _ _ _ _ _ h => (no h).elim, fun _ _ _ _ _ _ h => (no h).elim, fun _ _ _ h => (no h).elim⟩
def rootE (es : List En) (n : Nat) (t : S_api_Token) : List En := es.set n (some (t, []))
def childE (es : List En) (q n : Nat) (t : S_api_Token) : List En := match es[q]? with
  | some (some (u, us)) => (es.set n (some (t, []))).set q (some (u, us ++ [(n : Int)]))
  | _ => es
theorem CWF.parent {es : List En} (w : CWF es) {n : Nat} (hn : es[n]? = some none) {j u us} (h : Has es j u us) : u.Parent ≠ n := fun e => by
  rcases w.up j u us h with q | ⟨i, t, ks, q, hi, _⟩
  · omega
  · obtain rfl : i = n := by omega
    unfold Has at hi; rw [hn] at hi; cases hi
theorem CWF.kid {es : List En} (w : CWF es) {n : Nat} (hn : es[n]? = some none) {j u us} (h : Has es j u us) : (n : Int) ∉ us := fun e => by
  obtain ⟨i, t, ks, q, hi, _⟩ := w.down j u us h _ e
  obtain rfl : n = i := by omega
  unfold Has at hi; rw [hn] at hi; cases hi
theorem has_set {es : List En} {n : Nat} (hn : n < es.length) {e : En} {i : Nat} {t ks} : Has (es.set n e) i t ks ↔ (i = n ∧ e = some (t, ks)) ∨ (i ≠ n ∧ Has es i t ks) := by
  unfold Has
  rw [List.getElem?_set]
  by_cases q : n = i
  · subst q
    rw [if_pos rfl, if_pos hn]
    constructor
    · intro h; cases h; exact .inl ⟨rfl, rfl⟩
    · rintro (⟨_, h⟩ | ⟨h, _⟩)
      · rw [h]
      · exact absurd rfl h
  · rw [if_neg q]
    constructor
    · intro h; exact .inr ⟨fun z => q z.symm, h⟩
    · rintro (⟨h, _⟩ | ⟨_, h⟩)
      · exact absurd h.symm q
      · exact h
theorem CWF.root {es : List En} (w : CWF es) {n : Nat} (hn : es[n]? = some none) {c : S_api_Cap} {r : Int} (hr : 1 ≤ r ∧ r ≤ 31) (h0 : cnt es c.Obj = 0) : CWF (rootE es n ⟨c, r, -1⟩) := by
  have hlt := lt_of_get hn
  have no : ∀ {i t ks}, Has es i t ks → t.Cap.Obj ≠ c.Obj := fun h e => by
    have := cnt_pos.2 ⟨_, _, _, h, e⟩
    omega
  have neN : ∀ {i t ks}, Has es i t ks → i ≠ n := fun h e => by subst e; unfold Has at h; rw [hn] at h; cases h
  refine ⟨by unfold rootE; rw [List.length_set]; exact w.len, fun i t ks h => ?_, fun i t ks h k hk => ?_, fun j u us h => ?_, ?_, fun i j t ks u us a b e => ?_, fun i j t ks u us a b e e' e'' => ?_, fun i t ks h => ?_⟩
  · rcases (has_set hlt).1 h with ⟨rfl, q⟩ | ⟨_, h⟩
    · cases q; exact List.nodup_nil
    · exact w.nd i t ks h
  · rcases (has_set hlt).1 h with ⟨rfl, q⟩ | ⟨_, h⟩
    · cases q; cases hk
    · obtain ⟨j, u, us, a, b, c⟩ := w.down i t ks h k hk
      exact ⟨j, u, us, a, (has_set hlt).2 (.inr ⟨neN b, b⟩), c⟩
  · rcases (has_set hlt).1 h with ⟨rfl, q⟩ | ⟨_, h⟩
    · cases q; exact .inl rfl
    · rcases w.up j u us h with q | ⟨i, t, ks, q, hi, z⟩
      · exact .inl q
      · exact .inr ⟨i, t, ks, q, (has_set hlt).2 (.inr ⟨neN hi, hi⟩), z⟩
  · obtain ⟨wt, B, hw⟩ := w.rank
    refine ⟨fun i => if i = n then 0 else wt i, B, fun j u us h => ?_⟩
    rcases (has_set hlt).1 h with ⟨rfl, q⟩ | ⟨hne, h⟩
    · cases q
      exact ⟨by dsimp only; rw [if_pos rfl]; omega, fun i e => by have e : (-1 : Int) = i := e; omega⟩
    · obtain ⟨a, b⟩ := hw j u us h
      refine ⟨by dsimp only; rw [if_neg hne]; exact a, fun i e => ?_⟩
      dsimp only
      rw [if_neg (fun q : i = n => w.parent hn h (q ▸ e)), if_neg hne]
      exact b i e
  · rcases (has_set hlt).1 a with ⟨rfl, q⟩ | ⟨_, a'⟩
    · cases q
      rcases (has_set hlt).1 b with ⟨rfl, _⟩ | ⟨_, b'⟩
      · rfl
      · exact absurd (by rw [← e]) (no b')
    · rcases (has_set hlt).1 b with ⟨rfl, q⟩ | ⟨_, b'⟩
      · cases q; exact absurd (by rw [e]) (no a')
      · exact w.cap i j t ks u us a' b' e
  · rcases (has_set hlt).1 a with ⟨rfl, q⟩ | ⟨_, a'⟩
    · cases q
      rcases (has_set hlt).1 b with ⟨rfl, _⟩ | ⟨_, b'⟩
      · rfl
      · exact absurd e''.symm (no b')
    · rcases (has_set hlt).1 b with ⟨rfl, q⟩ | ⟨_, b'⟩
      · cases q; exact absurd e'' (no a')
      · exact w.one i j t ks u us a' b' e e' e''
  · rcases (has_set hlt).1 h with ⟨rfl, q⟩ | ⟨_, h⟩
    · cases q; exact hr
    · exact w.right i t ks h
theorem nds_root {es : List En} {n : Nat} {c : S_api_Cap} {r : Int} : nds (rootE es n ⟨c, r, -1⟩) = rootN (nds es) n := by
  unfold nds rootE rootN
  rw [List.map_set]; rfl
theorem has_child {es : List En} {q n : Nat} {t : S_api_Token} {u us} (hq : Has es q u us) (hn : es[n]? = some none) {i : Nat} {v vs} : Has (childE es q n t) i v vs ↔ (i = n ∧ v = t ∧ vs = []) ∨ (i = q ∧ v = u ∧ vs = us ++ [(n : Int)]) ∨ (i ≠ n ∧ i ≠ q ∧ Has es i v vs) := by
  have hlt := lt_of_get hn
  have hne : n ≠ q := fun e => by subst e; unfold Has at hq; rw [hn] at hq; cases hq
  have e0 : childE es q n t = (es.set n (some (t, []))).set q (some (u, us ++ [(n : Int)])) := by unfold childE; rw [hq]
  rw [e0, has_set (by rw [List.length_set]; exact hq.lt), has_set hlt]
  constructor
  · rintro (⟨a, b⟩ | ⟨a, ⟨b, c⟩ | ⟨b, c⟩⟩)
    · cases b; exact .inr (.inl ⟨a, rfl, rfl⟩)
    · cases c; exact .inl ⟨b, rfl, rfl⟩
    · exact .inr (.inr ⟨b, a, c⟩)
  · rintro (⟨a, b, c⟩ | ⟨a, b, c⟩ | ⟨a, b, c⟩)
    · subst a b c; exact .inr ⟨hne, .inl ⟨rfl, rfl⟩⟩
    · subst a b c; exact .inl ⟨rfl, rfl⟩
    · exact .inr ⟨b, .inr ⟨a, c⟩⟩
theorem CWF.child {es : List En} (w : CWF es) {q n : Nat} {u us} (hq : Has es q u us) (hn : es[n]? = some none) {c : S_api_Cap} {r : Int} (ho : u.Cap.Obj = c.Obj) (hp : partOf r u.Rights = true) (hr : 1 ≤ r ∧ r ≤ 31) (h0 : ∀ i t ks, Has es i t ks → t.Cap ≠ c) : CWF (childE es q n ⟨c, r, q⟩) := by
  have H := fun {i v vs} => has_child (t := ⟨c, r, q⟩) (i := i) (v := v) (vs := vs) hq hn
  have neN : ∀ {i t ks}, Has es i t ks → i ≠ n := fun h e => by subst e; unfold Has at h; rw [hn] at h; cases h
  have hqn : q ≠ n := neN hq
  have old : ∀ {i v vs}, Has es i v vs → ∃ vs', Has (childE es q n ⟨c, r, q⟩) i v vs' ∧ (∀ k ∈ vs, k ∈ vs') := fun {i v vs} h => by
    by_cases e : i = q
    · subst e
      obtain ⟨rfl, rfl⟩ := hq.uniq h
      exact ⟨_, H.2 (.inr (.inl ⟨rfl, rfl, rfl⟩)), fun k hk => List.mem_append_left _ hk⟩
    · exact ⟨vs, H.2 (.inr (.inr ⟨neN h, e, h⟩)), fun k hk => hk⟩
  have back : ∀ {i v vs}, Has (childE es q n ⟨c, r, q⟩) i v vs → i ≠ n → ∃ vs', Has es i v vs' := fun {i v vs} h e => by
    rcases H.1 h with ⟨a, _⟩ | ⟨rfl, rfl, _⟩ | ⟨_, _, h⟩
    · exact absurd a e
    · exact ⟨_, hq⟩
    · exact ⟨_, h⟩
  have newc : ∀ {i v vs}, Has (childE es q n ⟨c, r, q⟩) i v vs → i = n → v = ⟨c, r, q⟩ := fun {i v vs} h e => by
    rcases H.1 h with ⟨_, a, _⟩ | ⟨a, _, _⟩ | ⟨a, _, _⟩
    · exact a
    · exact absurd (a.symm.trans e) hqn
    · exact absurd e a
  refine ⟨?_, fun i t ks h => ?_, fun i t ks h k hk => ?_, fun j v vs h => ?_, ?_, fun i j t ks v vs a b e => ?_, fun i j t ks v vs a b e e' e'' => ?_, fun i t ks h => ?_⟩
  · unfold childE; rw [hq]; simp only [List.length_set]; exact w.len
  · rcases H.1 h with ⟨_, _, rfl⟩ | ⟨rfl, rfl, rfl⟩ | ⟨_, _, h⟩
    · exact List.nodup_nil
    · rw [List.nodup_append]
      refine ⟨w.nd _ _ _ hq, by simp, fun a ha b hb e => ?_⟩
      obtain rfl := List.mem_singleton.1 hb
      subst e
      exact w.kid hn hq ha
    · exact w.nd i t ks h
  · have lift : ∀ {k : Int} {i : Nat} {t ks}, Has es i t ks → k ∈ ks → ∃ (j : Nat) (u : S_api_Token) (us : List Int), k = j ∧ Has (childE es q n ⟨c, r, q⟩) j u us ∧ u.Parent = i := fun hi hk => by
      obtain ⟨j, v, vs, a, b, c⟩ := w.down _ _ _ hi _ hk
      obtain ⟨vs', b', _⟩ := old b
      exact ⟨j, v, vs', a, b', c⟩
    rcases H.1 h with ⟨_, _, rfl⟩ | ⟨rfl, rfl, rfl⟩ | ⟨_, _, h⟩
    · cases hk
    · rcases List.mem_append.1 hk with hk | hk
      · exact lift hq hk
      · obtain rfl := List.mem_singleton.1 hk
        exact ⟨n, _, _, rfl, H.2 (.inl ⟨rfl, rfl, rfl⟩), rfl⟩
    · exact lift h hk
  · by_cases e : j = n
    · have := newc h e
      subst this; subst e
      refine .inr ⟨q, u, us ++ [(j : Int)], rfl, H.2 (.inr (.inl ⟨rfl, rfl, rfl⟩)), ?_, ho, hp⟩
      simp
    · obtain ⟨vs', h⟩ := back h e
      rcases w.up j v vs' h with z | ⟨i, t, ks, z, hi, m, z'⟩
      · exact .inl z
      · obtain ⟨ks', hi', sub⟩ := old hi
        exact .inr ⟨i, t, ks', z, hi', sub _ m, z'⟩
  · obtain ⟨wt, B, hw⟩ := w.rank
    refine ⟨fun i => if i = n then wt q + 1 else wt i, B + 1, fun j v vs h => ?_⟩
    by_cases e : j = n
    · have := newc h e
      subst this; subst e
      refine ⟨by dsimp only; rw [if_pos rfl]; have := (hw q u us hq).1; omega, fun i e => ?_⟩
      dsimp only
      have e : (q : Int) = i := e
      obtain rfl : q = i := by omega
      rw [if_neg hqn, if_pos rfl]; omega
    · obtain ⟨vs', h⟩ := back h e
      obtain ⟨a, b⟩ := hw j v vs' h
      refine ⟨by dsimp only; rw [if_neg e]; omega, fun i z => ?_⟩
      dsimp only
      rw [if_neg (fun q : i = n => w.parent hn h (q ▸ z)), if_neg e]
      exact b i z
  · by_cases e1 : i = n
    · by_cases e2 : j = n
      · omega
      · obtain ⟨vs', b⟩ := back b e2
        have := newc a e1
        subst this
        exact absurd e.symm (h0 _ _ _ b)
    · obtain ⟨ks', a⟩ := back a e1
      by_cases e2 : j = n
      · have := newc b e2
        subst this
        exact absurd e (h0 _ _ _ a)
      · obtain ⟨vs', b⟩ := back b e2
        exact w.cap _ _ _ _ _ _ a b e
  · by_cases e1 : i = n
    · have := newc a e1
      subst this
      have e : (q : Int) = -1 := e
      omega
    · obtain ⟨ks', a⟩ := back a e1
      by_cases e2 : j = n
      · have := newc b e2
        subst this
        have e' : (q : Int) = -1 := e'
        omega
      · obtain ⟨vs', b⟩ := back b e2
        exact w.one _ _ _ _ _ _ a b e e' e''
  · by_cases e : i = n
    · have := newc h e
      subst this; exact hr
    · obtain ⟨ks', h⟩ := back h e
      exact w.right _ _ _ h
theorem nds_child {es : List En} {q n : Nat} {t : S_api_Token} (ht : t.Parent = q) {u us} (hq : Has es q u us) : nds (childE es q n t) = childN (nds es) q n := by
  unfold childN
  rw [nds_get hq]
  unfold childE
  rw [hq]
  simp only [nds]
  rw [List.map_set, List.map_set]
  show ((es.map ndOf).set n ⟨true, t.Parent, []⟩).set q ⟨true, u.Parent, us ++ [(n : Int)]⟩ = _
  rw [ht]
def cutE (S : List Int) (es : List En) : List En := es.mapIdx fun i e => if (i : Int) ∈ S then none else e.map fun p => (p.1, p.2.filter fun k => decide (k ∉ S))
theorem cutE_len (S : List Int) (es : List En) : (cutE S es).length = es.length := by unfold cutE; rw [List.length_mapIdx]
theorem cutE_get (S : List Int) (es : List En) (i : Nat) : (cutE S es)[i]? = (es[i]?).map fun e => if (i : Int) ∈ S then none else e.map fun p => (p.1, p.2.filter fun k => decide (k ∉ S)) := by
  unfold cutE; rw [List.getElem?_mapIdx]
theorem cutE_congr {S T : List Int} (h : ∀ z, z ∈ S ↔ z ∈ T) (es : List En) : cutE S es = cutE T es := by
  apply List.ext_getElem?
  intro i
  rw [cutE_get, cutE_get]
  simp only [h]
theorem cutE_nil (es : List En) : cutE [] es = es := by
  apply List.ext_getElem?
  intro i
  rw [cutE_get]
  cases es[i]? with
  | none => rfl
  | some e =>
    cases e with
    | none => simp
    | some p => obtain ⟨t, ks⟩ := p; simp
theorem has_cut {S : List Int} {es : List En} {i : Nat} {t vs} : Has (cutE S es) i t vs ↔ (i : Int) ∉ S ∧ ∃ ks, Has es i t ks ∧ vs = ks.filter fun k => decide (k ∉ S) := by
  unfold Has
  rw [cutE_get]
  cases es[i]? with
  | none => simp
  | some e =>
    cases e with
    | none => simp
    | some p =>
      obtain ⟨u, us⟩ := p
      by_cases q : (i : Int) ∈ S
      · simp [q]
      · simp only [Option.map_some, if_neg q, Option.some.injEq, Prod.mk.injEq]
        constructor
        · rintro ⟨a, b⟩; exact ⟨q, us, ⟨a, rfl⟩, b.symm⟩
        · rintro ⟨_, ks, ⟨a, b⟩, c⟩; subst a b; exact ⟨rfl, c.symm⟩
theorem CWF.cut {es : List En} (w : CWF es) {S : List Int} (cl : ∀ i t ks, Has es i t ks → (i : Int) ∈ S → ∀ k ∈ ks, k ∈ S) : CWF (cutE S es) := by
  refine ⟨by rw [cutE_len]; exact w.len, fun i t vs h => ?_, fun i t vs h k hk => ?_, fun j u us h => ?_, ?_, fun i j t ks v vs a b e => ?_, fun i j t ks v vs a b e e' e'' => ?_, fun i t ks h => ?_⟩
  · obtain ⟨_, ks, h', rfl⟩ := has_cut.1 h
    exact List.Nodup.sublist List.filter_sublist (w.nd _ _ _ h')
  · obtain ⟨_, ks, h', rfl⟩ := has_cut.1 h
    obtain ⟨hk, hS⟩ := List.mem_filter.1 hk
    obtain ⟨j, u, us, rfl, hj, e⟩ := w.down _ _ _ h' _ hk
    exact ⟨j, u, _, rfl, has_cut.2 ⟨by simpa using hS, us, hj, rfl⟩, e⟩
  · obtain ⟨hS, ks, h', rfl⟩ := has_cut.1 h
    rcases w.up _ _ _ h' with q | ⟨i, t, vs, q, hi, m, z⟩
    · exact .inl q
    · refine .inr ⟨i, t, _, q, has_cut.2 ⟨fun hi' => hS (cl _ _ _ hi hi' _ m), vs, hi, rfl⟩, List.mem_filter.2 ⟨m, by simpa using hS⟩, z⟩
  · obtain ⟨wt, B, hw⟩ := w.rank
    refine ⟨wt, B, fun j u us h => ?_⟩
    obtain ⟨_, ks, h', rfl⟩ := has_cut.1 h
    exact hw _ _ _ h'
  · obtain ⟨_, _, a', rfl⟩ := has_cut.1 a
    obtain ⟨_, _, b', rfl⟩ := has_cut.1 b
    exact w.cap _ _ _ _ _ _ a' b' e
  · obtain ⟨_, _, a', rfl⟩ := has_cut.1 a
    obtain ⟨_, _, b', rfl⟩ := has_cut.1 b
    exact w.one _ _ _ _ _ _ a' b' e e' e''
  · obtain ⟨_, _, h', rfl⟩ := has_cut.1 h
    exact w.right _ _ _ h'
structure CutStep (es : List En) (S : List Int) (m : Nat) (t : S_api_Token) : Prop where
  leaf : Has (cutE S es) m t []
  nds : nds (cutE (S ++ [(m : Int)]) es) = cutN (nds (cutE S es)) m
  use : (cutE (S ++ [(m : Int)]) es).map Option.isSome = ((cutE S es).map Option.isSome).set m false
  caps : (capsG 0 (cutE S es)).Perm ((t.Cap, (m : Int)) :: capsG 0 (cutE (S ++ [(m : Int)]) es))
  par : 0 ≤ t.Parent → t.Parent.toNat ≠ m ∧ ∃ dq, (Go.Proofs.YtdleanjofhghnaaGreatDoor.K.nds (cutE S es))[t.Parent.toNat]? = some dq ∧ (m : Int) ∈ dq.kids ∧ dq.kids.length ≤ 256
theorem CWF.kids_le {es : List En} (w : CWF es) {i t ks} (h : Has es i t ks) : ks.length ≤ es.length := by
  refine nodup_le _ _ (w.nd _ _ _ h) fun z hz => ?_
  obtain ⟨j, u, us, rfl, hj, _⟩ := w.down _ _ _ h _ hz
  exact ⟨j, hj.lt, rfl⟩
theorem CWF.cutStep {es : List En} (w : CWF es) {S : List Int} {m : Nat} {t ks} (hm : Has es m t ks) (hS : (m : Int) ∉ S) (hk : ∀ k ∈ ks, k ∈ S) (hp : ∀ q : Nat, t.Parent = q → (q : Int) ∉ S) : CutStep es S m t := by
  have leaf : Has (cutE S es) m t [] := has_cut.2 ⟨hS, ks, hm, by rw [List.filter_eq_nil_iff.2]; intro a ha; simpa using hk a ha⟩
  have hmS : (m : Int) ∈ S ++ [(m : Int)] := by simp
  have memS : ∀ z : Int, z ∈ S ++ [(m : Int)] ↔ z ∈ S ∨ z = m := fun z => by rw [List.mem_append, List.mem_singleton]
  have own : ∀ {i u us}, Has es i u us → (m : Int) ∈ us → t.Parent = i := fun {i u us} h hmem => by
    obtain ⟨j, v, vs, e, hj, p⟩ := w.down _ _ _ h _ hmem
    obtain rfl : m = j := by omega
    obtain ⟨rfl, _⟩ := hm.uniq hj
    exact p
  have same : ∀ {i : Nat} {u us}, Has es i u us → t.Parent ≠ i → (us.filter fun k => decide (k ∉ S ++ [(m : Int)])) = us.filter fun k => decide (k ∉ S) := fun {i u us} h hne => by
    refine List.filter_congr fun k hkm => ?_
    rw [decide_eq_decide, memS]
    constructor
    · exact fun a b => a (.inl b)
    · rintro a (b | b)
      · exact a b
      · subst b; exact hne (own h hkm)
  have get2 : ∀ i : Nat, (nds (cutE (S ++ [(m : Int)]) es))[i]? = (es[i]?).map fun e => ndOf (if (i : Int) ∈ S ++ [(m : Int)] then none else e.map fun p => (p.1, p.2.filter fun k => decide (k ∉ S ++ [(m : Int)]))) := fun i => by
    unfold nds; rw [List.getElem?_map, cutE_get, Option.map_map]; rfl
  have get1 : ∀ i : Nat, (nds (cutE S es))[i]? = (es[i]?).map fun e => ndOf (if (i : Int) ∈ S then none else e.map fun p => (p.1, p.2.filter fun k => decide (k ∉ S))) := fun i => by
    unfold nds; rw [List.getElem?_map, cutE_get, Option.map_map]; rfl
  have hlm := hm.lt
  have hl1 : m < (nds (cutE S es)).length := by rw [nds_len, cutE_len]; exact hlm
  have at_m : (nds (cutE (S ++ [(m : Int)]) es))[m]? = some nd0 := by
    rw [get2, hm, Option.map_some, if_pos hmS]; rfl
  have other : ∀ i : Nat, i ≠ m → t.Parent ≠ i → (nds (cutE (S ++ [(m : Int)]) es))[i]? = (nds (cutE S es))[i]? := fun i h1 h2 => by
    rw [get1, get2]
    cases e : es[i]? with
    | none => rfl
    | some o =>
      rw [Option.map_some, Option.map_some]
      have hi : ((i : Int) ∈ S ++ [(m : Int)]) ↔ (i : Int) ∈ S := by
        rw [memS]
        constructor
        · rintro (a | a)
          · exact a
          · exact absurd (by omega) h1
        · exact .inl
      simp only [hi]
      cases o with
      | none => rfl
      | some p =>
        obtain ⟨u, us⟩ := p
        simp only [Option.map_some]
        rw [same e h2]
  refine ⟨leaf, ?_, ?_, ?_, fun h0 => ?_⟩
  · unfold cutN
    rw [nds_get leaf]
    simp only
    split
    · rename_i hneg
      apply List.ext_getElem?
      intro i
      rw [List.getElem?_set]
      by_cases e : m = i
      · subst e; rw [if_pos rfl, if_pos hl1, at_m]
      · rw [if_neg e]; exact other i (fun q => e q.symm) (by omega)
    · rename_i hpos
      rcases w.up _ _ _ hm with z | ⟨q, u, us, z, hq, hmem, _⟩
      · omega
      · have hqS := hp q z
        have h1 : Has (cutE S es) q u _ := has_cut.2 ⟨hqS, us, hq, rfl⟩
        have hqm : q ≠ m := fun e => by
          obtain ⟨wt, B, hw⟩ := w.rank
          have := (hw _ _ _ hm).2 q z
          rw [e] at this; omega
        rw [show t.Parent.toNat = q by omega, nds_get h1]
        simp only
        have hl2 : q < (nds (cutE S es)).length := by rw [nds_len, cutE_len]; exact hq.lt
        apply List.ext_getElem?
        intro i
        rw [List.getElem?_set, List.getElem?_set, List.length_set]
        by_cases e : m = i
        · subst e; rw [if_pos rfl, if_pos hl1, at_m]
        · rw [if_neg e]
          by_cases e2 : q = i
          · subst e2
            rw [if_pos rfl, if_pos hl2, get2, hq, Option.map_some]
            rw [if_neg (fun a => ((memS _).1 a).elim hqS fun b => hqm (by omega))]
            show some (Nd.mk true u.Parent _) = some (Nd.mk true u.Parent _)
            have nd := w.nd _ _ _ hq
            rw [List.Nodup.erase_eq_filter (List.Nodup.sublist List.filter_sublist nd), List.filter_filter]
            congr 2
            refine List.filter_congr fun k hkm => ?_
            rw [Bool.eq_iff_iff, decide_eq_true_eq, Bool.and_eq_true, decide_eq_true_eq, memS, bne_iff_ne]
            constructor
            · exact fun a => ⟨fun b => a (.inr b), fun b => a (.inl b)⟩
            · rintro ⟨a, b⟩ (c | c)
              · exact b c
              · exact a c
          · rw [if_neg e2]; exact other i (fun q => e q.symm) (by omega)
  · apply List.ext_getElem?
    intro i
    rw [List.getElem?_set, List.getElem?_map, List.getElem?_map, cutE_get, cutE_get, List.length_map, cutE_len]
    by_cases e : m = i
    · subst e; rw [if_pos rfl, if_pos hlm, hm]; simp
    · rw [if_neg e]
      have hi : ((i : Int) ∈ S ++ [(m : Int)]) ↔ (i : Int) ∈ S := by
        rw [memS]
        constructor
        · rintro (a | a)
          · exact a
          · exact absurd (by omega) e
        · exact .inl
      simp only [hi]
      cases es[i]? with
      | none => rfl
      | some o =>
        simp only [Option.map_some]
        split
        · rfl
        · cases o <;> rfl
  · have := capsG_kill (k := 0) leaf
    rw [Nat.zero_add] at this
    have e : capsG 0 ((cutE S es).set m none) = capsG 0 (cutE (S ++ [(m : Int)]) es) := by
      refine capsG_congr ?_
      apply List.ext_getElem?
      intro i
      rw [List.getElem?_map, List.getElem?_map, List.getElem?_set, cutE_get, cutE_get, cutE_len]
      by_cases e : m = i
      · subst e; rw [if_pos rfl, if_pos hlm, hm]; simp
      · rw [if_neg e]
        have hi : ((i : Int) ∈ S ++ [(m : Int)]) ↔ (i : Int) ∈ S := by
          rw [memS]
          constructor
          · rintro (a | a)
            · exact a
            · exact absurd (by omega) e
          · exact .inl
        simp only [hi]
        cases es[i]? with
        | none => rfl
        | some o =>
          simp only [Option.map_some]
          split
          · rfl
          · cases o <;> rfl
    rw [e] at this
    exact this
  · rcases w.up _ _ _ hm with z | ⟨q, u, us, z, hq, hmem, _⟩
    · omega
    · have hqS := hp q z
      have h1 : Has (cutE S es) q u _ := has_cut.2 ⟨hqS, us, hq, rfl⟩
      refine ⟨fun e => ?_, ⟨true, u.Parent, us.filter fun k => decide (k ∉ S)⟩, by rw [show t.Parent.toNat = q by omega]; exact nds_get h1, List.mem_filter.2 ⟨hmem, by simpa using hS⟩, ?_⟩
      · obtain ⟨wt, B, hw⟩ := w.rank
        have := (hw _ _ _ hm).2 q z
        have : q = m := by omega
        subst this; omega
      · have h2 := w.kids_le hq
        have h3 : (us.filter fun k => decide (k ∉ S)).length ≤ us.length := List.length_filter_le _ _
        have := w.len
        show (us.filter fun k => decide (k ∉ S)).length ≤ 256
        omega
theorem keyN {t : TypeId} (hu : Tryz.prog.underlying t = some (.int .i64)) : KeyEq (eqV Tryz.prog 40 t) (Value.int .i64) := fun a b => by
  show eqV Tryz.prog (39 + 1) t _ _ = _
  rw [eqV.eq_2, hu]
  rfl
theorem keyNi : KeyEq (eqV Tryz.prog 40 3) (Value.int .i64) := keyN (by kernel_rfl)
structure CL where
  tp : Nat
  ts : Sl
  kp : Nat
  ks : Sl
  F : Nat → Prop
  tk : Sl
  us : Sl
  rb : Nat
  cb : Nat
def CL.obj (L : CL) : S_catalogue_Catalogue := ⟨⟨some ⟨L.tp, 0, none⟩, some ⟨L.kp, 0, none⟩⟩, L.tk, L.us, some L.rb, some L.cb⟩
abbrev cTok := S_api_Token.cells
theorem tok_len : ∀ x, (cTok x).length = 5 := fun _ => rfl
theorem tok_plain : ∀ x, (cTok x).all plainVal = true := fun _ => rfl
structure CatRaw (h : H) (p : Nat) (L : CL) (most knob : Int) (l : List (S_api_Cap × Int)) (ns : List Nd) (ts : List S_api_Token) (us : List Bool) (lr lc : List (Int × Int)) : Prop where
  cell : h p = some (.cells (S_catalogue_Catalogue.cells L.obj).toArray N_catalogue_Catalogue (0, 0))
  tab : Tab h L.tp L.ts most knob l
  tree : Tree h L.kp L.ks L.F ns
  tok : Buf cTok 5 N_api_Token h L.tk ts
  use : Buf cBool 1 4 h L.us us
  roots : MapOf (Value.int .i64) (Value.int .i64) h L.rb lr
  count : MapOf (Value.int .i64) (Value.int .i64) h L.cb lc
  ne : L.rb ≠ L.cb
def comp (p : Nat) (L : CL) : Nat → Nat → Prop
  | 0, c => c = p
  | 1, c => c = L.tp ∨ L.ts.foot c
  | 2, c => L.F c
  | 3, c => L.tk.foot c
  | 4, c => L.us.foot c
  | 5, c => c = L.rb
  | 6, c => c = L.cb
  | _, _ => False
def CFoot (p : Nat) (L : CL) (c : Nat) : Prop := ∃ i, i < 7 ∧ comp p L i c
def ctys : Nat → List TypeId
  | 0 => [N_catalogue_Catalogue]
  | 1 => [N_slots_Table_int, N_slots_place_int]
  | 2 => [N_kin_Tree, N_kin_node, N_int]
  | 3 => [N_api_Token]
  | 4 => [4]
  | _ => []
section
variable {h : H} {p : Nat} {L : CL} {most knob : Int} {l : List (S_api_Cap × Int)} {ns : List Nd} {ts : List S_api_Token} {us : List Bool} {lr lc : List (Int × Int)}
theorem CatRaw.kind (x : CatRaw h p L most knob l ns ts us lr lc) {i c : Nat} (hi : i < 5) (hc : comp p L i c) : ∃ e, e ∈ ctys i ∧ Typed h e c := by
  match i, hi, hc with
  | 0, _, hc => exact ⟨_, List.mem_singleton_self _, by cases hc; exact Typed.of x.cell⟩
  | 1, _, hc =>
    rcases x.tab.typed hc with q | q
    · exact ⟨_, List.mem_cons_self .., q⟩
    · exact ⟨_, List.mem_cons_of_mem _ (List.mem_cons_self ..), q⟩
  | 2, _, hc =>
    rcases x.tree.typed hc with q | q | q
    · exact ⟨_, List.mem_cons_self .., q⟩
    · exact ⟨_, List.mem_cons_of_mem _ (List.mem_cons_self ..), q⟩
    · exact ⟨_, List.mem_cons_of_mem _ (List.mem_cons_of_mem _ (List.mem_cons_self ..)), q⟩
  | 3, _, hc => exact ⟨_, List.mem_singleton_self _, x.tok.typed hc⟩
  | 4, _, hc => exact ⟨_, List.mem_singleton_self _, x.use.typed hc⟩
theorem ctys_apart : ∀ i, i < 5 → ∀ j, j < 5 → i ≠ j → ∀ e ∈ ctys i, ∀ e' ∈ ctys j, (e : Nat) ≠ e' := by decide
theorem CatRaw.excl (x : CatRaw h p L most knob l ns ts us lr lc) {i j c : Nat} (hi : comp p L i c) (hj : comp p L j c) : i = j := by
  have bnd : ∀ {i}, comp p L i c → i < 7 := fun {i} q => by
    match i, q with
    | 0, _ => omega
    | 1, _ => omega
    | 2, _ => omega
    | 3, _ => omega
    | 4, _ => omega
    | 5, _ => omega
    | 6, _ => omega
    | _ + 7, q => exact q.elim
  have b1 := bnd hi
  have b2 := bnd hj
  have low : ∀ {i j}, i < 5 → 5 ≤ j → j < 7 → comp p L i c → comp p L j c → False := fun {i j} a b b' q r => by
    obtain ⟨e, _, t⟩ := x.kind a q
    rcases (by omega : j = 5 ∨ j = 6) with rfl | rfl
    · exact x.roots.untyped t r
    · exact x.count.untyped t r
  rcases Nat.lt_or_ge i 5 with q1 | q1
  · rcases Nat.lt_or_ge j 5 with q2 | q2
    · rcases Nat.decEq i j with n | n
      · obtain ⟨e, he, t⟩ := x.kind q1 hi
        obtain ⟨e', he', t'⟩ := x.kind q2 hj
        exact absurd rfl (t.ne t' (ctys_apart i q1 j q2 n e he e' he'))
      · exact n
    · exact (low q1 q2 b2 hi hj).elim
  · rcases Nat.lt_or_ge j 5 with q2 | q2
    · exact (low q2 q1 b1 hj hi).elim
    · rcases (by omega : i = 5 ∨ i = 6) with rfl | rfl <;> rcases (by omega : j = 5 ∨ j = 6) with rfl | rfl
      · rfl
      · exact absurd (hi.symm.trans hj) x.ne
      · exact absurd (hj.symm.trans hi) x.ne
      · rfl
theorem CatRaw.keep {h' : H} (x : CatRaw h p L most knob l ns ts us lr lc) (k : Keeps h h') : CatRaw h' p L most knob l ns ts us lr lc := ⟨k _ _ x.cell, x.tab.keep k, x.tree.keep k, x.tok.keep k, x.use.keep k, x.roots.keep k, x.count.keep k, x.ne⟩
theorem CatRaw.but {h' : H} {E : Nat → Prop} (x : CatRaw h p L most knob l ns ts us lr lc) (k : But E h h') (f : ∀ c, E c → ¬ CFoot p L c) : CatRaw h' p L most knob l ns ts us lr lc :=
  ⟨k _ _ x.cell fun q => f _ q ⟨0, by omega, rfl⟩, x.tab.but k fun c q => ⟨fun r => f _ q ⟨1, by omega, .inl r⟩, fun r => f _ q ⟨1, by omega, .inr r⟩⟩, x.tree.but k fun c q r => f _ q ⟨2, by omega, r⟩, x.tok.but k fun a ha q => f _ q ⟨3, by omega, ⟨a, ha, rfl⟩⟩, x.use.but k fun a ha q => f _ q ⟨4, by omega, ⟨a, ha, rfl⟩⟩, x.roots.but k fun q => f _ q ⟨5, by omega, rfl⟩, x.count.but k fun q => f _ q ⟨6, by omega, rfl⟩, x.ne⟩
theorem CatRaw.has (x : CatRaw h p L most knob l ns ts us lr lc) {c : Nat} (f : CFoot p L c) : h c ≠ none := by
  obtain ⟨i, hi, hc⟩ := f
  rcases Nat.lt_or_ge i 5 with q | q
  · obtain ⟨e, _, t⟩ := x.kind q hc
    exact t.has
  · rcases (by omega : i = 5 ∨ i = 6) with rfl | rfl
    · obtain ⟨es, cl, e, _⟩ := x.roots.ex
      cases hc; rw [e]; exact fun q => by cases q
    · obtain ⟨es, cl, e, _⟩ := x.count.ex
      cases hc; rw [e]; exact fun q => by cases q
section
variable {h' : H} {E : Nat → Prop}
theorem CatRaw.setTab (x : CatRaw h p L most knob l ns ts us lr lc) (k : But E h h') (hE : ∀ c, E c → comp p L 1 c) {l' : List (S_api_Cap × Int)} (t : Tab h' L.tp L.ts most knob l') : CatRaw h' p L most knob l' ns ts us lr lc := by
  have no : ∀ {j c}, j ≠ 1 → comp p L j c → ¬ E c := fun hj hc e => hj (x.excl hc (hE _ e))
  exact ⟨k _ _ x.cell (no (j := 0) (by decide) rfl), t, x.tree.but k fun c q r => no (j := 2) (by decide) r q, x.tok.but k fun a ha => no (j := 3) (by decide) ⟨a, ha, rfl⟩, x.use.but k fun a ha => no (j := 4) (by decide) ⟨a, ha, rfl⟩, x.roots.but k (no (j := 5) (by decide) rfl), x.count.but k (no (j := 6) (by decide) rfl), x.ne⟩
def CL.withF (L : CL) (F : Nat → Prop) : CL := { L with F := F }
theorem CatRaw.setTree (x : CatRaw h p L most knob l ns ts us lr lc) (k : But E h h') (hE : ∀ c, E c → comp p L 2 c) {ns' : List Nd} {F' : Nat → Prop} (t : Tree h' L.kp L.ks F' ns') : CatRaw h' p (L.withF F') most knob l ns' ts us lr lc := by
  have no : ∀ {j c}, j ≠ 2 → comp p L j c → ¬ E c := fun hj hc e => hj (x.excl hc (hE _ e))
  exact ⟨k _ _ x.cell (no (j := 0) (by decide) rfl), x.tab.but k fun c q => ⟨fun r => no (j := 1) (by decide) (.inl r) q, fun r => no (j := 1) (by decide) (.inr r) q⟩, t, x.tok.but k fun a ha => no (j := 3) (by decide) ⟨a, ha, rfl⟩, x.use.but k fun a ha => no (j := 4) (by decide) ⟨a, ha, rfl⟩, x.roots.but k (no (j := 5) (by decide) rfl), x.count.but k (no (j := 6) (by decide) rfl), x.ne⟩
theorem CatRaw.setTok (x : CatRaw h p L most knob l ns ts us lr lc) (k : But E h h') (hE : ∀ c, E c → comp p L 3 c) {ts' : List S_api_Token} (t : Buf cTok 5 N_api_Token h' L.tk ts') : CatRaw h' p L most knob l ns ts' us lr lc := by
  have no : ∀ {j c}, j ≠ 3 → comp p L j c → ¬ E c := fun hj hc e => hj (x.excl hc (hE _ e))
  exact ⟨k _ _ x.cell (no (j := 0) (by decide) rfl), x.tab.but k fun c q => ⟨fun r => no (j := 1) (by decide) (.inl r) q, fun r => no (j := 1) (by decide) (.inr r) q⟩, x.tree.but k fun c q r => no (j := 2) (by decide) r q, t, x.use.but k fun a ha => no (j := 4) (by decide) ⟨a, ha, rfl⟩, x.roots.but k (no (j := 5) (by decide) rfl), x.count.but k (no (j := 6) (by decide) rfl), x.ne⟩
theorem CatRaw.setUse (x : CatRaw h p L most knob l ns ts us lr lc) (k : But E h h') (hE : ∀ c, E c → comp p L 4 c) {us' : List Bool} (t : Buf cBool 1 4 h' L.us us') : CatRaw h' p L most knob l ns ts us' lr lc := by
  have no : ∀ {j c}, j ≠ 4 → comp p L j c → ¬ E c := fun hj hc e => hj (x.excl hc (hE _ e))
  exact ⟨k _ _ x.cell (no (j := 0) (by decide) rfl), x.tab.but k fun c q => ⟨fun r => no (j := 1) (by decide) (.inl r) q, fun r => no (j := 1) (by decide) (.inr r) q⟩, x.tree.but k fun c q r => no (j := 2) (by decide) r q, x.tok.but k fun a ha => no (j := 3) (by decide) ⟨a, ha, rfl⟩, t, x.roots.but k (no (j := 5) (by decide) rfl), x.count.but k (no (j := 6) (by decide) rfl), x.ne⟩
theorem CatRaw.setRoots (x : CatRaw h p L most knob l ns ts us lr lc) (k : But E h h') (hE : ∀ c, E c → comp p L 5 c) {lr' : List (Int × Int)} (t : MapOf (Value.int .i64) (Value.int .i64) h' L.rb lr') : CatRaw h' p L most knob l ns ts us lr' lc := by
  have no : ∀ {j c}, j ≠ 5 → comp p L j c → ¬ E c := fun hj hc e => hj (x.excl hc (hE _ e))
  exact ⟨k _ _ x.cell (no (j := 0) (by decide) rfl), x.tab.but k fun c q => ⟨fun r => no (j := 1) (by decide) (.inl r) q, fun r => no (j := 1) (by decide) (.inr r) q⟩, x.tree.but k fun c q r => no (j := 2) (by decide) r q, x.tok.but k fun a ha => no (j := 3) (by decide) ⟨a, ha, rfl⟩, x.use.but k fun a ha => no (j := 4) (by decide) ⟨a, ha, rfl⟩, t, x.count.but k (no (j := 6) (by decide) rfl), x.ne⟩
theorem CatRaw.setCount (x : CatRaw h p L most knob l ns ts us lr lc) (k : But E h h') (hE : ∀ c, E c → comp p L 6 c) {lc' : List (Int × Int)} (t : MapOf (Value.int .i64) (Value.int .i64) h' L.cb lc') : CatRaw h' p L most knob l ns ts us lr lc' := by
  have no : ∀ {j c}, j ≠ 6 → comp p L j c → ¬ E c := fun hj hc e => hj (x.excl hc (hE _ e))
  exact ⟨k _ _ x.cell (no (j := 0) (by decide) rfl), x.tab.but k fun c q => ⟨fun r => no (j := 1) (by decide) (.inl r) q, fun r => no (j := 1) (by decide) (.inr r) q⟩, x.tree.but k fun c q r => no (j := 2) (by decide) r q, x.tok.but k fun a ha => no (j := 3) (by decide) ⟨a, ha, rfl⟩, x.use.but k fun a ha => no (j := 4) (by decide) ⟨a, ha, rfl⟩, x.roots.but k (no (j := 5) (by decide) rfl), t, x.ne⟩
end
theorem KChg.part {h' : H} {E : Nat → Prop} {i : Nat} (k : But E h h') (hi : i < 7) (hE : ∀ c, E c → comp p L i c) (d : ∀ c, h' c = none → h c = none) : KChg (CFoot p L) (CFoot p L) h h' := ⟨k.mono fun c e => ⟨i, hi, hE c e⟩, fun _ f => .inl f, d⟩
theorem comp_withF {F' : Nat → Prop} {i c : Nat} (hi : i ≠ 2) : comp p (L.withF F') i c ↔ comp p L i c := by
  match i, hi with
  | 0, _ => exact Iff.rfl
  | 1, _ => exact Iff.rfl
  | 3, _ => exact Iff.rfl
  | 4, _ => exact Iff.rfl
  | 5, _ => exact Iff.rfl
  | 6, _ => exact Iff.rfl
  | _ + 7, _ => exact Iff.rfl
theorem KChg.tree {h' : H} {F' : Nat → Prop} (k : KChg L.F F' h h') : KChg (CFoot p L) (CFoot p (L.withF F')) h h' := by
  refine ⟨k.but.mono fun c e => ⟨2, by omega, e⟩, fun c f => ?_, k.dom⟩
  obtain ⟨i, hi, hc⟩ := f
  by_cases q : i = 2
  · subst q
    exact (k.foot c hc).imp (fun r => ⟨2, by omega, r⟩) id
  · exact .inl ⟨i, hi, (comp_withF q).1 hc⟩
theorem CatRaw.f (x : CatRaw h p L most knob l ns ts us lr lc) {n : Nat} {l1 l2 l3 : List Value} (e : S_catalogue_Catalogue.cells L.obj = l1 ++ l2 ++ l3) (hn : l1.length = n) : At h ((⟨p, 0, none⟩ : Addr).add n) l2 := by
  rw [pt_add]
  exact At.own (t := N_catalogue_Catalogue) (by rw [← e]; exact x.cell) hn
theorem CatRaw.fTab (x : CatRaw h p L most knob l ns ts us lr lc) : At h (((⟨p, 0, none⟩ : Addr).add 0).add 0) (cPtr (some ⟨L.tp, 0, none⟩)) := by
  rw [pt_add]; exact x.f (l1 := []) (l3 := (S_catalogue_Catalogue.cells L.obj).drop 1) rfl rfl
theorem CatRaw.fTree (x : CatRaw h p L most knob l ns ts us lr lc) : At h (((⟨p, 0, none⟩ : Addr).add 0).add 1) (cPtr (some ⟨L.kp, 0, none⟩)) := by
  rw [pt_add]; exact x.f (l1 := (S_catalogue_Catalogue.cells L.obj).take 1) (l3 := (S_catalogue_Catalogue.cells L.obj).drop 2) rfl rfl
theorem CatRaw.fTok (x : CatRaw h p L most knob l ns ts us lr lc) : At h ((⟨p, 0, none⟩ : Addr).add 2) (cSl L.tk) := x.f (l1 := (S_catalogue_Catalogue.cells L.obj).take 2) (l3 := (S_catalogue_Catalogue.cells L.obj).drop 3) rfl rfl
theorem CatRaw.fUse (x : CatRaw h p L most knob l ns ts us lr lc) : At h ((⟨p, 0, none⟩ : Addr).add 3) (cSl L.us) := x.f (l1 := (S_catalogue_Catalogue.cells L.obj).take 3) (l3 := (S_catalogue_Catalogue.cells L.obj).drop 4) rfl rfl
theorem CatRaw.fRoots (x : CatRaw h p L most knob l ns ts us lr lc) : At h ((⟨p, 0, none⟩ : Addr).add 4) (cMap (some L.rb)) := x.f (l1 := (S_catalogue_Catalogue.cells L.obj).take 4) (l3 := (S_catalogue_Catalogue.cells L.obj).drop 5) rfl rfl
theorem CatRaw.fCount (x : CatRaw h p L most knob l ns ts us lr lc) : At h ((⟨p, 0, none⟩ : Addr).add 5) (cMap (some L.cb)) := x.f (l1 := (S_catalogue_Catalogue.cells L.obj).take 5) (l3 := []) rfl rfl
def freeU (us : List Bool) : Option Nat := us.findIdx? fun b => !b
def freeI (us : List Bool) : Int := match freeU us with
  | some n => n
  | none => -1
theorem t_free (x : CatRaw h p L most knob l ns ts us lr lc) (hl : us.length ≤ 2 ^ 40) {K : Int → H → Prop} (y : K (freeI us) h) : m_catalogue_Catalogue_free (some ⟨p, 0, none⟩) K h := by
  unfold m_catalogue_Catalogue_free
  refine w_deref (w_load x.fUse ?_)
  have hlen := x.use.len
  refine w_for us.length (fun i (z : Int) h' => z = (i : Int) ∧ h = h' ∧ ∀ j, j < i → us[j]? = some true) ?_ ⟨rfl, rfl, fun j hj => absurd hj (Nat.not_lt_zero _)⟩
  rintro rec i z h' hi ⟨rfl, rfl, hall⟩ more
  refine w_if' (fun c => ?_) fun c => ?_
  · have c : (i : Int) < (L.us.len : Int) := c
    have hil : i < us.length := by omega
    refine w_get cb_len x.use.arr (List.getElem?_eq_getElem hil) rfl (v' := us[i]) rfl (w_if (fun e => ?_) fun e => ?_)
    · have : freeU us = some i := by
        unfold freeU
        rw [List.findIdx?_eq_some_iff_getElem]
        refine ⟨hil, e, fun j hj => ?_⟩
        have := hall j hj
        rw [List.getElem?_eq_getElem (by omega)] at this
        simp only [Option.some.injEq] at this
        simp [this]
      unfold freeI at y
      rw [this] at y
      exact y
    · refine more _ _ hil ⟨ia1 i (by omega), rfl, fun j hj => ?_⟩
      by_cases q : j = i
      · subst q; rw [List.getElem?_eq_getElem hil]; simpa using e
      · exact hall j (by omega)
  · have c : ¬ (i : Int) < (L.us.len : Int) := c
    have : freeU us = none := by
      unfold freeU
      rw [List.findIdx?_eq_none_iff]
      intro b hb
      obtain ⟨j, hj⟩ := List.mem_iff_getElem?.1 hb
      have := hall j (by have := lt_of_get hj; omega)
      rw [hj] at this
      cases this; rfl
    unfold freeI at y
    rw [this] at y
    exact y
theorem t_Cput (x : CatRaw h p L most knob l ns ts us lr lc) {n : Nat} {t : S_api_Token} (no : alook l t.Cap = none) (room : (l.length : Int) < most) (hn : n < ts.length) (hu : n < us.length) (hc : (alook lc t.Cap.Obj).getD 0 < 2 ^ 40 ∧ 0 ≤ (alook lc t.Cap.Obj).getD 0) {K : Unit → H → Prop}
    (y : ∀ h', CatRaw h' p L most knob (l ++ [(t.Cap, (n : Int))]) ns (ts.set n t) (us.set n true) lr (aset lc t.Cap.Obj ((alook lc t.Cap.Obj).getD 0 + 1)) → KChg (CFoot p L) (CFoot p L) h h' → K () h') : m_catalogue_Catalogue_put (some ⟨p, 0, none⟩) (n : Int) t K h := by
  unfold m_catalogue_Catalogue_put
  refine w_deref (w_load x.fTab (t_TPut x.tab (fun q => absurd no q) (fun _ q => by omega) fun _ _ h1 t1 c1 => ?_))
  have x1 := x.setTab c1.but (fun _ e => e) t1
  have k1 : KChg (CFoot p L) (CFoot p L) h h1 := .part (i := 1) c1.but (by omega) (fun _ e => e) c1.dom
  refine w_deref (w_deref (w_load x1.fTok (w_load x1.fUse ?_)))
  refine w_put tok_len x1.tok hn rfl t rfl fun h2 b2 e2 d2 => ?_
  have x2 := x1.setTok e2 (fun _ e => e) b2
  have k2 := k1.trans (.part (i := 3) e2 (by omega) (fun _ e => e) d2)
  refine w_put cb_len x2.use hu rfl true rfl fun h3 b3 e3 d3 => ?_
  have x3 := x2.setUse e3 (fun _ e => e) b3
  have k3 := k2.trans (.part (i := 4) e3 (by omega) (fun _ e => e) d3)
  refine w_deref (w_load x3.fCount (w_lookup keyNi x3.count ?_))
  rw [iAdd_eq (by omega) (by omega)]
  refine w_mapSet keyNi x3.count rfl rfl fun h4 m4 e4 d4 => ?_
  exact y h4 (x3.setCount e4 (fun _ e => e) m4) (k3.trans (.part (i := 6) e4 (by omega) (fun _ e => e) d4))
end
structure CRel (es : List En) (l : List (S_api_Cap × Int)) (ts : List S_api_Token) (lr lc : List (Int × Int)) : Prop where
  tl : ts.length = es.length
  tok : ∀ i t ks, Has es i t ks → ts[i]? = some t
  caps : l.Perm (capsG 0 es)
  oc : Once lc
  count : ∀ o, alook lc o = if cnt es o = 0 then none else some (cnt es o : Int)
  or : Once lr
  roots : ∀ o r, alook lr o = some r ↔ ∃ (i : Nat) (t : S_api_Token) (ks : List Int), r = i ∧ Has es i t ks ∧ t.Cap.Obj = o ∧ t.Parent = -1
structure Cat (h : H) (p : Nat) (knob : Int) (G : Nat → Prop) (es : List En) : Prop where
  ex : ∃ L l ts lr lc, CatRaw h p L es.length knob l (nds es) ts (es.map Option.isSome) lr lc ∧ (∀ c, G c ↔ CFoot p L c) ∧ CRel es l ts lr lc
  wf : CWF es
section
variable {h : H} {p : Nat} {knob : Int} {G : Nat → Prop} {es : List En}
theorem Cat.keep {h' : H} (x : Cat h p knob G es) (k : Keeps h h') : Cat h' p knob G es := by
  obtain ⟨L, l, ts, lr, lc, a, b, c⟩ := x.ex
  exact ⟨⟨L, l, ts, lr, lc, a.keep k, b, c⟩, x.wf⟩
theorem Cat.but {h' : H} {E : Nat → Prop} (x : Cat h p knob G es) (k : But E h h') (f : ∀ c, E c → ¬ G c) : Cat h' p knob G es := by
  obtain ⟨L, l, ts, lr, lc, a, b, c⟩ := x.ex
  exact ⟨⟨L, l, ts, lr, lc, a.but k fun c e q => f c e ((b c).2 q), b, c⟩, x.wf⟩
theorem Cat.has (x : Cat h p knob G es) {c : Nat} (f : G c) : h c ≠ none := by
  obtain ⟨L, l, ts, lr, lc, a, b, _⟩ := x.ex
  exact a.has ((b c).1 f)
end
def freeE (es : List En) : Option Nat := freeU (es.map Option.isSome)
theorem freeE_some {es : List En} {n : Nat} (h : freeE es = some n) : es[n]? = some none := by
  unfold freeE freeU at h
  rw [List.findIdx?_eq_some_iff_getElem] at h
  obtain ⟨hn, e, _⟩ := h
  rw [List.length_map] at hn
  rw [List.getElem?_eq_getElem hn]
  rw [List.getElem_map] at e
  cases q : es[n] with
  | none => rfl
  | some v => rw [q] at e; cases e
theorem freeI_eq (es : List En) : freeI (es.map Option.isSome) = match freeE es with
  | some n => (n : Int)
  | none => -1 := rfl
def isCap (c : S_api_Cap) : En → Bool
  | some (t, _) => decide (t.Cap = c)
  | none => false
def findE (es : List En) (c : S_api_Cap) : Option Nat := es.findIdx? (isCap c)
theorem findE_has {es : List En} {c : S_api_Cap} {n : Nat} (h : findE es c = some n) : ∃ (t : S_api_Token) (ks : List Int), Has es n t ks ∧ t.Cap = c := by
  unfold findE at h
  rw [List.findIdx?_eq_some_iff_getElem] at h
  obtain ⟨hn, e, _⟩ := h
  cases q : es[n] with
  | none => rw [q] at e; cases e
  | some v =>
    obtain ⟨t, ks⟩ := v
    rw [q] at e
    exact ⟨t, ks, by unfold Has; rw [List.getElem?_eq_getElem hn, q], of_decide_eq_true e⟩
theorem findE_none {es : List En} {c : S_api_Cap} (h : findE es c = none) {i t ks} (x : Has es i t ks) : t.Cap ≠ c := fun e => by
  unfold findE at h
  rw [List.findIdx?_eq_none_iff] at h
  have := h _ (List.mem_of_getElem? x)
  simp [isCap, e] at this
theorem CWF.find {es : List En} (w : CWF es) {i : Nat} {t ks} (x : Has es i t ks) : findE es t.Cap = some i := by
  cases h : findE es t.Cap with
  | none => exact absurd rfl (findE_none h x)
  | some n =>
    obtain ⟨u, us, hu, e⟩ := findE_has h
    rw [w.cap _ _ _ _ _ _ hu x e]
theorem capsG_le : ∀ (es : List En) (k : Nat), (capsG k es).length ≤ es.length := by
  intro es
  induction es with
  | nil => exact fun _ => Nat.le_refl _
  | cons e r ih =>
    intro k
    have := ih (k + 1)
    cases e with
    | none => rw [capsG]; simp only [List.length_cons]; omega
    | some p => obtain ⟨u, us⟩ := p; rw [capsG]; simp only [List.length_cons]; omega
theorem CRel.look {es : List En} {l ts lr lc} (x : CRel es l ts lr lc) (_ : CWF es) (o : Once l) (c : S_api_Cap) : alook l c = (findE es c).map fun n : Nat => (n : Int) := by
  cases h : findE es c with
  | some n =>
    obtain ⟨t, ks, a, b⟩ := findE_has h
    exact o.look (x.caps.symm.subset (capsG_mem.2 ⟨n, t, ks, a, b, by simp⟩))
  | none =>
    cases e : alook l c with
    | none => rfl
    | some v =>
      obtain ⟨i, t, ks, a, b, _⟩ := capsG_mem.1 (x.caps.subset (alook_mem e))
      exact absurd b (findE_none h a)
theorem cnt_cons {es es' : List En} {c : S_api_Cap} {v : Int} (h : (capsG 0 es').Perm ((c, v) :: capsG 0 es)) (o : Int) : cnt es' o = cnt es o + if c.Obj = o then 1 else 0 := by
  unfold cnt
  rw [h.countP_eq, List.countP_cons]
  simp
theorem capsG_child {es : List En} {q n : Nat} {t : S_api_Token} {u us} (hq : Has es q u us) (hn : es[n]? = some none) : (capsG 0 (childE es q n t)).Perm ((t.Cap, (n : Int)) :: capsG 0 es) := by
  have := capsG_new (t := t) (ks := []) (k := 0) hn
  rw [Nat.zero_add] at this
  refine .trans (.of_eq (capsG_congr ?_)) this
  apply List.ext_getElem?
  intro i
  have hne : n ≠ q := fun e => by subst e; unfold Has at hq; rw [hn] at hq; cases hq
  unfold childE
  rw [hq]
  rw [List.getElem?_map, List.getElem?_map, List.getElem?_set]
  by_cases e : q = i
  · subst e
    rw [if_pos rfl, List.length_set, if_pos hq.lt, List.getElem?_set, if_neg hne, hq]; rfl
  · rw [if_neg e]
theorem isSome_root {es : List En} {n : Nat} {t : S_api_Token} : (rootE es n t).map Option.isSome = (es.map Option.isSome).set n true := by
  unfold rootE; rw [List.map_set]; rfl
theorem isSome_child {es : List En} {q n : Nat} {t : S_api_Token} {u us} (hq : Has es q u us) (hn : es[n]? = some none) : (childE es q n t).map Option.isSome = (es.map Option.isSome).set n true := by
  unfold childE
  rw [hq]
  have hne : n ≠ q := fun e => by subst e; unfold Has at hq; rw [hn] at hq; cases hq
  apply List.ext_getElem?
  intro i
  rw [List.map_set, List.map_set, List.getElem?_set]
  by_cases e : q = i
  · subst e
    rw [if_pos rfl, List.length_set, List.length_map, if_pos hq.lt, List.getElem?_set, if_neg hne, List.getElem?_map, hq]; rfl
  · rw [if_neg e]; rfl
def tok0 : S_api_Token := ⟨⟨0, ⟨0, 0⟩⟩, 0, 0⟩
def atE (es : List En) (i : Int) : En := if 0 ≤ i then (es[i.toNat]?).getD none else none
theorem atE_nat (es : List En) (i : Nat) : atE es (i : Int) = (es[i]?).getD none := by
  unfold atE; rw [if_pos (by omega), Int.toNat_natCast]
theorem atE_has {es : List En} {i : Int} {t ks} : atE es i = some (t, ks) ↔ ∃ n : Nat, i = n ∧ Has es n t ks := by
  constructor
  · intro h
    unfold atE at h
    split at h
    · rename_i h0
      refine ⟨i.toNat, by omega, ?_⟩
      unfold Has
      cases e : es[i.toNat]? with
      | none => rw [e] at h; cases h
      | some o => rw [e] at h; exact congrArg some h
    · cases h
  · rintro ⟨n, rfl, h⟩
    rw [atE_nat, h]; rfl
def atOut (es : List En) (i : Int) : S_api_Token × Bool := match atE es i with
  | some (t, _) => (t, true)
  | none => (tok0, false)
def rootOut (es : List En) (c : S_api_Cap) (r : Int) : (Int × Int) × List En :=
  if 1 ≤ r ∧ r ≤ 31 then
    if 0 < cnt es c.Obj then ((0, 19), es) else
    match freeE es with
    | none => ((0, 10), es)
    | some n => (((n : Int), 0), rootE es n ⟨c, r, -1⟩)
  else ((0, 4), es)
def childOut (es : List En) (q : Int) (c : S_api_Cap) (r : Int) : (Int × Int) × List En := match atE es q with
  | none => ((0, 20), es)
  | some (t, _) =>
    if t.Cap.Obj = c.Obj then
      if partOf r t.Rights = true then
        if (findE es c).isSome then ((0, 19), es) else
        match freeE es with
        | none => ((0, 10), es)
        | some n => (((n : Int), 0), childE es q.toNat n ⟨c, r, q⟩)
      else ((0, 4), es)
    else ((0, 3), es)
theorem CWF.rootOut {es : List En} (w : CWF es) (c : S_api_Cap) (r : Int) : CWF (rootOut es c r).2 := by
  unfold K.rootOut
  split
  · rename_i hr
    split
    · exact w
    · rename_i h0
      split
      · exact w
      · rename_i n hn
        exact w.root (freeE_some hn) hr (by omega)
  · exact w
theorem CWF.childOut {es : List En} (w : CWF es) (q : Int) (c : S_api_Cap) (r : Int) : CWF (childOut es q c r).2 := by
  unfold K.childOut
  split
  · exact w
  · rename_i t ks hq
    obtain ⟨q, rfl, hq'⟩ := atE_has.1 hq
    split
    · rename_i ho
      split
      · rename_i hp
        split
        · exact w
        · rename_i hf
          split
          · exact w
          · rename_i n hn
            rw [Int.toNat_natCast]
            refine w.child hq' (freeE_some hn) ho hp (partOf_r hp) fun i t ks a => findE_none ?_ a
            cases e : findE es c with
            | none => rfl
            | some v => rw [e] at hf; exact absurd rfl hf
      · exact w
    · exact w
section
variable {h : H} {p : Nat} {knob : Int} {G : Nat → Prop} {es : List En}
theorem t_CAt (x : Cat h p knob G es) {i : Int} {K : S_api_Token × Bool → H → Prop} (y : K (atOut es i) h) : m_catalogue_Catalogue_At (some ⟨p, 0, none⟩) i K h := by
  obtain ⟨L, l, ts, lr, lc, a, b, c⟩ := x.ex
  unfold m_catalogue_Catalogue_At
  have hl := a.use.len
  rw [List.length_map] at hl
  have hw := x.wf.len
  refine w_joinV (decide (i < 0 ∨ (es.length : Int) ≤ i)) (fun j hj => ?_) ?_
  · refine w_if' (fun q => ?_) fun q => w_deref (w_load a.fUse ?_)
    · rw [decide_eq_true (.inl q)] at hj; exact hj
    · have e : decide ((L.us.len : Int) ≤ i) = decide (i < 0 ∨ (es.length : Int) ≤ i) := by rw [decide_eq_decide, hl]; constructor <;> omega
      rw [e]; exact hj
  · by_cases q : i < 0 ∨ (es.length : Int) ≤ i
    · rw [decide_eq_true q]
      refine w_join (w_ifT rfl (w_ifT rfl ?_))
      have e : atE es i = none := by
        unfold atE
        split
        · rw [List.getElem?_eq_none (by omega)]; rfl
        · rfl
      unfold atOut at y
      rw [e] at y
      exact y
    · rw [decide_eq_false q]
      obtain ⟨n, rfl⟩ : ∃ n : Nat, i = n := ⟨i.toNat, by omega⟩
      have hn : n < es.length := by omega
      have hn' : n < (es.map Option.isSome).length := by rw [List.length_map]; exact hn
      have hu : (es.map Option.isSome)[n]? = some (es[n]).isSome := by rw [List.getElem?_map, List.getElem?_eq_getElem hn]; rfl
      refine w_join (w_ifF rfl (w_deref (w_load a.fUse (w_get cb_len a.use.arr hu rfl (v' := (es[n]).isSome) rfl ?_))))
      unfold atOut at y
      rw [atE_nat, List.getElem?_eq_getElem hn] at y
      cases e : es[n] with
      | none =>
        rw [e] at y
        exact w_ifT rfl y
      | some v =>
        obtain ⟨t, ks⟩ := v
        rw [e] at y
        have ht : Has es n t ks := by unfold Has; rw [List.getElem?_eq_getElem hn, e]
        exact w_ifF rfl (w_deref (w_load a.fTok (w_get tok_len a.tok.arr (c.tok n t ks ht) rfl (v' := t) rfl y)))
theorem t_CFind (x : Cat h p knob G es) {c : S_api_Cap} {K : Int × Bool → H → Prop} (y : K (((findE es c).map fun n : Nat => (n : Int)).getD 0, (findE es c).isSome) h) : m_catalogue_Catalogue_Find (some ⟨p, 0, none⟩) c K h := by
  obtain ⟨L, l, ts, lr, lc, a, b, r⟩ := x.ex
  unfold m_catalogue_Catalogue_Find
  refine w_deref (w_load a.fTab (t_TGet a.tab ?_))
  rw [r.look x.wf a.tab.once]
  dsimp only
  rw [Option.isSome_map]
  exact y
theorem t_CCount (x : Cat h p knob G es) {K : Int → H → Prop} (y : K ((capsG 0 es).length : Nat) h) : m_catalogue_Catalogue_Count (some ⟨p, 0, none⟩) K h := by
  obtain ⟨L, l, ts, lr, lc, a, b, r⟩ := x.ex
  unfold m_catalogue_Catalogue_Count
  refine w_deref (w_load a.fTab (t_TLen a.tab ?_))
  rw [r.caps.length_eq]
  exact y
theorem t_CIn (x : Cat h p knob G es) {o : Int} {K : Int → H → Prop} (y : K (cnt es o : Nat) h) : m_catalogue_Catalogue_In (some ⟨p, 0, none⟩) o K h := by
  obtain ⟨L, l, ts, lr, lc, a, b, r⟩ := x.ex
  unfold m_catalogue_Catalogue_In
  refine w_deref (w_load a.fCount (w_lookup keyNi a.count ?_))
  have e : (alook lc o).getD 0 = (cnt es o : Int) := by
    rw [r.count]
    split
    · rename_i h0; rw [h0]; rfl
    · rfl
  rw [e]
  exact y
theorem CRel.cnt0 {l ts lr lc} (r : CRel es l ts lr lc) (o : Int) : (alook lc o).getD 0 = (cnt es o : Int) := by
  rw [r.count]
  split
  · rename_i h0; rw [h0]; rfl
  · rfl
theorem t_CRoot (x : Cat h p knob G es) {c : S_api_Cap} {r : Int} {K : Int × Int → H → Prop} (y : ∀ G' h', Cat h' p knob G' (rootOut es c r).2 → KChg G G' h h' → K (rootOut es c r).1 h') : m_catalogue_Catalogue_Root (some ⟨p, 0, none⟩) c r K h := by
  have wf := x.wf.rootOut c r
  obtain ⟨L, l, ts, lr, lc, a, b, rl⟩ := x.ex
  have hw := x.wf.len
  unfold rootOut at y wf
  unfold m_catalogue_Catalogue_Root
  refine t_free a (by rw [List.length_map]; omega) (w_Valid ?_)
  by_cases hr : 1 ≤ r ∧ r ≤ 31
  · rw [if_pos hr] at y wf
    rw [decide_eq_true hr]
    refine w_ifF rfl (w_deref (w_load a.fCount (w_lookup keyNi a.count ?_)))
    rw [rl.cnt0]
    refine w_if' (fun h0 => ?_) fun h0 => ?_
    · have h0 : 0 < (cnt es c.Obj : Int) := h0
      rw [if_pos (by omega)] at y
      exact y _ _ x (.refl _ _)
    · have h0 : ¬ 0 < (cnt es c.Obj : Int) := h0
      rw [if_neg (by omega)] at y wf
      rw [freeI_eq]
      cases hf : freeE es with
      | none =>
        rw [hf] at y
        exact w_ifT rfl (y _ _ x (.refl _ _))
      | some n =>
        rw [hf] at y wf
        dsimp only at y wf
        have hn := freeE_some hf
        have hlt := lt_of_get hn
        dsimp only
        refine w_ifF (decide_eq_false (by simp)) (w_deref (w_load a.fTree ?_))
        refine t_KRoot a.tree (by rw [nds_len]; exact hlt) ?_ fun h1 F1 t1 c1 => ?_
        · cases q : hasN (nds es) (n : Int) with
          | false => rfl
          | true =>
            obtain ⟨i, t, ks, e, hi⟩ := hasN_nds.1 q
            obtain rfl : n = i := by omega
            unfold Has at hi; rw [hn] at hi; cases hi
        have a1 := a.setTree c1.but (fun _ e => e) t1
        have k1 : KChg (CFoot p L) (CFoot p (L.withF F1)) h h1 := .tree c1
        have no : ∀ {i t ks}, Has es i t ks → t.Cap.Obj ≠ c.Obj := fun h e => by
          have := cnt_pos.2 ⟨_, _, _, h, e⟩
          omega
        have hfn : findE es c = none := by
          cases q : findE es c with
          | none => rfl
          | some v => obtain ⟨t, ks, z, e⟩ := findE_has q; exact absurd (by rw [e]) (no z)
        have hlook : alook l c = none := by rw [rl.look x.wf a.tab.once, hfn]; rfl
        have hnew := capsG_new (t := ⟨c, r, -1⟩) (ks := []) (k := 0) hn
        rw [Nat.zero_add] at hnew
        have hlen := hnew.length_eq
        have hle := capsG_le (es.set n (some (⟨c, r, -1⟩, []))) 0
        rw [List.length_set] at hle
        rw [List.length_cons] at hlen
        have hll := rl.caps.length_eq
        have e0 := rl.cnt0 c.Obj
        have hz : cnt es c.Obj = 0 := by omega
        refine t_Cput a1 (t := ⟨c, r, -1⟩) hlook (by omega) (by rw [rl.tl]; exact hlt) (by rw [List.length_map]; exact hlt) (by dsimp only; rw [e0, hz]; omega) fun h2 a2 k2 => ?_
        refine w_deref (w_load a2.fRoots (w_mapSet keyNi a2.roots rfl rfl fun h3 m3 e3 d3 => ?_))
        have a3 := a2.setRoots e3 (fun _ e => e) m3
        have k3 := (k1.trans k2).trans (KChg.part (i := 5) (p := p) (L := L.withF F1) e3 (by omega) (fun _ e => e) d3)
        have e1 : (rootE es n ⟨c, r, -1⟩).length = es.length := by unfold rootE; rw [List.length_set]
        have a4 := a3
        rw [← e1, ← nds_root (c := c) (r := r), ← isSome_root (t := ⟨c, r, -1⟩)] at a4
        refine y (CFoot p (L.withF F1)) h3 ⟨⟨L.withF F1, _, _, _, _, a4, fun _ => Iff.rfl, ?_⟩, wf⟩ ⟨k3.but.mono fun c f => (b c).2 f, fun c f => (k3.foot c f).imp (b c).2 id, k3.dom⟩
        · have H := fun {i t ks} => has_set (es := es) (n := n) hlt (e := some (⟨c, r, -1⟩, [])) (i := i) (t := t) (ks := ks)
          have neN : ∀ {i t ks}, Has es i t ks → i ≠ n := fun h e => by subst e; unfold Has at h; rw [hn] at h; cases h
          refine ⟨by unfold rootE; rw [List.length_set, List.length_set]; exact rl.tl, fun i t ks hi => ?_, ?_, rl.oc.set _ _, fun o => ?_, rl.or.set _ _, fun o v => ?_⟩
          · rw [List.getElem?_set]
            rcases H.1 hi with ⟨rfl, q⟩ | ⟨q, hi⟩
            · cases q; rw [if_pos rfl, if_pos (by rw [rl.tl]; exact hlt)]
            · rw [if_neg (fun z => q z.symm)]; exact rl.tok i t ks hi
          · exact (List.perm_append_comm (l₂ := [(c, (n : Int))])).trans ((rl.caps.cons _).trans hnew.symm)
          · rw [alook_set, cnt_cons (es' := rootE es n ⟨c, r, -1⟩) hnew]
            dsimp only
            rw [e0, rl.count o]
            by_cases q : o = c.Obj
            · subst q; rw [if_pos rfl, if_pos rfl, hz]; rfl
            · have q' : ¬ c.Obj = o := fun z => q z.symm
              simp only [if_neg q, if_neg q', Nat.add_zero]
          · rw [alook_set]
            by_cases q : o = c.Obj
            · subst q
              rw [if_pos rfl]
              constructor
              · intro e; cases e; exact ⟨n, _, _, rfl, H.2 (.inl ⟨rfl, rfl⟩), rfl, rfl⟩
              · rintro ⟨i, t, ks, rfl, hi, e, _⟩
                rcases H.1 hi with ⟨rfl, _⟩ | ⟨_, hi⟩
                · rfl
                · exact absurd e (no hi)
            · rw [if_neg q, rl.roots]
              constructor
              · rintro ⟨i, t, ks, rfl, hi, e⟩; exact ⟨i, t, ks, rfl, H.2 (.inr ⟨neN hi, hi⟩), e⟩
              · rintro ⟨i, t, ks, rfl, hi, e⟩
                rcases H.1 hi with ⟨_, z⟩ | ⟨_, hi⟩
                · cases z; exact absurd e.1.symm q
                · exact ⟨i, t, ks, rfl, hi, e⟩
  · rw [if_neg hr] at y
    rw [decide_eq_false hr]
    exact w_ifT rfl (y _ _ x (.refl _ _))
theorem t_CChild (x : Cat h p knob G es) {qi : Int} {c : S_api_Cap} {r : Int} {K : Int × Int → H → Prop} (y : ∀ G' h', Cat h' p knob G' (childOut es qi c r).2 → KChg G G' h h' → K (childOut es qi c r).1 h') : m_catalogue_Catalogue_Child (some ⟨p, 0, none⟩) qi c r K h := by
  have wf := x.wf.childOut qi c r
  have hw := x.wf.len
  unfold childOut at y wf
  unfold m_catalogue_Catalogue_Child
  refine t_CAt x ?_
  unfold atOut
  cases hqi : atE es qi with
  | none =>
    rw [hqi] at y
    exact w_ifT rfl (y _ _ x (.refl _ _))
  | some v =>
    obtain ⟨u, us⟩ := v
    rw [hqi] at y wf
    obtain ⟨q, rfl, hq⟩ := atE_has.1 hqi
    simp only at y wf
    obtain ⟨L, l, ts, lr, lc, a, b, rl⟩ := x.ex
    refine w_ifF rfl (w_deref (w_load a.fTab (t_TGet a.tab ?_)))
    rw [rl.look x.wf a.tab.once]
    refine t_free a (by rw [List.length_map]; omega) ?_
    by_cases ho : u.Cap.Obj = c.Obj
    · rw [if_pos ho] at y wf
      refine w_ifF (by simp [ho]) (w_Part ?_)
      cases hp : partOf r u.Rights with
      | false =>
        rw [if_neg (by rw [hp]; decide)] at y
        exact w_ifT rfl (y _ _ x (.refl _ _))
      | true =>
        rw [if_pos hp] at y wf
        refine w_ifF rfl ?_
        cases hf : findE es c with
        | some v =>
          rw [hf] at y
          exact w_ifT rfl (y _ _ x (.refl _ _))
        | none =>
          rw [hf] at y wf
          simp only [Option.isSome_none, Bool.false_eq_true, if_false] at y wf
          refine w_ifF rfl ?_
          rw [freeI_eq]
          cases hfr : freeE es with
          | none =>
            rw [hfr] at y
            exact w_ifT rfl (y _ _ x (.refl _ _))
          | some n =>
            rw [hfr] at y wf
            dsimp only at y wf
            dsimp only
            have hn := freeE_some hfr
            have hlt := lt_of_get hn
            refine w_ifF (decide_eq_false (by simp)) (w_deref (w_load a.fTree ?_))
            have hnN : hasN (nds es) (n : Int) = false := by
              cases z : hasN (nds es) (n : Int) with
              | false => rfl
              | true =>
                obtain ⟨i, t, ks, e, hi⟩ := hasN_nds.1 z
                obtain rfl : n = i := by omega
                unfold Has at hi; rw [hn] at hi; cases hi
            refine t_KChild a.tree (by rw [nds_len]; exact hlt) hnN (hasN_nds.2 ⟨q, u, us, rfl, hq⟩) (fun d hd => ?_) fun h1 F1 t1 c1 => ?_
            · rw [nds_get hq] at hd
              cases hd
              have := x.wf.kids_le hq
              show us.length ≤ 256
              omega
            have a1 := a.setTree c1.but (fun _ e => e) t1
            have k1 : KChg (CFoot p L) (CFoot p (L.withF F1)) h h1 := .tree c1
            have hlook : alook l c = none := by rw [rl.look x.wf a.tab.once, hf]; rfl
            have hnew := capsG_child (t := ⟨c, r, (q : Int)⟩) hq hn
            have hlen := hnew.length_eq
            have e1 : (childE es q n ⟨c, r, (q : Int)⟩).length = es.length := by unfold childE; rw [hq]; simp only [List.length_set]
            have hle := capsG_le (childE es q n ⟨c, r, (q : Int)⟩) 0
            rw [e1] at hle
            rw [List.length_cons] at hlen
            have hll := rl.caps.length_eq
            have e0 := rl.cnt0 c.Obj
            have hcl := cnt_le es c.Obj
            refine t_Cput a1 (t := ⟨c, r, (q : Int)⟩) hlook (by omega) (by rw [rl.tl]; exact hlt) (by rw [List.length_map]; exact hlt) (by dsimp only; rw [e0]; omega) fun h2 a2 k2 => ?_
            have k3 := k1.trans k2
            rw [Int.toNat_natCast] at y wf
            have a4 := a2
            rw [← e1, ← nds_child (t := ⟨c, r, (q : Int)⟩) rfl hq, ← isSome_child (t := ⟨c, r, (q : Int)⟩) hq hn] at a4
            refine y (CFoot p (L.withF F1)) h2 ⟨⟨L.withF F1, _, _, _, _, a4, fun _ => Iff.rfl, ?_⟩, wf⟩ ⟨k3.but.mono fun c f => (b c).2 f, fun c f => (k3.foot c f).imp (b c).2 id, k3.dom⟩
            · have H := fun {i v vs} => has_child (t := ⟨c, r, (q : Int)⟩) (i := i) (v := v) (vs := vs) hq hn
              have neN : ∀ {i t ks}, Has es i t ks → i ≠ n := fun h e => by subst e; unfold Has at h; rw [hn] at h; cases h
              refine ⟨by rw [e1, List.length_set]; exact rl.tl, fun i t ks hi => ?_, ?_, rl.oc.set _ _, fun o => ?_, rl.or, fun o v => ?_⟩
              · rw [List.getElem?_set]
                rcases H.1 hi with ⟨rfl, rfl, _⟩ | ⟨rfl, rfl, _⟩ | ⟨z, _, hi⟩
                · rw [if_pos rfl, if_pos (by rw [rl.tl]; exact hlt)]
                · rw [if_neg (fun z => neN hq z.symm)]; exact rl.tok _ _ _ hq
                · rw [if_neg (fun w => z w.symm)]; exact rl.tok i t ks hi
              · exact (List.perm_append_comm (l₂ := [(c, (n : Int))])).trans ((rl.caps.cons _).trans hnew.symm)
              · rw [alook_set, cnt_cons hnew]
                dsimp only
                rw [e0, rl.count o]
                by_cases z : o = c.Obj
                · subst z; rw [if_pos rfl, if_pos rfl, if_neg (by omega)]; rfl
                · have z' : ¬ c.Obj = o := fun w => z w.symm
                  simp only [if_neg z, if_neg z', Nat.add_zero]
              · rw [rl.roots]
                constructor
                · rintro ⟨i, t, ks, rfl, hi, e⟩
                  by_cases z : i = q
                  · subst z
                    obtain ⟨rfl, rfl⟩ := hq.uniq hi
                    exact ⟨i, _, _, rfl, H.2 (.inr (.inl ⟨rfl, rfl, rfl⟩)), e⟩
                  · exact ⟨i, t, ks, rfl, H.2 (.inr (.inr ⟨neN hi, z, hi⟩)), e⟩
                · rintro ⟨i, t, ks, rfl, hi, e⟩
                  rcases H.1 hi with ⟨rfl, rfl, _⟩ | ⟨rfl, rfl, _⟩ | ⟨_, _, hi⟩
                  · have := e.2; have : (q : Int) = -1 := this; omega
                  · exact ⟨i, _, _, rfl, hq, e⟩
                  · exact ⟨i, t, ks, rfl, hi, e⟩
    · rw [if_neg ho] at y
      exact w_ifT (by simp [ho]) (y _ _ x (.refl _ _))
end
theorem w_DownF {h0 h : H} {p : Nat} {s : Sl} {F : Nat → Prop} {ns : List Nd} (x : Tree h0 p s F ns) (kp : Keeps h0 h) {n : Nat} {l : List Int} (hl : PreL (chN ns) [(n : Int)] l) (live : LiveL ns l) (len : l.length ≤ 4096)
    {body : Int → ((H → Prop) → H → Prop) → (Nat → H → Prop) → H → Prop} {k : Nat → H → Prop} (b : Int → (Nat → H → Prop) → H → Prop) (hb : ∀ x mid kj, body x mid kj = mid (b x kj))
    (R : (Nat → Prop) → Nat → H → Prop) (has : ∀ G i h, R G i h → ∀ c, G c → h c ≠ none) (stab : ∀ G i h h' E, R G i h → But E h h' → (∀ c, E c → ¬ G c) → R G i h') {G0 : Nat → Prop} (r0 : R G0 0 h) (g0 : ∀ c, G0 c → h0 c = none)
    (step : ∀ (i : Nat) (z : Nat), l[i]? = some (z : Int) → ∀ G h' kj, R G i h' → Keeps h0 h' → (∀ c, G c → h0 c = none) → (∀ G' h'', R G' (i + 1) h'' → KChg G G' h' h'' → kj 0 h'') → b (z : Int) kj h')
    (y : ∀ G h', R G l.length h' → Keeps h0 h' → (∀ c, G c → h0 c = none) → k 0 h') :
    m_walk_Down (some ⟨p, 0, none⟩) (n : Int) (fun r => mRangeF (A := Int) Tryz.prog (fun x => [(Value.int .i64 x)]) r.1 body k) h := by
  refine w_Down (x.keep kp) hl live len b hb (fun D i h' => ∃ G, R G i h' ∧ Keeps h0 h' ∧ (∀ c, G c → h0 c = none) ∧ ∀ c, D c ↔ G c ∨ h0 c ≠ none) ?_ ?_ (G0 := fun c => G0 c ∨ h0 c ≠ none) ⟨G0, r0, kp, g0, fun _ => Iff.rfl⟩ ?_ ?_
  · rintro D i h' ⟨G, r, k', g, d⟩ c hc
    rcases (d c).1 hc with q | q
    · exact has _ _ _ r c q
    · intro e; exact q (k'.fresh e)
  · rintro D i h' h'' E ⟨G, r, k', g, d⟩ bE nE
    refine ⟨G, stab _ _ _ _ _ r bE (fun c q w => nE c q ((d c).2 (.inl w))), fun c o q => bE c o (k' c o q) fun w => nE c w ((d c).2 (.inr (by rw [q]; exact fun z => by cases z))), g, d⟩
  · rintro i z hz D h' kj ⟨G, r, k', g, d⟩ next
    refine step i z hz G h' kj r k' g fun G' h'' r' c' => ?_
    have g' : ∀ c, G' c → h0 c = none := fun c q => (c'.foot c q).elim (g c) fun e => k'.fresh e
    refine next (fun c => G' c ∨ h0 c ≠ none) h'' ⟨G', r', k'.but c'.but g, g', fun _ => Iff.rfl⟩ ⟨c'.but.mono fun c q => (d c).2 (.inl q), fun c q => ?_, c'.dom⟩
    rcases q with q | q
    · exact (c'.foot c q).imp (fun w => (d c).2 (.inl w)) id
    · exact .inl ((d c).2 (.inr q))
  · rintro D h' ⟨G, r, k', g, d⟩ _
    exact y G h' r k' g
structure NewSt (h : H) (t u : Option Sl) (ms : List Nat) (n : Nat) (h' : H) : Prop where
  keep : Keeps h h'
  tok : ∀ s, t = some s → Buf cTok 5 N_api_Token h' s (List.replicate n tok0) ∧ ∀ c, s.foot c → h c = none
  use : ∀ s, u = some s → Buf cBool 1 4 h' s (List.replicate n false) ∧ ∀ c, s.foot c → h c = none
  maps : ∀ m, m ∈ ms → MapOf (Value.int .i64) (Value.int .i64) h' m ([] : List (Int × Int)) ∧ h m = none
  nd : ms.Nodup
theorem NewSt.more {h h' h'' : H} {t u : Option Sl} {ms : List Nat} {n : Nat} (x : NewSt h t u ms n h') (k : Keeps h' h'') : NewSt h t u ms n h'' :=
  ⟨x.keep.trans k, fun s e => ⟨(x.tok s e).1.keep k, (x.tok s e).2⟩, fun s e => ⟨(x.use s e).1.keep k, (x.use s e).2⟩, fun m e => ⟨(x.maps m e).1.keep k, (x.maps m e).2⟩, x.nd⟩
theorem NewSt.doTok {h h' : H} {u : Option Sl} {ms : List Nat} {n : Nat} (x : NewSt h none u ms n h') (hn : n ≤ 256) {k : Sl → H → Prop} (y : ∀ s h'', NewSt h (some s) u ms n h'' → k s h'') : mMake N_api_Token 40 #[(Value.int .i64 0), (Value.int .u64 0), (Value.int .u64 0), (Value.int .i64 0), (Value.int .i64 0)] (n : Int) (n : Int) k h' := by
  refine w_make tok_len tok0 rfl rfl rfl (by omega) (by omega) fun s h2 bu k2 f2 _ => y s h2 ?_
  have z := x.more k2
  exact ⟨z.keep, fun s' e => by cases e; exact ⟨bu, fun c f => x.keep.fresh (f2 c f)⟩, z.use, z.maps, z.nd⟩
theorem NewSt.doUse {h h' : H} {t : Option Sl} {ms : List Nat} {n : Nat} (x : NewSt h t none ms n h') (hn : n ≤ 256) {k : Sl → H → Prop} (y : ∀ s h'', NewSt h t (some s) ms n h'' → k s h'') : mMake 4 1 #[(Value.bool false)] (n : Int) (n : Int) k h' := by
  refine w_make cb_len false rfl rfl rfl (by omega) (by omega) fun s h2 bu k2 f2 _ => y s h2 ?_
  have z := x.more k2
  exact ⟨z.keep, z.tok, fun s' e => by cases e; exact ⟨bu, fun c f => x.keep.fresh (f2 c f)⟩, z.maps, z.nd⟩
theorem NewSt.doMap {h h' : H} {t u : Option Sl} {ms : List Nat} {n : Nat} (x : NewSt h t u ms n h') {k : Option Nat → H → Prop} (y : ∀ m h'', NewSt h t u (m :: ms) n h'' → k (some m) h'') : mMakeMap k h' := by
  refine w_makeMap (Value.int .i64) (Value.int .i64) fun b h2 f2 mp k2 => y b h2 ?_
  have z := x.more k2
  refine ⟨z.keep, z.tok, z.use, fun m e => ?_, List.nodup_cons.2 ⟨fun e => ?_, x.nd⟩⟩
  · rcases List.mem_cons.1 e with q | q
    · subst q; exact ⟨mp, x.keep.fresh f2⟩
    · exact z.maps m q
  · obtain ⟨es, cl, q, _⟩ := (x.maps b e).1.ex
    rw [f2] at q; cases q
theorem cnt_none (n : Nat) (o : Int) : cnt (List.replicate n none) o = 0 := by
  cases e : cnt (List.replicate n none) o with
  | zero => rfl
  | succ k =>
    obtain ⟨i, t, ks, hi, _⟩ := cnt_pos.1 (by omega : 0 < cnt (List.replicate n none) o)
    have := List.eq_of_mem_replicate (List.mem_of_getElem? hi)
    cases this
theorem capsG_none : ∀ (n k : Nat), capsG k (List.replicate n none) = [] := by
  intro n
  induction n with
  | zero => exact fun _ => rfl
  | succ n ih => intro k; rw [List.replicate_succ, capsG, ih]
theorem t_CNew {h : H} {a0 a1 : Int} {K : Option Addr × Int → H → Prop} (bad : (a0 < 1 ∨ 256 < a0 ∨ a1 < 0 ∨ 64 < a1) → K (none, 16) h)
    (good : 0 ≤ a1 → a1 ≤ 64 → ∀ n : Nat, a0 = n → 1 ≤ n → n ≤ 256 → ∀ p G h', Cat h' p a1 G (List.replicate n none) → Keeps h h' → (∀ c, G c → h c = none) → K (some ⟨p, 0, none⟩, 0) h') : m_catalogue_New a0 a1 K h := by
  unfold m_catalogue_New
  refine w_if (fun c => bad ?_) fun c => ?_
  · simp only [Bool.or_eq_true, decide_eq_true_eq] at c; omega
  simp only [Bool.or_eq_false_iff, decide_eq_false_iff_not] at c
  obtain ⟨n, rfl⟩ : ∃ n : Nat, a0 = n := ⟨a0.toNat, by omega⟩
  refine t_TNew (fun q => by omega) fun _ _ _ _ tp ts h1 t1 k1 f1 f1' => w_ifF rfl ?_
  refine t_KNew (by omega) fun kp ks F h2 t2 k2 f2 => w_ifF rfl ?_
  have s0 : NewSt h2 none none [] n h2 := ⟨.refl _, fun s e => (by cases e), fun s e => (by cases e), fun m e => (by cases e), List.nodup_nil⟩
  refine w_joinP (fun s3 h' => ∃ tk us m1 m2, s3 = (tk, us, some m1, some m2) ∧ NewSt h2 (some tk) (some us) [m1, m2] n h') (fun j hj => ?_) ?_
  · have fin1 : ∀ {tk us m1 m2 h'}, NewSt h2 (some tk) (some us) [m1, m2] n h' → j (tk, us, some m1, some m2) h' := fun z => hj _ _ ⟨_, _, _, _, rfl, z⟩
    have fin2 : ∀ {tk us m1 m2 h'}, NewSt h2 (some tk) (some us) [m2, m1] n h' → j (tk, us, some m1, some m2) h' := fun z => hj _ _ ⟨_, _, _, _, rfl, z.keep, z.tok, z.use, fun m e => z.maps m (by simp only [List.mem_cons, List.not_mem_nil, or_false] at e ⊢; exact e.symm), (List.Perm.swap _ _ []).nodup_iff.1 z.nd⟩
    have hn : n ≤ 256 := by omega
    repeat' first
      | refine w_both ?_ ?_
      | refine NewSt.doTok (by assumption) hn fun _ _ _ => ?_
      | refine NewSt.doUse (by assumption) hn fun _ _ _ => ?_
      | refine NewSt.doMap (by assumption) fun _ _ _ => ?_
      | exact fin1 (by assumption)
      | exact fin2 (by assumption)
  · rintro s3 h3 ⟨tk, us, m1, m2, rfl, z⟩
    refine w_box fun p h4 f4 c4 k4 => ?_
    obtain ⟨bt, ft⟩ := z.tok _ rfl
    obtain ⟨bu, fu⟩ := z.use _ rfl
    obtain ⟨mp1, fm1⟩ := z.maps m1 (by simp)
    obtain ⟨mp2, fm2⟩ := z.maps m2 (by simp)
    have hne : m1 ≠ m2 := by have := z.nd; simpa using this
    have k02 := k1.trans k2
    refine good (by omega) (by omega) n rfl (by omega) (by omega) p (CFoot p ⟨tp, ts, kp, ks, F, tk, us, m1, m2⟩) h4 ⟨⟨⟨tp, ts, kp, ks, F, tk, us, m1, m2⟩, [], List.replicate n tok0, [], [], ⟨c4, ?_, ?_, bt.keep k4, ?_, mp1.keep k4, mp2.keep k4, hne⟩, fun _ => Iff.rfl, ?_⟩, CWF.empty (by omega) (by omega)⟩ ((k02.trans z.keep).trans k4) fun c f => ?_
    · have := ((t1.keep k2).keep z.keep).keep k4
      rw [List.length_replicate]
      exact this
    · have := (t2.keep z.keep).keep k4
      unfold nds
      rw [List.map_replicate]
      exact this
    · rw [List.map_replicate]; exact bu.keep k4
    · have no : ∀ {i t ks}, ¬ Has (List.replicate n none) i t ks := fun h => by
        have := List.eq_of_mem_replicate (List.mem_of_getElem? h)
        cases this
      refine ⟨by rw [List.length_replicate, List.length_replicate], fun i t ks h => (no h).elim, by rw [capsG_none], List.nodup_nil, fun o => by rw [cnt_none]; rfl, List.nodup_nil, fun o r => ⟨fun h => (by cases h), fun ⟨i, t, ks, _, h, _⟩ => (no h).elim⟩⟩
    · obtain ⟨i, hi, hc⟩ := f
      match i, hi, hc with
      | 0, _, hc => cases hc; exact k02.fresh (z.keep.fresh f4)
      | 1, _, hc =>
        rcases hc with q | q
        · cases q; exact f1
        · exact f1' c q
      | 2, _, hc => exact k1.fresh (f2 c hc)
      | 3, _, hc => exact k02.fresh (ft c hc)
      | 4, _, hc => exact k02.fresh (fu c hc)
      | 5, _, hc => cases hc; exact k02.fresh fm1
      | 6, _, hc => cases hc; exact k02.fresh fm2
theorem CWF.parObj {es : List En} (w : CWF es) {x z : Int} (d : Desc (chN (nds es)) x z) {i : Nat} {t ks} (hx : x = i) (hi : Has es i t ks) : ∀ {j : Nat} {u us}, z = j → Has es j u us → u.Cap.Obj = t.Cap.Obj := by
  induction d with
  | refl =>
    intro j u us e hj
    obtain rfl : i = j := by omega
    obtain ⟨rfl, _⟩ := hi.uniq hj
    rfl
  | snoc d hz ih =>
    intro j u us e hj
    obtain ⟨a, v, vs, rfl, ha, hk⟩ := chN_mem hz
    subst e
    obtain ⟨b, v', vs', e, hb, hp⟩ := w.down _ _ _ ha _ hk
    obtain rfl : j = b := by omega
    obtain ⟨rfl, _⟩ := hj.uniq hb
    rcases w.up _ _ _ hj with q | ⟨i', t', ks', q, hi', _, ho, _⟩
    · omega
    · obtain rfl : a = i' := by omega
      rw [← ho]; exact ih rfl hi'
theorem CWF.rootOf {es : List En} (w : CWF es) : ∀ {j u us}, Has es j u us → ∃ (r : Nat) (t : S_api_Token) (ks : List Int), Has es r t ks ∧ t.Parent = -1 ∧ t.Cap.Obj = u.Cap.Obj ∧ Desc (chN (nds es)) (r : Int) (j : Int) := by
  obtain ⟨wt, B, hw⟩ := w.rank
  have main : ∀ k, ∀ {j u us}, Has es j u us → wt j < k → ∃ (r : Nat) (t : S_api_Token) (ks : List Int), Has es r t ks ∧ t.Parent = -1 ∧ t.Cap.Obj = u.Cap.Obj ∧ Desc (chN (nds es)) (r : Int) (j : Int) := by
    intro k
    induction k with
    | zero => intro j u us _ q; omega
    | succ k ih =>
      intro j u us hj hk
      rcases w.up _ _ _ hj with q | ⟨i, t, ks, q, hi, hm, ho, _⟩
      · exact ⟨j, u, us, hj, q, rfl, .refl⟩
      · have := (hw _ _ _ hj).2 i q
        obtain ⟨r, v, vs, hr, p, o, d⟩ := ih hi (by omega)
        exact ⟨r, v, vs, hr, p, o.trans ho, d.snoc (by rw [chN_nds hi]; exact hm)⟩
  exact fun {j u us} hj => main _ hj (Nat.lt_succ_self _)
theorem Below.closed {es : List En} {n : Nat} {l : List Int} (b : Below es n l) {i : Nat} {t ks} (hi : Has es i t ks) (hm : (i : Int) ∈ l) {k : Int} (hk : k ∈ ks) : k ∈ l := by
  obtain ⟨r, hr, d⟩ := b.pre.mem.1 hm
  exact b.pre.mem.2 ⟨r, hr, d.snoc (by rw [chN_nds hi]; exact hk)⟩
theorem Below.obj {es : List En} (w : CWF es) {n : Nat} {l : List Int} (b : Below es n l) {t ks} (hn : Has es n t ks) {i : Nat} {u us} (hm : (i : Int) ∈ l) (hi : Has es i u us) : u.Cap.Obj = t.Cap.Obj := by
  obtain ⟨r, hr, d⟩ := b.pre.mem.1 hm
  obtain rfl := List.mem_singleton.1 hr
  exact w.parObj d rfl hn rfl hi
theorem Below.down {es : List En} {n : Nat} {l : List Int} (b : Below es n l) {i j : Int} (hm : i ∈ l) (d : Desc (chN (nds es)) i j) : j ∈ l := by
  obtain ⟨r, hr, d'⟩ := b.pre.mem.1 hm
  exact b.pre.mem.2 ⟨r, hr, d'.trans d⟩
def capAt (es : List En) (z : Int) : S_api_Cap := match atE es z with
  | some (t, _) => t.Cap
  | none => ⟨0, ⟨0, 0⟩⟩
theorem capAt_has {es : List En} {i : Nat} {t ks} (h : Has es i t ks) : capAt es (i : Int) = t.Cap := by
  unfold capAt
  rw [(atE_has (i := (i : Int))).2 ⟨i, rfl, h⟩]
theorem CRel.drop {es : List En} {l : List (S_api_Cap × Int)} {ts lr lc} (rl : CRel es l ts lr lc) (w : CWF es) {n : Nat} {t ks} (hn : Has es n t ks) {bl : List Int} (b : Below es n bl) {l' : List (S_api_Cap × Int)} (hl' : l'.Perm (capsG 0 (cutE bl es)))
    (hc : ∀ o, cnt es o = cnt (cutE bl es) o + if o = t.Cap.Obj then bl.length else 0) :
    CRel (cutE bl es) l' ts (if cnt (cutE bl es) t.Cap.Obj = 0 then adel lr t.Cap.Obj else lr) (if cnt (cutE bl es) t.Cap.Obj = 0 then adel (aset lc t.Cap.Obj 0) t.Cap.Obj else aset lc t.Cap.Obj (cnt (cutE bl es) t.Cap.Obj)) := by
  have hnl : (n : Int) ∈ bl := b.pre.mem.2 ⟨n, by simp, .refl⟩
  have objIn : ∀ {i u us}, Has es i u us → (i : Int) ∈ bl → u.Cap.Obj = t.Cap.Obj := fun hi hm => b.obj w hn hm hi
  refine ⟨by rw [cutE_len]; exact rl.tl, fun i u us h => ?_, hl', ?_, fun o => ?_, ?_, fun o r => ?_⟩
  · obtain ⟨_, vs, h', _⟩ := has_cut.1 h
    exact rl.tok _ _ _ h'
  · split
    · exact (rl.oc.set _ _).del _
    · exact rl.oc.set _ _
  · by_cases q : o = t.Cap.Obj
    · subst q
      split
      · rw [alook_del _ _ _ (rl.oc.set _ _), if_pos rfl]
      · rw [alook_set, if_pos rfl]
    · have e := hc o
      rw [if_neg q] at e
      have : cnt es o = cnt (cutE bl es) o := by omega
      rw [← this, ← rl.count o]
      split
      · rw [alook_del _ _ _ (rl.oc.set _ _), if_neg q, alook_set, if_neg q]
      · rw [alook_set, if_neg q]
  · split
    · exact rl.or.del _
    · exact rl.or
  · -- the roots that stay
    have key : (∃ (i : Nat) (u : S_api_Token) (us : List Int), r = i ∧ Has (cutE bl es) i u us ∧ u.Cap.Obj = o ∧ u.Parent = -1) ↔ alook lr o = some r ∧ r ∉ bl := by
      rw [rl.roots]
      constructor
      · rintro ⟨i, u, us, rfl, h, e⟩
        obtain ⟨q, vs, h', _⟩ := has_cut.1 h
        exact ⟨⟨i, u, vs, rfl, h', e⟩, q⟩
      · rintro ⟨⟨i, u, us, rfl, h, e⟩, q⟩
        exact ⟨i, u, _, rfl, has_cut.2 ⟨q, us, h, rfl⟩, e⟩
    rw [key]
    by_cases q : o = t.Cap.Obj
    · subst q
      split
      · rename_i h0
        rw [alook_del _ _ _ rl.or, if_pos rfl]
        constructor
        · intro z; cases z
        · intro z
          obtain ⟨i, u, us, _, hi, e, _⟩ := key.2 z
          have := cnt_pos.2 ⟨i, u, us, hi, e⟩
          omega
      · rename_i h0
        obtain ⟨j, u, us, hj, ej⟩ := cnt_pos.1 (Nat.pos_of_ne_zero h0)
        obtain ⟨hjl, vs, hj', _⟩ := has_cut.1 hj
        obtain ⟨r', v, vs', hr', p', o', d'⟩ := w.rootOf hj'
        have hr'l : (r' : Int) ∉ bl := fun hm => hjl (b.down hm d')
        constructor
        · intro z
          refine ⟨z, ?_⟩
          obtain ⟨i, x, xs, rfl, hi, ei, pi⟩ := (rl.roots _ _).1 z
          rw [w.one _ _ _ _ _ _ hi hr' pi p' (ei.trans (ej.symm.trans o'.symm))]
          exact hr'l
        · exact fun z => z.1
    · have : alook (if cnt (cutE bl es) t.Cap.Obj = 0 then adel lr t.Cap.Obj else lr) o = alook lr o := by
        split
        · rw [alook_del _ _ _ rl.or, if_neg q]
        · rfl
      rw [this]
      constructor
      · intro z
        refine ⟨z, fun hm => ?_⟩
        obtain ⟨i, x, xs, rfl, hi, ei, _⟩ := (rl.roots _ _).1 z
        exact q (ei.symm.trans (objIn hi hm))
      · exact fun z => z.1
section
variable {h : H} {p : Nat} {knob : Int} {G : Nat → Prop} {es : List En}
theorem t_CDrop (x : Cat h p knob G es) {i : Int} {K : Sl × Int → H → Prop} (no : atE es i = none → ∀ h', Keeps h h' → K (Sl.nil, 20) h')
    (y : ∀ n t ks l, i = ((n : Nat) : Int) → Has es n t ks → Below es n l → ∀ s' G' h', Cat h' p knob G' (cutE l es) → KChg G G' h h' → Buf S_api_Cap.cells 3 N_api_Cap h' s' (l.map (capAt es)) → (∀ c, s'.foot c → h c = none) → (∀ c, s'.foot c → ¬ G' c) → K (s', 0) h') : m_catalogue_Catalogue_Drop (some ⟨p, 0, none⟩) i K h := by
  have wf := x.wf
  obtain ⟨L, al, ts, lr, lc, a, b, rl⟩ := x.ex
  unfold m_catalogue_Catalogue_Drop
  refine w_box fun b1 h1 f1 c1 k1 => w_load (v := some ⟨p, 0, none⟩) (cells := cPtr) (at_box c1) (t_CAt (x.keep k1) (w_box fun b4 h2 f2 c2 k2 => w_setBox c2 rfl fun h3 c3 e3 d3 => ?_))
  have k02 : Keeps h h2 := k1.trans k2
  have k03 : Keeps h h3 := k02.but e3 fun c q => by subst q; exact k1.fresh f2
  have k13 : Keeps h1 h3 := k2.but e3 fun c q => by subst q; exact f2
  unfold atOut at c3 ⊢
  cases hi : atE es i with
  | none =>
    exact w_ifT rfl (no hi h3 k03)
  | some v =>
    obtain ⟨t, ks⟩ := v
    obtain ⟨n, rfl, hn⟩ := atE_has.1 hi
    obtain ⟨l, bl⟩ := wf.ex hn
    have wl := wf.len
    have ll := bl.len
    rw [hi] at c3
    have c3 : h3 b4 = some (.cells (cTok t).toArray N_api_Token (0, 0)) := c3
    refine w_ifF rfl (w_box fun b5 h4 f4 c4 k4 => w_load (v := some ⟨p, 0, none⟩) (cells := cPtr) (at_box ((k13.trans k4) _ _ c1)) (w_deref (w_load ((a.keep k03).keep k4).fTree ?_)))
    have k04 := k03.trans k4
    refine w_DownF a.tree k04 bl.pre bl.live (by omega) _ (fun _ _ _ => rfl)
      (fun E i h' => ∃ s, (∀ c, E c ↔ c = b1 ∨ c = b4 ∨ c = b5 ∨ s.foot c) ∧ h' b1 = some (.cells [Value.pointer (some ⟨p, 0, none⟩)].toArray N_P_catalogue_Catalogue (0, 0)) ∧ h' b4 = some (.cells (cTok t).toArray N_api_Token (0, 0)) ∧ h' b5 = some (.cells [Sl.val s].toArray N_Sl_api_Cap (0, 0)) ∧ Buf S_api_Cap.cells 3 N_api_Cap h' s ((l.take i).map (capAt es))) ?_ ?_ (G0 := fun c => c = b1 ∨ c = b4 ∨ c = b5 ∨ Sl.nil.foot c)
      ⟨Sl.nil, fun _ => Iff.rfl, (k13.trans k4) _ _ c1, k4 _ _ c3, c4, Buf.nil⟩ ?_ ?_ ?_
    · rintro E i h' ⟨s, hE, g1, g4, g5, bu⟩ c hc
      rcases (hE c).1 hc with rfl | rfl | rfl | q
      · rw [g1]; exact fun z => by cases z
      · rw [g4]; exact fun z => by cases z
      · rw [g5]; exact fun z => by cases z
      · exact bu.has q
    · rintro E i h' h'' E' ⟨s, hE, g1, g4, g5, bu⟩ bE nE
      exact ⟨s, hE, bE _ _ g1 fun q => nE _ q ((hE _).2 (.inl rfl)), bE _ _ g4 fun q => nE _ q ((hE _).2 (.inr (.inl rfl))), bE _ _ g5 fun q => nE _ q ((hE _).2 (.inr (.inr (.inl rfl)))), bu.but bE fun a ha q => nE _ q ((hE _).2 (.inr (.inr (.inr ⟨a, ha, rfl⟩))))⟩
    · rintro c (rfl | rfl | rfl | ⟨_, q, _⟩)
      · exact f1
      · exact k1.fresh f2
      · exact k03.fresh f4
      · cases q
    · -- a round
      rintro i z hz E h' kj ⟨s, hE, g1, g4, g5, bu⟩ kp fr next
      obtain ⟨z', u, us, e, hu⟩ := hasN_nds.1 (bl.live _ (List.mem_of_getElem? hz))
      obtain rfl : z = z' := by omega
      have a' := a.keep kp
      refine w_load (v := s) (cells := cSl) (at_box g5) (w_load (v := some ⟨p, 0, none⟩) (cells := cPtr) (at_box g1) (w_deref (w_load a'.fTok ?_)))
      refine w_field tok_len a'.tok.arr (rl.tok _ _ _ hu) rfl (v' := u.Cap) (cells' := S_api_Cap.cells) (l1 := []) (l3 := (cTok u).drop 3) rfl rfl (w_box fun b20 h5 f5 c5 k5 => ?_)
      have hil := lt_of_get hz
      refine w_append (by_ := 24) cap_len cap_plain rfl (bu.keep k5) (Buf.one cap_len c5).arr (.inl ?_) fun s6 h6 bu6 e6 fo6 d6 => ?_
      · simp only [List.length_map, List.length_take, List.length_singleton]; omega
      have t5 := Typed.of (k5 _ _ g5)
      have nb : ∀ {bb : Nat} {e : TypeId} {cs : Array Value}, h' bb = some (.cells cs e (0, 0)) → e ≠ N_api_Cap → ¬ s.foot bb := fun q ne f => (bu.typed f).ne (Typed.of q) (fun z => ne z.symm) rfl
      have g5' := e6 _ _ (k5 _ _ g5) (nb g5 (by decide))
      refine w_setBox g5' rfl fun h7 c7 e7 d7 => ?_
      have n15 : b1 ≠ b5 := (Typed.of g1).ne (Typed.of g5) (by decide)
      have n45 : b4 ≠ b5 := (Typed.of g4).ne (Typed.of g5) (by decide)
      have kb : But (fun c => s.foot c ∨ c = b5) h' h7 := ((But.of k5 : But (fun c => s.foot c ∨ c = b5) h' h5).trans (e6.mono fun _ q => .inl q) fun _ q => .inl q).trans (e7.mono fun _ q => .inr q) fun _ q => .inl q
      have fo : ∀ c, s6.foot c → s.foot c ∨ h' c = none := fun c q => (fo6 c q).imp id fun w => k5.fresh w
      refine next (fun c => c = b1 ∨ c = b4 ∨ c = b5 ∨ s6.foot c) h7 ⟨s6, fun _ => Iff.rfl, kb _ _ g1 ?_, kb _ _ g4 ?_, c7, ?_⟩ ⟨kb.mono fun c q => (hE c).2 ?_, fun c q => ?_, fun c q => k5.fresh (d6 c (d7 c q))⟩
      · rintro (q | q)
        · exact nb g1 (by decide) q
        · exact n15 q
      · rintro (q | q)
        · exact nb g4 (by decide) q
        · exact n45 q
      · have := bu6.but e7 fun a ha q => (bu6.typed ⟨a, ha, rfl⟩).ne (Typed.of g5') (by decide) q
        have e1 : (l.take (i + 1)).map (capAt es) = (l.take i).map (capAt es) ++ [u.Cap] := by
          rw [List.take_add_one, hz, List.map_append]
          show _ = _ ++ [u.Cap]
          rw [← capAt_has hu]; rfl
        rw [e1]; exact this
      · rcases q with q | q
        · exact .inr (.inr (.inr q))
        · exact .inr (.inr (.inl q))
      · rcases q with q | q | q | q
        · exact .inl ((hE c).2 (.inl q))
        · exact .inl ((hE c).2 (.inr (.inl q)))
        · exact .inl ((hE c).2 (.inr (.inr (.inl q))))
        · exact (fo c q).imp (fun w => (hE c).2 (.inr (.inr (.inr w)))) id
    · -- behind the range
      rintro E h5 ⟨s, hE, g1, g4, g5, bu⟩ k05 fr
      rw [List.take_length] at bu
      refine w_ifT rfl (w_load (v := some ⟨p, 0, none⟩) (cells := cPtr) (at_box g1) (w_deref (w_load (a.keep k05).fTree ?_)))
      obtain ⟨m, hm, hpost, hperm⟩ := bl.pre.post wf.forest
      have hmem : ∀ z, z ∈ m.reverse ↔ z ∈ l := fun z => hperm.mem_iff
      have hmlen := hperm.length_eq
      have hmlen' : m.length = l.length := by rw [← hmlen, List.length_reverse]
      have hmnd : m.reverse.Nodup := hperm.nodup_iff.2 bl.nd
      refine t_Fall (a.keep k05).tree hm (fun z hz => bl.live z ((hmem z).1 (List.mem_reverse.2 hz))) (by omega) fun r25 h6 bu6 k6 f6 => ?_
      have k06 := k05.trans k6
      have a6 := a.keep k06
      have offL : ∀ {c : Nat}, h c = none → ¬ CFoot p L c := fun q f => a.has f q
      have fs : ∀ c, s.foot c → h c = none := fun c q => fr c ((hE c).2 (.inr (.inr (.inr q))))
      have fb1 : h b1 = none := f1
      have fb4 : h b4 = none := k1.fresh f2
      have fb5 : h b5 = none := k03.fresh f4
      have f25 : ∀ c, r25.foot c → h c = none := fun c q => k05.fresh (f6 c q)
      refine w_for m.length (fun j (zz : Int) h' => zz = (j : Int) ∧ ∃ F l', CatRaw h' p (L.withF F) es.length knob l' (nds (cutE (m.reverse.take j) es)) ts ((cutE (m.reverse.take j) es).map Option.isSome) lr lc ∧ l'.Perm (capsG 0 (cutE (m.reverse.take j) es)) ∧ (∀ o, cnt es o = cnt (cutE (m.reverse.take j) es) o + if o = t.Cap.Obj then j else 0) ∧ KChg (CFoot p L) (CFoot p (L.withF F)) h6 h') ?_ ?_
      rotate_left
      · refine ⟨rfl, L.F, al, ?_, ?_, fun o => ?_, .refl _ _⟩
        · rw [List.take_zero, cutE_nil]; exact a6
        · rw [List.take_zero, cutE_nil]; exact rl.caps
        · rw [List.take_zero, cutE_nil]; simp
      rintro rec j zz h' hj ⟨rfl, F, l', a', hp', hc', kc⟩ more
      have h6b : ∀ {c : Nat} {o : Obj}, h6 c = some o → h c = none → h' c = some o := fun q q' => kc.but _ _ q (offL q')
      have bu' : Buf (cInt .i64) 1 N_int h' r25 m.reverse := bu6.but kc.but fun a ha q => offL (f25 _ ⟨a, ha, rfl⟩) q
      have g1' : h' b1 = some (.cells [Value.pointer (some ⟨p, 0, none⟩)].toArray N_P_catalogue_Catalogue (0, 0)) := h6b (k6 _ _ g1) fb1
      have hl25 := bu'.len
      rw [List.length_reverse] at hl25
      refine w_if' (fun c => ?_) fun c => ?_
      · have c : (j : Int) < (r25.len : Int) := c
        have hjl : j < m.reverse.length := by rw [List.length_reverse]; omega
        have hz := List.getElem?_eq_getElem hjl
        generalize hzz : m.reverse[j] = zm at hz
        obtain ⟨q, u, us, rfl, hu⟩ := hasN_nds.1 (bl.live _ ((hmem _).1 (List.mem_of_getElem? hz)))
        have take1 : m.reverse.take (j + 1) = m.reverse.take j ++ [(q : Int)] := by rw [List.take_add_one, hz]; rfl
        have hqS : (q : Int) ∉ m.reverse.take j := fun w => by
          have nd := hmnd
          rw [← List.take_append_drop (j + 1) m.reverse, take1] at nd
          have nd := (List.nodup_append.1 nd).1
          rw [List.nodup_append] at nd
          exact nd.2.2 _ w _ (List.mem_singleton_self _) rfl
        have hkS : ∀ k ∈ us, k ∈ m.reverse.take j := fun k hk => hpost.behind hz k (by rw [chN_nds hu]; exact hk)
        have hpS : ∀ q' : Nat, u.Parent = q' → (q' : Int) ∉ m.reverse.take j := fun q' e w => by
          rcases wf.up _ _ _ hu with z | ⟨i', v, vs, z, hi', hm', _⟩
          · omega
          · obtain rfl : q' = i' := by omega
            obtain ⟨j', hj', w'⟩ := List.mem_take_iff_getElem.1 w
            have w'' : m.reverse[j']? = some (q' : Int) := by rw [List.getElem?_eq_getElem (by omega), w']
            have := hpost.behind w'' (q : Int) (by rw [chN_nds hi']; exact hm')
            exact hqS (List.take_subset_take_left _ (by omega) this)
        have st := wf.cutStep hu hqS hkS hpS
        refine w_get ci_len bu'.arr hz rfl (v' := (q : Int)) rfl (w_load (v := some ⟨p, 0, none⟩) (cells := cPtr) (at_box g1') (w_deref (w_load a'.fTree ?_)))
        refine t_KCut a'.tree (nds_get st.leaf) rfl rfl st.par fun h7 F7 t7 c7 => ?_
        rw [← st.nds] at t7
        have a7 := a'.setTree c7.but (fun _ e => e) t7
        have k7 : KChg (CFoot p L) (CFoot p (L.withF F7)) h6 h7 := kc.trans (KChg.tree (p := p) (L := L.withF F) c7)
        have off7 : ∀ {c : Nat} {o : Obj}, h6 c = some o → h c = none → h7 c = some o := fun q q' => k7.but _ _ q (offL q')
        refine w_load (v := some ⟨p, 0, none⟩) (cells := cPtr) (at_box (off7 (k6 _ _ g1) fb1)) (w_deref (w_load a7.fTab (w_load (v := some ⟨p, 0, none⟩) (cells := cPtr) (at_box (off7 (k6 _ _ g1) fb1)) (w_deref (w_load a7.fTok ?_)))))
        refine w_field tok_len a7.tok.arr (rl.tok _ _ _ hu) rfl (v' := u.Cap) (cells' := S_api_Cap.cells) (l1 := []) (l3 := (cTok u).drop 3) rfl rfl ?_
        have hlook : alook l' u.Cap = some (q : Int) := a7.tab.once.look (hp'.symm.subset (st.caps.symm.subset (List.mem_cons_self ..)))
        refine t_TDrop a7.tab (fun z => by rw [hlook] at z; cases z) fun v hv h8 t8 c8 => ?_
        rw [hlook] at hv; cases hv
        have a8 := a7.setTab c8.but (fun _ e => e) t8
        have k8 : KChg (CFoot p L) (CFoot p (L.withF F7)) h6 h8 := k7.trans (KChg.part (i := 1) (p := p) (L := L.withF F7) c8.but (by omega) (fun _ e => e) c8.dom)
        have off8 : ∀ {c : Nat} {o : Obj}, h6 c = some o → h c = none → h8 c = some o := fun q q' => k8.but _ _ q (offL q')
        refine w_load (v := some ⟨p, 0, none⟩) (cells := cPtr) (at_box (off8 (k6 _ _ g1) fb1)) (w_deref (w_load a8.fUse ?_))
        refine w_put cb_len a8.use (i := q) (by rw [List.length_map, cutE_len]; exact hu.lt) rfl false rfl fun h9 b9 e9 d9 => ?_
        have a9 := a8.setUse e9 (fun _ e => e) b9
        rw [← st.use, ← take1] at a9
        refine more _ _ (by omega) ⟨ia1 j (by omega), F7, _, a9, ?_, fun o => ?_, k8.trans (KChg.part (i := 4) (p := p) (L := L.withF F7) e9 (by omega) (fun _ e => e) d9)⟩
        · have sc := st.caps
          rw [take1]
          exact List.Perm.cons_inv (((adel_perm hlook).symm.trans hp').trans sc)
        · have sc := st.caps
          rw [take1]
          rw [hc' o, cnt_cons sc o]
          have hob := bl.obj wf hn ((hmem _).1 (List.mem_of_getElem? hz)) hu
          rw [hob]
          by_cases z : o = t.Cap.Obj
          · subst z; simp only [if_pos]; omega
          · have z' : ¬ t.Cap.Obj = o := fun w => z w.symm
            simp only [if_neg z, if_neg z']
            try omega
      · have c : ¬ (j : Int) < (r25.len : Int) := c
        obtain rfl : j = m.length := by omega
        have tl : m.reverse.take m.length = m.reverse := by rw [List.take_of_length_le]; rw [List.length_reverse]; exact Nat.le_refl _
        have ec : cutE (m.reverse.take m.length) es = cutE l es := by rw [tl]; exact cutE_congr hmem es
        rw [ec] at a' hp' hc'
        rw [hmlen'] at hc'
        have wf' : CWF (cutE l es) := wf.cut fun i u us hi hm k hk => bl.closed hi hm hk
        have rel := rl.drop wf hn bl hp' hc'
        have g4' : h' b4 = some (.cells (cTok t).toArray N_api_Token (0, 0)) := h6b (k6 _ _ g4) fb4
        have g5' : h' b5 = some (.cells [Sl.val s].toArray N_Sl_api_Cap (0, 0)) := h6b (k6 _ _ g5) fb5
        have ls := bu.len
        rw [List.length_map] at ls
        have lt4 : ∀ {h'' : H}, h'' b4 = some (.cells (cTok t).toArray N_api_Token (0, 0)) → At h'' (((⟨b4, 0, none⟩ : Addr).add 0).add 0) (cInt .i64 t.Cap.Obj) := fun q => by
          rw [pt_add, pt_add]
          exact (at_box q).head (l2 := (cTok t).drop 1)
        have fin : ∀ {h'' : H} {lr' lc' : List (Int × Int)}, CatRaw h'' p (L.withF F) es.length knob l' (nds (cutE l es)) ts ((cutE l es).map Option.isSome) lr' lc' → CRel (cutE l es) l' ts lr' lc' → KChg (CFoot p L) (CFoot p (L.withF F)) h6 h'' → mLoad cSl ⟨b5, 0, none⟩ (fun x49 => K (x49, 0)) h'' := fun {h'' lr' lc'} a'' r'' k'' => by
          have g5'' : h'' b5 = some (.cells [Sl.val s].toArray N_Sl_api_Cap (0, 0)) := k''.but _ _ (k6 _ _ g5) (offL fb5)
          refine w_load (v := s) (cells := cSl) (at_box g5'') ?_
          rw [← cutE_len l es] at a''
          refine y n t ks l rfl hn bl s (CFoot p (L.withF F)) h'' ⟨⟨L.withF F, l', ts, lr', lc', a'', fun _ => Iff.rfl, r''⟩, wf'⟩ ⟨fun c o q ng => k''.but c o (k06 c o q) fun w => ng ((b c).2 w), fun c w => (k''.foot c w).imp (b c).2 k06.fresh, fun c w => k06.fresh (k''.dom c w)⟩ ?_ fs fun c q w => ?_
          · exact (bu.keep k6).but k''.but fun a ha q => offL (fs _ ⟨a, ha, rfl⟩) q
          · rcases k''.foot c w with z | z
            · exact offL (fs c q) z
            · exact (bu.keep k6).has q z
        refine w_joinP (fun _ h'' => ∃ lr' lc', CatRaw h'' p (L.withF F) es.length knob l' (nds (cutE l es)) ts ((cutE l es).map Option.isSome) lr' lc' ∧ CRel (cutE l es) l' ts lr' lc' ∧ KChg (CFoot p L) (CFoot p (L.withF F)) h6 h'') (fun J hJ => ?_) fun _ h'' ⟨lr', lc', q1, q2, q3⟩ => fin q1 q2 q3
        refine w_load (v := some ⟨p, 0, none⟩) (cells := cPtr) (at_box g1') (w_deref (w_load a'.fCount (w_load (lt4 g4') (w_lookup keyNi a'.count (w_load (v := s) (cells := cSl) (at_box g5') ?_)))))
        rw [rl.cnt0, hc' t.Cap.Obj, if_pos rfl, ls]
        have cl := cnt_le (cutE l es) t.Cap.Obj
        rw [cutE_len] at cl
        have e1 : iSub .i64 ((cnt (cutE l es) t.Cap.Obj + l.length : Nat) : Int) (l.length : Int) = (cnt (cutE l es) t.Cap.Obj : Int) := by rw [iSub_eq (by omega) (by omega)]; omega
        rw [e1]
        refine w_mapSet keyNi a'.count rfl rfl fun h7 m7 e7 d7 => ?_
        have a7 := a'.setCount e7 (fun _ e => e) m7
        have k7 : KChg (CFoot p L) (CFoot p (L.withF F)) h6 h7 := kc.trans (KChg.part (i := 6) (p := p) (L := L.withF F) e7 (by omega) (fun _ e => e) d7)
        have off7 : ∀ {c : Nat} {o : Obj}, h6 c = some o → h c = none → h7 c = some o := fun q q' => k7.but _ _ q (offL q')
        refine w_load (v := some ⟨p, 0, none⟩) (cells := cPtr) (at_box (off7 (k6 _ _ g1) fb1)) (w_deref (w_load a7.fCount (w_load (lt4 (off7 (k6 _ _ g4) fb4)) (w_lookup keyNi a7.count ?_))))
        rw [alook_set, if_pos rfl]
        by_cases hz : cnt (cutE l es) t.Cap.Obj = 0
        · rw [if_pos hz, if_pos hz] at rel
          refine w_ifT (by rw [hz]; rfl) ?_
          rw [hz] at m7 a7
          refine w_load (v := some ⟨p, 0, none⟩) (cells := cPtr) (at_box (off7 (k6 _ _ g1) fb1)) (w_deref (w_load a7.fCount (w_load (lt4 (off7 (k6 _ _ g4) fb4)) (w_mapDel keyNi a7.count rfl fun h8 m8 e8 d8 => ?_))))
          have a8 := a7.setCount e8 (fun _ e => e) m8
          have k8 : KChg (CFoot p L) (CFoot p (L.withF F)) h6 h8 := k7.trans (KChg.part (i := 6) (p := p) (L := L.withF F) e8 (by omega) (fun _ e => e) d8)
          have off8 : ∀ {c : Nat} {o : Obj}, h6 c = some o → h c = none → h8 c = some o := fun q q' => k8.but _ _ q (offL q')
          refine w_load (v := some ⟨p, 0, none⟩) (cells := cPtr) (at_box (off8 (k6 _ _ g1) fb1)) (w_deref (w_load a8.fRoots (w_load (lt4 (off8 (k6 _ _ g4) fb4)) (w_mapDel keyNi a8.roots rfl fun h9 m9 e9 d9 => ?_))))
          have a9 := a8.setRoots e9 (fun _ e => e) m9
          exact hJ _ _ ⟨_, _, a9, rel, k8.trans (KChg.part (i := 5) (p := p) (L := L.withF F) e9 (by omega) (fun _ e => e) d9)⟩
        · rw [if_neg hz, if_neg hz] at rel
          refine w_ifF (decide_eq_false ?_) (hJ _ _ ⟨_, _, a7, rel, k7⟩)
          show ¬ (cnt (cutE l es) t.Cap.Obj : Int) = 0
          omega
end
theorem idx_of {l : List Int} (nd : l.Nodup) {i : Nat} {z : Int} (h : l[i]? = some z) : l.idxOf z = i := by
  obtain ⟨hi, e⟩ := List.getElem?_eq_some_iff.1 h
  have := nd.idxOf_getElem i hi
  rwa [e] at this
def placeIn (l : List Int) (z : Int) : Int := if z = -1 then -1 else ((l.idxOf z : Nat) : Int)
def tokIn (es : List En) (l : List Int) (z : Int) : S_api_Token := match atE es z with
  | some (t, _) => ⟨t.Cap, t.Rights, placeIn l t.Parent⟩
  | none => tok0
def ofE (es : List En) (l : List Int) : List S_api_Token := l.map (tokIn es l)
theorem tokIn_has {es : List En} {l : List Int} {i : Nat} {t ks} (h : Has es i t ks) : tokIn es l (i : Int) = ⟨t.Cap, t.Rights, placeIn l t.Parent⟩ := by
  unfold tokIn
  rw [(atE_has (i := (i : Int))).2 ⟨i, rfl, h⟩]
theorem Below.ahead {es : List En} (w : CWF es) {n : Nat} {l : List Int} (b : Below es n l) {t ks} (hn : Has es n t ks) {i : Nat} {z : Nat} (hz : l[i]? = some (z : Int)) {u us} (hu : Has es z u us) : (z = n ∧ u = t) ∨ (0 ≤ u.Parent ∧ u.Parent ∈ l.take i) := by
  rcases b.pre.behind hz with q | ⟨y, hy, hm⟩
  · obtain rfl : z = n := by have := List.mem_singleton.1 q; omega
    exact .inl ⟨rfl, (hu.uniq hn).1⟩
  · obtain ⟨j, v, vs, rfl, hj, hk⟩ := chN_mem hm
    obtain ⟨a, v', vs', e, ha, p⟩ := w.down _ _ _ hj _ hk
    obtain rfl : z = a := by omega
    obtain ⟨rfl, _⟩ := hu.uniq ha
    rw [p]
    exact .inr ⟨by omega, hy⟩
section
variable {h : H} {p : Nat} {knob : Int} {G : Nat → Prop} {es : List En}
theorem t_COf (x : Cat h p knob G es) {o : Int} {K : Sl → H → Prop} (no : (∀ i t ks, Has es i t ks → t.Cap.Obj ≠ o) → ∀ h', Keeps h h' → K Sl.nil h')
    (y : ∀ n t ks l, Has es n t ks → t.Cap.Obj = o → t.Parent = -1 → Below es n l → ∀ s' h', Buf cTok 5 N_api_Token h' s' (ofE es l) → Keeps h h' → (∀ c, s'.foot c → h c = none) → K s' h') : m_catalogue_Catalogue_Of (some ⟨p, 0, none⟩) o K h := by
  have wf := x.wf
  obtain ⟨L, al, ts, lr, lc, a, b, rl⟩ := x.ex
  unfold m_catalogue_Catalogue_Of
  refine w_box fun b1 h1 f1 c1 k1 => w_load (v := some ⟨p, 0, none⟩) (cells := cPtr) (at_box c1) (w_deref (w_load (a.keep k1).fRoots (w_lookup keyNi (a.keep k1).roots ?_)))
  cases hr : alook lr o with
  | none =>
    refine w_ifT rfl (no (fun i t ks hi e => ?_) h1 k1)
    obtain ⟨r, v, vs, hr', p', o', _⟩ := wf.rootOf hi
    have := (rl.roots o (r : Int)).2 ⟨r, v, vs, rfl, hr', o'.trans e, p'⟩
    rw [hr] at this; cases this
  | some r =>
    obtain ⟨n, t, ks, rfl, hn, ho, hp⟩ := (rl.roots o r).1 hr
    obtain ⟨l, bl⟩ := wf.ex hn
    have wl := wf.len
    have ll := bl.len
    refine w_ifF rfl (w_box fun b6 h2 f2 c2 k2 => w_makeMap (Value.int .i64) (Value.int .i64) fun m7 h3 f3 mp3 k3 => w_mapSet keyNi mp3 rfl rfl fun h4 mp4 e4 d4 => w_box fun b8 h5 f5 c5 k5 => w_setBox c5 rfl fun h6 c6 e6 d6 => ?_)
    have k03 : Keeps h h3 := (k1.trans k2).trans k3
    have k04 : Keeps h h4 := k03.but e4 fun c q => by subst q; exact (k1.trans k2).fresh f3
    have k24 : Keeps h2 h4 := k3.but e4 fun c q => by subst q; exact f3
    have k05 := k04.trans k5
    have k06 : Keeps h h6 := k05.but e6 fun c q => by subst q; exact k04.fresh f5
    have k46 : Keeps h4 h6 := k5.but e6 fun c q => by subst q; exact f5
    have k26 := k24.trans k46
    refine w_load (v := some ⟨p, 0, none⟩) (cells := cPtr) (at_box (k26 _ _ (k2 _ _ c1))) (w_deref (w_load (a.keep k06).fTree ?_))
    refine w_DownF a.tree k06 bl.pre bl.live (by omega) _ (fun _ _ _ => rfl)
      (fun E i h' => ∃ s A, (∀ c, E c ↔ c = b1 ∨ c = b6 ∨ c = b8 ∨ c = m7 ∨ s.foot c) ∧ h' b1 = some (.cells [Value.pointer (some ⟨p, 0, none⟩)].toArray N_P_catalogue_Catalogue (0, 0)) ∧ h' b6 = some (.cells [Sl.val s].toArray N_Sl_api_Token (0, 0)) ∧ h' b8 = some (.cells [Value.map (some m7)].toArray N_M_i64_i64 (0, 0)) ∧ MapOf (Value.int .i64) (Value.int .i64) h' m7 A ∧ (∀ w, alook A w = if w = -1 then some (-1) else if w ∈ l.take i then some ((l.idxOf w : Nat) : Int) else none) ∧ Buf cTok 5 N_api_Token h' s ((l.take i).map (tokIn es l))) ?_ ?_ (G0 := fun c => c = b1 ∨ c = b6 ∨ c = b8 ∨ c = m7 ∨ Sl.nil.foot c)
      ⟨Sl.nil, _, fun _ => Iff.rfl, k26 _ _ (k2 _ _ c1), k26 _ _ c2, c6, mp4.keep k46, fun w => ?_, Buf.nil⟩ ?_ ?_ ?_
    · rintro E i h' ⟨s, A, hE, g1, g6, g8, gm, hA, bu⟩ c hc
      rcases (hE c).1 hc with rfl | rfl | rfl | rfl | q
      · rw [g1]; exact fun z => by cases z
      · rw [g6]; exact fun z => by cases z
      · rw [g8]; exact fun z => by cases z
      · obtain ⟨es', cl, e, _⟩ := gm.ex
        rw [e]; exact fun z => by cases z
      · exact bu.has q
    · rintro E i h' h'' E' ⟨s, A, hE, g1, g6, g8, gm, hA, bu⟩ bE nE
      exact ⟨s, A, hE, bE _ _ g1 fun q => nE _ q ((hE _).2 (.inl rfl)), bE _ _ g6 fun q => nE _ q ((hE _).2 (.inr (.inl rfl))), bE _ _ g8 fun q => nE _ q ((hE _).2 (.inr (.inr (.inl rfl)))), gm.but bE fun q => nE _ q ((hE _).2 (.inr (.inr (.inr (.inl rfl))))), hA, bu.but bE fun a ha q => nE _ q ((hE _).2 (.inr (.inr (.inr (.inr ⟨a, ha, rfl⟩)))))⟩
    · rw [alook_set]
      by_cases q : w = -1
      · rw [if_pos q, if_pos q]
      · rw [if_neg q, if_neg q, List.take_zero, if_neg (by simp)]; rfl
    · rintro c (rfl | rfl | rfl | rfl | ⟨_, q, _⟩)
      · exact f1
      · exact k1.fresh f2
      · exact k04.fresh f5
      · exact (k1.trans k2).fresh f3
      · cases q
    · -- a round
      rintro i z hz E h' kj ⟨s, A, hE, g1, g6, g8, gm, hA, bu⟩ kp fr next
      obtain ⟨z', u, us, e, hu⟩ := hasN_nds.1 (bl.live _ (List.mem_of_getElem? hz))
      obtain rfl : z = z' := by omega
      have hil := lt_of_get hz
      have a' := a.keep kp
      refine w_load (v := some ⟨p, 0, none⟩) (cells := cPtr) (at_box g1) (w_deref (w_load a'.fTok (w_get tok_len a'.tok.arr (rl.tok _ _ _ hu) rfl (v' := u) rfl ?_)))
      refine w_box fun b22 h7 f7 c7 k7 => w_setBox c7 rfl fun h8 c8 e8 d8 => ?_
      have k8 : Keeps h' h8 := k7.but e8 fun c q => by subst q; exact f7
      have c8 : h8 b22 = some (.cells (cTok u).toArray N_api_Token (0, 0)) := c8
      refine w_load (v := some m7) (cells := cMap) (at_box (k8 _ _ g8)) (w_load (v := s) (cells := cSl) (at_box (k8 _ _ g6)) ?_)
      have ls := bu.len
      rw [List.length_map, List.length_take] at ls
      have e0 : (s.len : Int) = (i : Int) := by omega
      rw [e0]
      refine w_mapSet keyNi (gm.keep k8) rfl rfl fun h9 m9 e9 d9 => ?_
      have nm : ∀ {bb : Nat} {cs : Array Value} {e : TypeId}, h8 bb = some (.cells cs e (0, 0)) → ¬ bb = m7 := fun q r => (gm.keep k8).untyped (Typed.of q) r
      have g8' := e9 _ _ (k8 _ _ g8) (nm (k8 _ _ g8))
      have c8' := e9 _ _ c8 (nm c8)
      have g6' := e9 _ _ (k8 _ _ g6) (nm (k8 _ _ g6))
      refine w_load (v := some m7) (cells := cMap) (at_box g8') (w_load (v := u.Parent) (cells := cInt .i64) ?_ (w_lookup keyNi m9 ?_))
      · rw [pt_add]
        exact At.own (l1 := (cTok u).take 4) (l3 := []) c8' rfl
      have hp' : (alook (aset A (z : Int) (i : Int)) u.Parent).getD 0 = placeIn l u.Parent := by
        rw [alook_set]
        rcases bl.ahead wf hn hz hu with ⟨_, rfl⟩ | ⟨q1, q2⟩
        · rw [hp, if_neg (by omega), hA, if_pos rfl]; rfl
        · have hne : u.Parent ≠ -1 := by omega
          unfold placeIn
          rw [if_neg hne]
          split
          · rename_i e; rw [e, idx_of bl.nd hz]; rfl
          · rw [hA, if_neg hne, if_pos q2]; rfl
      rw [hp']
      refine w_store (b := b22) (i := 4) (l1 := (cTok u).take 4) (l2 := [Value.int .i64 u.Parent]) (l3 := []) (t := N_api_Token) (pt_add b22 4) c8' rfl rfl ?_
      generalize eh10 : upd h9 b22 _ = h10
      have c10 : h10 b22 = some (.cells (cTok ⟨u.Cap, u.Rights, placeIn l u.Parent⟩).toArray N_api_Token (0, 0)) := by rw [← eh10]; exact upd_same _ _ _
      have e10 : But (· = b22) h9 h10 := eh10 ▸ .upd rfl
      have d10 : ∀ c, h10 c = none → h9 c = none := fun c q => by rw [← eh10] at q; exact (upd_none.1 q).2
      have n6 : ¬ b6 = b22 := (Typed.of g6').ne (Typed.of c8') (by decide)
      refine w_load (v := s) (cells := cSl) (at_box (e10 _ _ g6' n6)) (w_load (v := ⟨u.Cap, u.Rights, placeIn l u.Parent⟩) (cells := S_api_Token.cells) (at_box c10) ?_)
      refine w_box fun b30 h11 f11 c11 k11 => ?_
      have bu8 := bu.keep k8
      have bu9 := bu8.but e9 fun a ha q => (gm.keep k8).untyped (bu8.typed ⟨a, ha, rfl⟩) q
      have bu10 := bu9.but e10 fun a ha q => bu.has ⟨a, ha, rfl⟩ (by rw [q]; exact f7)
      refine w_append (by_ := 40) tok_len tok_plain rfl (bu10.keep k11) (Buf.one tok_len c11).arr (.inl ?_) fun s12 h12 bu12 e12 fo12 d12 => ?_
      · simp only [List.length_map, List.length_take, List.length_singleton]; omega
      have kA : But (fun c => c = m7) h' h9 := (But.of k8).trans e9 fun _ q => .inl q
      have kB : But (fun c => c = m7) h' h10 := kA.trans e10 fun c q => .inr (by rw [q]; exact f7)
      have kC : But (fun c => c = m7) h' h11 := kB.trans (.of k11 : But (fun c => c = m7) h10 h11) fun _ q => .inl q
      have kD : But (fun c => c = m7 ∨ s.foot c) h' h12 := (kC.mono fun _ q => .inl q).trans (e12.mono fun _ q => .inr q) fun _ q => .inl q
      have dD : ∀ c, h12 c = none → h' c = none := fun c q => k8.fresh (d9 c (d10 c (k11.fresh (d12 c q))))
      have nfoot : ∀ {bb : Nat} {e : TypeId} {cs : Array Value}, h' bb = some (.cells cs e (0, 0)) → e ≠ N_api_Token → ¬ s.foot bb := fun q ne f => (bu.typed f).ne (Typed.of q) (fun z => ne z.symm) rfl
      have nmm : ∀ {bb : Nat} {e : TypeId} {cs : Array Value}, h' bb = some (.cells cs e (0, 0)) → ¬ bb = m7 := fun q r => gm.untyped (Typed.of q) r
      have still : ∀ {bb : Nat} {e : TypeId} {cs : Array Value}, h' bb = some (.cells cs e (0, 0)) → e ≠ N_api_Token → h12 bb = some (.cells cs e (0, 0)) := fun q ne => kD _ _ q fun w => w.elim (nmm q) (nfoot q ne)
      have g6'' := still g6 (by decide)
      refine w_setBox g6'' rfl fun h13 c13 e13 d13 => ?_
      have kE : But (fun c => c = m7 ∨ s.foot c ∨ c = b6) h' h13 := (kD.mono fun _ q => q.imp id .inl).trans (e13.mono fun _ q => .inr (.inr q)) fun _ q => .inl q
      have fo : ∀ c, s12.foot c → s.foot c ∨ h' c = none := fun c q => (fo12 c q).imp id fun w => k8.fresh (d9 c (d10 c (k11.fresh w)))
      have n16 : b1 ≠ b6 := (Typed.of g1).ne (Typed.of g6) (by decide)
      have n86 : b8 ≠ b6 := (Typed.of g8).ne (Typed.of g6) (by decide)
      refine next (fun c => c = b1 ∨ c = b6 ∨ c = b8 ∨ c = m7 ∨ s12.foot c) h13 ⟨s12, aset A (z : Int) (i : Int), fun _ => Iff.rfl, kE _ _ g1 ?_, c13, kE _ _ g8 ?_, ?_, fun w => ?_, ?_⟩ ⟨kE.mono fun c q => (hE c).2 ?_, fun c q => ?_, fun c q => dD c (d13 c q)⟩
      · rintro (q | q | q)
        · exact nmm g1 q
        · exact nfoot g1 (by decide) q
        · exact n16 q
      · rintro (q | q | q)
        · exact nmm g8 q
        · exact nfoot g8 (by decide) q
        · exact n86 q
      · have q10 := m9.but e10 fun q => by rw [q] at gm; obtain ⟨es', cl, e, _⟩ := gm.ex; rw [f7] at e; cases e
        have q12 := (q10.keep k11).but e12 fun q => gm.untyped (bu.typed q) rfl
        exact q12.but e13 fun q => q12.untyped (Typed.of g6'') q.symm
      · rw [alook_set, hA]
        have ht : l.take (i + 1) = l.take i ++ [(z : Int)] := by rw [List.take_add_one, hz]; rfl
        by_cases q : w = (z : Int)
        · subst q
          rw [if_pos rfl, if_neg (by omega), ht, if_pos (by simp), idx_of bl.nd hz]
        · rw [if_neg q, ht]
          simp only [List.mem_append, List.mem_singleton, q, or_false]
      · have := bu12.but e13 fun a ha q => (bu12.typed ⟨a, ha, rfl⟩).ne (Typed.of g6'') (by decide) q
        have e1 : (l.take (i + 1)).map (tokIn es l) = (l.take i).map (tokIn es l) ++ [⟨u.Cap, u.Rights, placeIn l u.Parent⟩] := by
          rw [List.take_add_one, hz, List.map_append, ← tokIn_has hu]; rfl
        rw [e1]; exact this
      · rcases q with q | q | q
        · exact .inr (.inr (.inr (.inl q)))
        · exact .inr (.inr (.inr (.inr q)))
        · exact .inr (.inl q)
      · rcases q with q | q | q | q | q
        · exact .inl ((hE c).2 (.inl q))
        · exact .inl ((hE c).2 (.inr (.inl q)))
        · exact .inl ((hE c).2 (.inr (.inr (.inl q))))
        · exact .inl ((hE c).2 (.inr (.inr (.inr (.inl q)))))
        · exact (fo c q).imp (fun w => (hE c).2 (.inr (.inr (.inr (.inr w))))) id
    · rintro E h7 ⟨s, A, hE, g1, g6, g8, gm, hA, bu⟩ k07 fr
      rw [List.take_length] at bu
      refine w_ifT rfl (w_load (v := s) (cells := cSl) (at_box g6) ?_)
      exact y n t ks l hn ho hp bl s h7 bu k07 fun c q => fr c ((hE c).2 (.inr (.inr (.inr (.inr q)))))
end
end Go.Proofs.YtdleanjofhghnaaGreatDoor.K
namespace Go.Proofs.YtdleanjofhghnaaGreatDoor.K
open Go Go.Proofs
def m_ref11_New (a0 : Int) (a1 : Int) (K : (Option Addr × Int) → H → Prop) : H → Prop :=
 mIf ((((decide (a0 < 1)) || (decide (256 < a0))) || (decide (a1 < 0))) || (decide (64 < a1))) (
 K (none, 16)
 ) (
 mMake 130 56 #[(Value.bool false), (Value.int .i64 0), (Value.int .u64 0), (Value.int .u64 0), (Value.int .i64 0), (Value.int .i64 0), (Value.int .i64 0)] a0 a0 fun s1 =>
 mNew 117 #[(Sl.val s1), (Value.int .i64 0)] fun ad2 =>
 K ((some ad2), 0)
 )
def x_ref11_New : Cx Tryz.prog := ⟨tys, [], [], [], mixed⟩
def h_ref11_New : Hint := (.seq .d (.seq (.seq (.reg (.run [3, 7, 11] (.sel 8 11 3584 (.run [15, 19, 23] .nil) (.run [15, 19, 23] .nil) (.run [27] (.sel 12 15 57344 (.run [31, 35, 39] .nil) (.run [31, 35, 39] .nil) (.run [43] (.sel 16 19 917504 (.run [47, 51, 55] .nil) (.run [47, 51, 55] .nil) .nil))))))) .d) .d))
def s_ref11_New : Spec Tryz.prog := mkSpec x_ref11_New 17 Tryz.f17 [(tInt .i64), (tInt .i64)] [tPtr, (tInt .i64)] false h_ref11_New (fun a => m_ref11_New a.1 a.2) (fun a K h => by kernel_rfl) callee17 rfl
def m_ref11_Catalogue_is (a0 : Option Addr) (a1 : Int) (K : (Bool) → H → Prop) : H → Prop :=
 mJoin (fun (s3 : Bool) =>
 mIf s3 (
 mDeref a0 fun ad9 =>
 mLoad cSl (ad9.add 0) fun x10 =>
 mIdx x10 a1 7 fun ad11 =>
 mLoad cBool (ad11.add 0) fun x12 =>
 K x12
 ) (
 K false
 )
 ) (fun j4 =>
 mIf (decide (0 ≤ a1)) (
 mDeref a0 fun ad13 =>
 mLoad cSl (ad13.add 0) fun x14 =>
 j4 (decide (a1 < (x14.len : Int)))
 ) (
 j4 false
 ))
def x_ref11_Catalogue_is : Cx Tryz.prog := ⟨tys, [], [], [], mixed⟩
def h_ref11_Catalogue_is : Hint := (.seq .d (.seq (.reg (.run [3, 7, 11] (.join [.slot 15 tBool] 65280 [] (.split 7 (.run [15, 19, 23, 27, 31, 35, 39, 43] .nil) (.run [15, 19, 23, 27, 31, 35, 39, 43] .nil)) (.run [47] (.split 16 (.run [51, 55, 59, 63, 67, 71, 75, 79, 83, 87] .nil) (.run [51, 55, 59, 63, 67, 71, 75, 79, 83, 87] .nil)))))) .d))
def s_ref11_Catalogue_is : Spec Tryz.prog := mkSpec x_ref11_Catalogue_is 57 Tryz.f57 [tPtr, (tInt .i64)] [tBool] false h_ref11_Catalogue_is (fun a => m_ref11_Catalogue_is a.1 a.2) (fun a K h => by kernel_rfl) callee57 rfl
def m_ref11_Catalogue_At (a0 : Option Addr) (a1 : Int) (K : (S_api_Token × Bool) → H → Prop) : H → Prop :=
 m_ref11_Catalogue_is a0 a1 fun r1 =>
 mIf (!r1) (
 K ((⟨⟨0, ⟨0, 0⟩⟩, 0, 0⟩ : S_api_Token), false)
 ) (
 mDeref a0 fun ad2 =>
 mDeref a0 fun ad3 =>
 mDeref a0 fun ad4 =>
 mLoad cSl (ad2.add 0) fun x5 =>
 mIdx x5 a1 7 fun ad6 =>
 mLoad S_api_Cap.cells (ad6.add 1) fun x7 =>
 mLoad cSl (ad3.add 0) fun x8 =>
 mIdx x8 a1 7 fun ad9 =>
 mLoad (cInt .i64) (ad9.add 4) fun x10 =>
 mLoad cSl (ad4.add 0) fun x11 =>
 mIdx x11 a1 7 fun ad12 =>
 mLoad (cInt .i64) (ad12.add 5) fun x13 =>
 K ((⟨⟨x7.Obj, ⟨x7.Pass.Hi, x7.Pass.Lo⟩⟩, x10, x13⟩ : S_api_Token), true)
 )
def x_ref11_Catalogue_At : Cx Tryz.prog := ⟨tys, [s_ref11_Catalogue_is], [4], [], mixed⟩
def h_ref11_Catalogue_At : Hint := (.seq .d (.seq .d (.seq (.reg (.run [0, 4, 8, 16, 32, 36, 40, 48, 64, 68, 72, 80, 14, 20, 24, 30, 46, 52, 56, 62, 78, 84, 88, 94, 96, 103, 104] .nil)) .d)))
def s_ref11_Catalogue_At : Spec Tryz.prog := mkSpec x_ref11_Catalogue_At 47 Tryz.f47 [tPtr, (tInt .i64)] [S_api_Token.ty, tBool] false h_ref11_Catalogue_At (fun a => m_ref11_Catalogue_At a.1 a.2) (fun a K h => by kernel_rfl) callee47 rfl
def m_ref11_Catalogue_children (a0 : Option Addr) (a1 : Int) (K : (Sl) → H → Prop) : H → Prop :=
 mLoop (fun (rec2 : (Sl × Int) → H → Prop) (s1 : Sl × Int) =>
 mLoop (fun (rec4 : (Int × Int) → H → Prop) (s3 : Int × Int) =>
 mDeref a0 fun ad5 =>
 mLoad cSl (ad5.add 0) fun x6 =>
 mIf (decide (s3.2 < (x6.len : Int))) (
 mDeref a0 fun ad7 =>
 mLoad cSl (ad7.add 0) fun x8 =>
 mIdx x8 s3.2 7 fun ad9 =>
 mLoad cBool (ad9.add 0) fun x10 =>
 mJoin (fun (s15 : Bool) =>
 mJoin (fun (s21 : Bool) =>
 mJoin (fun (s41 : Bool) =>
 mIf s41 (
 rec4 (s3.2, (iAdd .i64 s3.2 1))
 ) (
 rec4 (s3.1, (iAdd .i64 s3.2 1))
 )
 ) (fun j42 =>
 mIf s21 (
 mIf (decide (s3.1 < 0)) (
 j42 true
 ) (
 mDeref a0 fun ad51 =>
 mDeref a0 fun ad52 =>
 mLoad cSl (ad51.add 0) fun x53 =>
 mIdx x53 s3.2 7 fun ad54 =>
 mLoad (cInt .i64) (ad54.add 6) fun x55 =>
 mLoad cSl (ad52.add 0) fun x56 =>
 mIdx x56 s3.1 7 fun ad57 =>
 mLoad (cInt .i64) (ad57.add 6) fun x58 =>
 j42 (decide (x55 < x58))
 )
 ) (
 j42 false
 ))
 ) (fun j22 =>
 mIf s15 (
 mDeref a0 fun ad59 =>
 mLoad cSl (ad59.add 0) fun x60 =>
 mIdx x60 s3.2 7 fun ad61 =>
 mLoad (cInt .i64) (ad61.add 6) fun x62 =>
 j22 (decide (s1.2 < x62))
 ) (
 j22 false
 ))
 ) (fun j16 =>
 mIf x10 (
 mDeref a0 fun ad63 =>
 mLoad cSl (ad63.add 0) fun x64 =>
 mIdx x64 s3.2 7 fun ad65 =>
 mLoad (cInt .i64) (ad65.add 5) fun x66 =>
 j16 (decide (x66 = a1))
 ) (
 j16 false
 ))
 ) (
 mIf (decide (s3.1 < 0)) (
 K s1.1
 ) (
 mApp 3 1 8 #[(Value.int .i64 0)] 1 [(Value.int .i64 s3.1)] s1.1 fun s67 =>
 mDeref a0 fun ad68 =>
 mLoad cSl (ad68.add 0) fun x69 =>
 mIdx x69 s3.1 7 fun ad70 =>
 mLoad (cInt .i64) (ad70.add 6) fun x71 =>
 rec2 (s67, x71)
 )
 )
 ) ((-1), 0)
 ) (Sl.nil, (-1))
def x_ref11_Catalogue_children : Cx Tryz.prog := ⟨tys, [], [79], [], mixed⟩
def h_ref11_Catalogue_children : Hint := (.seq .d (.seq .d (.seq .d (.blk (.loop [.slot 5 tSl, .slot 6 (tInt .i64)] 618970019642690137449562096 [] (.blk (.seq .d (.seq (.seq .d (.blk (.loop [.slot 7 (tInt .i64), .slot 8 (tInt .i64)] 18889465931478580854656 [] (.seq .d (.seq (.blk (.seq (.reg (.run [0, 4, 8, 16, 14, 20, 24, 30, 32] (.join [.slot 37 tBool] 274743689216 [] (.split 26 (.run [36, 40, 44, 52, 68, 50, 56, 60, 66, 72, 76] .nil) (.run [36, 40, 44, 48, 52, 56, 60, 64, 68, 72, 76] .nil)) (.run [80] (.join [.slot 49 tBool] 1125350151028736 [] (.split 38 (.run [84, 88, 92, 100, 116, 98, 104, 108, 114, 120, 124] .nil) (.run [84, 88, 92, 96, 100, 104, 108, 112, 116, 120, 124] .nil)) (.run [128] (.join [.slot 72 tBool] 9444730713939476742144 [] (.split 50 (.run [132, 136, 140] (.split 53 (.run [144, 148, 152, 156, 160, 164, 168, 172, 176, 180, 184, 188, 192, 196, 200, 204, 208, 212, 216] .nil) (.run [144, 148, 152, 160, 176, 180, 184, 192, 158, 164, 168, 174, 190, 196, 200, 206, 208, 212, 216] .nil))) (.run [132, 136, 140, 144, 148, 152, 156, 160, 164, 168, 172, 176, 180, 184, 188, 192, 196, 200, 204, 208, 212, 216] .nil)) .nil))))))) .d)) .d))))) .d))))))))
def s_ref11_Catalogue_children : Spec Tryz.prog := mkSpec x_ref11_Catalogue_children 89 Tryz.f89 [tPtr, (tInt .i64)] [tSl] false h_ref11_Catalogue_children (fun a => m_ref11_Catalogue_children a.1 a.2) (fun a K h => by kernel_rfl) callee89 rfl
def m_ref11_Catalogue_Down_s (self : (Option Addr) → (Int) → ((Sl) → H → Prop) → H → Prop) (a0 : Option Addr) (a1 : Int) (K : (Sl) → H → Prop) : H → Prop :=
 mNew 3 #[(Value.int .i64 a1)] fun ad1 =>
 m_ref11_Catalogue_children a0 a1 fun r2 =>
 mLoop (fun (rec4 : (Sl × Int) → H → Prop) (s3 : Sl × Int) =>
 mIf (decide (s3.2 < (r2.len : Int))) (
 mIdx r2 s3.2 1 fun ad5 =>
 mLoad (cInt .i64) ad5 fun x6 =>
 self a0 x6 fun r7 =>
 mAppend 3 1 8 #[(Value.int .i64 0)] s3.1 r7 fun s8 =>
 rec4 (s8, (iAdd .i64 s3.2 1))
 ) (
 K s3.1
 )
 ) ((⟨some ad1, 1, 1⟩ : Sl), 0)
def m_ref11_Catalogue_Down_n : Nat → (Option Addr) → (Int) → ((Sl) → H → Prop) → H → Prop
 | 0 => fun _ _ _ _ => False
 | n + 1 => m_ref11_Catalogue_Down_s (m_ref11_Catalogue_Down_n n)
def m_ref11_Catalogue_Down (a0 : Option Addr) (a1 : Int) (K : (Sl) → H → Prop) : H → Prop := fun h => ∃ n, m_ref11_Catalogue_Down_n n a0 a1 K h
def r_ref11_Catalogue_Down (m : (Option Addr) → (Int) → ((Sl) → H → Prop) → H → Prop) (ok : ∀ (a : Den [tPtr, (tInt .i64)]) (K : Den [tSl] → HP) (h : H), m a.1 a.2 K h → ACall Tryz.prog 58 (valsD [tPtr, (tInt .i64)] a).toArray h (fun v h' => ∃ r, v = outV (valsD [tSl] r) ∧ K r h') noP) : Spec Tryz.prog := ⟨58, [tPtr, (tInt .i64)], [tSl], false, fun a => m a.1 a.2, ok, ⟨Tryz.f58, callee58⟩⟩
def x_ref11_Catalogue_Down (r : Spec Tryz.prog) : Cx Tryz.prog := ⟨tys, [r, s_ref11_Catalogue_children], [], [], mixed⟩
def h_ref11_Catalogue_Down : Hint := (.seq .d (.seq .d (.seq .d (.seq (.seq .d (.blk (.loop [.slot 5 tSl, .slot 7 (tInt .i64)] 134209696 [] .d))) .d))))
theorem w_ref11_Catalogue_Down (m : (Option Addr) → (Int) → ((Sl) → H → Prop) → H → Prop) (ok : ∀ (a : Den [tPtr, (tInt .i64)]) (K : Den [tSl] → HP) (h : H), m a.1 a.2 K h → ACall Tryz.prog 58 (valsD [tPtr, (tInt .i64)] a).toArray h (fun v h' => ∃ r, v = outV (valsD [tSl] r) ∧ K r h') noP) : ∀ (a : Den [tPtr, (tInt .i64)]) (K : Den [tSl] → HP) (h : H), m_ref11_Catalogue_Down_s m a.1 a.2 K h = wpF (x_ref11_Catalogue_Down (r_ref11_Catalogue_Down m ok)) Tryz.f58 [tPtr, (tInt .i64)] [tSl] h_ref11_Catalogue_Down a K h := fun a K h => by kernel_rfl
theorem k_ref11_Catalogue_Down : ∀ n : Nat, ∀ (a : Den [tPtr, (tInt .i64)]) (K : Den [tSl] → HP) (h : H), m_ref11_Catalogue_Down_n n a.1 a.2 K h → ACall Tryz.prog 58 (valsD [tPtr, (tInt .i64)] a).toArray h (fun v h' => ∃ r, v = outV (valsD [tSl] r) ∧ K r h') noP
  | 0 => fun _ _ _ x => x.elim
  | n + 1 => (mkSpec (x_ref11_Catalogue_Down (r_ref11_Catalogue_Down (m_ref11_Catalogue_Down_n n) (k_ref11_Catalogue_Down n))) 58 Tryz.f58 [tPtr, (tInt .i64)] [tSl] false h_ref11_Catalogue_Down (fun a => m_ref11_Catalogue_Down_s (m_ref11_Catalogue_Down_n n) a.1 a.2) (w_ref11_Catalogue_Down (m_ref11_Catalogue_Down_n n) (k_ref11_Catalogue_Down n)) callee58 rfl).ok
def s_ref11_Catalogue_Down : Spec Tryz.prog := ⟨58, [tPtr, (tInt .i64)], [tSl], false, fun a => m_ref11_Catalogue_Down a.1 a.2, fun a K h ⟨n, x⟩ => k_ref11_Catalogue_Down n a K h x, ⟨Tryz.f58, callee58⟩⟩
def m_ref11_Catalogue_Of (a0 : Option Addr) (a1 : Int) (K : (Sl) → H → Prop) : H → Prop :=
 mLoop (fun (rec2 : (Sl × Int) → H → Prop) (s1 : Sl × Int) =>
 mDeref a0 fun ad3 =>
 mLoad cSl (ad3.add 0) fun x4 =>
 mIf (decide (s1.2 < (x4.len : Int))) (
 mDeref a0 fun ad5 =>
 mLoad cSl (ad5.add 0) fun x6 =>
 mIdx x6 s1.2 7 fun ad7 =>
 mLoad cBool (ad7.add 0) fun x8 =>
 mJoin (fun (s13 : Bool) =>
 mJoin (fun (s19 : Bool) =>
 mIf s19 (
 rec2 (s1.1, (iAdd .i64 s1.2 1))
 ) (
 m_ref11_Catalogue_Down a0 s1.2 fun r21 =>
 mLoop (fun (rec23 : (Sl × Int) → H → Prop) (s22 : Sl × Int) =>
 mIf (decide (s22.2 < (r21.len : Int))) (
 mIdx r21 s22.2 1 fun ad24 =>
 mLoad (cInt .i64) ad24 fun x25 =>
 m_ref11_Catalogue_At a0 x25 fun r26 =>
 mLoop (fun (rec28 : (Int × Int × Int × Int × Int × Int) → H → Prop) (s27 : Int × Int × Int × Int × Int × Int) =>
 mIf (decide (s27.1 < s22.2)) (
 mIdx r21 s27.1 1 fun ad29 =>
 mDeref a0 fun ad30 =>
 mIdx r21 s22.2 1 fun ad31 =>
 mLoad (cInt .i64) ad29 fun x32 =>
 mLoad cSl (ad30.add 0) fun x33 =>
 mLoad (cInt .i64) ad31 fun x34 =>
 mIdx x33 x34 7 fun ad35 =>
 mLoad (cInt .i64) (ad35.add 5) fun x36 =>
 mIf (decide (x32 = x36)) (
 rec28 ((iAdd .i64 s27.1 1), s27.2.1, s27.2.2.1, s27.2.2.2.1, s27.2.2.2.2.1, s27.1)
 ) (
 rec28 ((iAdd .i64 s27.1 1), s27.2.1, s27.2.2.1, s27.2.2.2.1, s27.2.2.2.2.1, s27.2.2.2.2.2)
 )
 ) (
 mApp 119 5 40 #[(Value.int .i64 0), (Value.int .u64 0), (Value.int .u64 0), (Value.int .i64 0), (Value.int .i64 0)] 1 [(Value.int .i64 s27.2.1), (Value.int .u64 s27.2.2.1), (Value.int .u64 s27.2.2.2.1), (Value.int .i64 s27.2.2.2.2.1), (Value.int .i64 s27.2.2.2.2.2)] s22.1 fun s37 =>
 rec23 (s37, (iAdd .i64 s22.2 1))
 )
 ) (0, r26.1.Cap.Obj, r26.1.Cap.Pass.Hi, r26.1.Cap.Pass.Lo, r26.1.Rights, r26.1.Parent)
 ) (
 rec2 (s22.1, (iAdd .i64 s1.2 1))
 )
 ) (s1.1, 0)
 )
 ) (fun j20 =>
 mIf s13 (
 j20 true
 ) (
 mDeref a0 fun ad38 =>
 mLoad cSl (ad38.add 0) fun x39 =>
 mIdx x39 s1.2 7 fun ad40 =>
 mLoad (cInt .i64) (ad40.add 5) fun x41 =>
 j20 (decide (0 ≤ x41))
 ))
 ) (fun j14 =>
 mIf (!x8) (
 j14 true
 ) (
 mDeref a0 fun ad42 =>
 mLoad cSl (ad42.add 0) fun x43 =>
 mIdx x43 s1.2 7 fun ad44 =>
 mLoad (cInt .i64) ((ad44.add 1).add 0) fun x45 =>
 j14 (!decide (x45 = a1))
 ))
 ) (
 K s1.1
 )
 ) (Sl.nil, 0)
def x_ref11_Catalogue_Of : Cx Tryz.prog := ⟨tys, [s_ref11_Catalogue_At, s_ref11_Catalogue_Down], [9, 97], [], mixed⟩
def h_ref11_Catalogue_Of : Hint := (.seq .d (.seq .d (.seq (.seq .d (.blk (.loop [.slot 5 tSl, .slot 6 (tInt .i64)] 633825300114114700748351602656 [] (.seq .d (.seq (.blk (.seq (.seq (.reg (.run [3, 7, 11, 15, 19, 23, 27, 31, 35, 39] (.join [.slot 42 tBool] 8793945538560 [] (.split 30 (.run [43, 47, 51, 55, 59, 63, 67, 71, 75, 79, 83, 87] .nil) (.run [43, 47, 51, 55, 59, 63, 67, 71, 75, 79, 83, 87] .nil)) (.run [91] (.join [.slot 53 tBool] 17996806323437568 [] (.split 43 (.run [95, 99, 103, 107, 111, 115, 119, 123, 127, 131] .nil) (.run [95, 99, 103, 107, 111, 115, 119, 123, 127, 131] .nil)) .nil))))) .d) (.seq .d (.seq .d (.blk (.loop [.slot 5 tSl, .slot 8 (tInt .i64)] 633825300113970585560275750688 [] (.seq .d (.seq (.blk (.seq .d (.seq (.seq .d (.blk (.loop [.slot 11 (tInt .i64), .cell 9 0 (tInt .i64), .cell 9 1 (tInt .u64), .cell 9 2 (tInt .u64), .cell 9 3 (tInt .i64), .cell 9 4 (tInt .i64)] 39614076534765685927126763520 [9] (.seq .d (.seq (.blk (.seq (.reg (.run [0, 4, 8, 16, 20, 24, 32, 36, 40, 14, 30, 46, 48, 52, 58, 60] .nil)) .d)) .d))))) .d))) .d)))))))) .d))))) .d)))
def s_ref11_Catalogue_Of : Spec Tryz.prog := mkSpec x_ref11_Catalogue_Of 31 Tryz.f31 [tPtr, (tInt .i64)] [tSl] false h_ref11_Catalogue_Of (fun a => m_ref11_Catalogue_Of a.1 a.2) (fun a K h => by kernel_rfl) callee31 rfl
def m_ref11_Catalogue_In (a0 : Option Addr) (a1 : Int) (K : (Int) → H → Prop) : H → Prop :=
 mLoop (fun (rec2 : (Int × Int) → H → Prop) (s1 : Int × Int) =>
 mDeref a0 fun ad3 =>
 mLoad cSl (ad3.add 0) fun x4 =>
 mIf (decide (s1.2 < (x4.len : Int))) (
 mDeref a0 fun ad5 =>
 mLoad cSl (ad5.add 0) fun x6 =>
 mIdx x6 s1.2 7 fun ad7 =>
 mLoad cBool (ad7.add 0) fun x8 =>
 mJoin (fun (s13 : Bool) =>
 mIf s13 (
 rec2 ((iAdd .i64 s1.1 1), (iAdd .i64 s1.2 1))
 ) (
 rec2 (s1.1, (iAdd .i64 s1.2 1))
 )
 ) (fun j14 =>
 mIf x8 (
 mDeref a0 fun ad15 =>
 mLoad cSl (ad15.add 0) fun x16 =>
 mIdx x16 s1.2 7 fun ad17 =>
 mLoad (cInt .i64) ((ad17.add 1).add 0) fun x18 =>
 j14 (decide (x18 = a1))
 ) (
 j14 false
 ))
 ) (
 K s1.1
 )
 ) (0, 0)
def x_ref11_Catalogue_In : Cx Tryz.prog := ⟨tys, [], [], [], mixed⟩
def h_ref11_Catalogue_In : Hint := (.seq .d (.seq .d (.seq (.seq .d (.blk (.loop [.slot 5 (tInt .i64), .slot 6 (tInt .i64)] 549755813856 [] (.seq .d (.seq (.blk (.seq (.reg (.run [3, 7, 11, 15, 19, 23, 27, 31, 35] (.join [.slot 36 tBool] 137405399040 [] (.split 24 (.run [39, 43, 47, 51, 55, 59, 63, 67, 71, 75, 79, 83] .nil) (.run [39, 43, 47, 51, 55, 59, 63, 67, 71, 75, 79, 83] .nil)) .nil))) .d)) .d))))) .d)))
def s_ref11_Catalogue_In : Spec Tryz.prog := mkSpec x_ref11_Catalogue_In 42 Tryz.f42 [tPtr, (tInt .i64)] [(tInt .i64)] false h_ref11_Catalogue_In (fun a => m_ref11_Catalogue_In a.1 a.2) (fun a K h => by kernel_rfl) callee42 rfl
def m_ref11_Valid (a0 : Int) (K : (Bool) → H → Prop) : H → Prop :=
 K ((decide (1 ≤ a0)) && (decide (a0 ≤ 31)))
def x_ref11_Valid : Cx Tryz.prog := ⟨tys, [], [], [], mixed⟩
def h_ref11_Valid : Hint := (.seq .d (.seq (.reg (.run [3, 7, 11] (.sel 5 8 448 (.run [15, 19, 23] .nil) (.run [15, 19, 23] .nil) (.run [27] .nil)))) .d))
def s_ref11_Valid : Spec Tryz.prog := mkSpec x_ref11_Valid 73 Tryz.f73 [(tInt .i64)] [tBool] true h_ref11_Valid (fun a => m_ref11_Valid a) (fun a K h => by kernel_rfl) callee73 rfl
def m_ref11_Catalogue_put (a0 : Option Addr) (a1 : S_api_Cap) (a2 : Int) (a3 : Int) (K : (Int × Int) → H → Prop) : H → Prop :=
 mLoop (fun (rec2 : Int → H → Prop) (s1 : Int) =>
 mDeref a0 fun ad3 =>
 mLoad cSl (ad3.add 0) fun x4 =>
 mIf (decide (s1 < (x4.len : Int))) (
 mDeref a0 fun ad5 =>
 mLoad cSl (ad5.add 0) fun x6 =>
 mIdx x6 s1 7 fun ad7 =>
 mLoad cBool (ad7.add 0) fun x8 =>
 mIf (!x8) (
 mDeref a0 fun ad9 =>
 mDeref a0 fun ad10 =>
 mLoad cSl (ad9.add 0) fun x11 =>
 mLoad (cInt .i64) (ad10.add 1) fun x12 =>
 mIdx x11 s1 7 fun ad13 =>
 mStore ad13 [(Value.bool true), (Value.int .i64 a1.Obj), (Value.int .u64 a1.Pass.Hi), (Value.int .u64 a1.Pass.Lo), (Value.int .i64 a2), (Value.int .i64 a3), (Value.int .i64 x12)] <|
 mDeref a0 fun ad14 =>
 mLoad (cInt .i64) (ad14.add 1) fun x15 =>
 mDeref a0 fun ad16 =>
 mStore (ad16.add 1) [(Value.int .i64 (iAdd .i64 x15 1))] <|
 K (s1, 0)
 ) (
 rec2 (iAdd .i64 s1 1)
 )
 ) (
 K (0, 10)
 )
 ) 0
def x_ref11_Catalogue_put : Cx Tryz.prog := ⟨tys, [], [5], [], mixed⟩
def h_ref11_Catalogue_put : Hint := (.seq .d (.seq (.seq .d (.blk (.loop [.slot 10 (tInt .i64)] 2251799813684992 [] (.seq .d (.seq (.blk (.seq .d (.cond (.seq (.reg (.run [0, 4, 8, 16, 24, 28, 32, 36, 40, 21, 14, 46, 48, 52, 59] .nil)) .d) .d))) .d))))) .d))
def s_ref11_Catalogue_put : Spec Tryz.prog := mkSpec x_ref11_Catalogue_put 74 Tryz.f74 [tPtr, S_api_Cap.ty, (tInt .i64), (tInt .i64)] [(tInt .i64), (tInt .i64)] false h_ref11_Catalogue_put (fun a => m_ref11_Catalogue_put a.1 a.2.1 a.2.2.1 a.2.2.2) (fun a K h => by kernel_rfl) callee74 rfl
def m_ref11_Catalogue_Root (a0 : Option Addr) (a1 : S_api_Cap) (a2 : Int) (K : (Int × Int) → H → Prop) : H → Prop :=
 mPure (m_ref11_Valid a2) fun r1 =>
 mIf (!r1) (
 K (0, 4)
 ) (
 m_ref11_Catalogue_In a0 a1.Obj fun r2 =>
 mIf (decide (0 < r2)) (
 K (0, 19)
 ) (
 m_ref11_Catalogue_put a0 a1 a2 (-1) fun r3 =>
 K (r3.1, r3.2)
 )
 )
def x_ref11_Catalogue_Root : Cx Tryz.prog := ⟨tys, [s_ref11_Catalogue_In, s_ref11_Valid, s_ref11_Catalogue_put], [4], [], mixed⟩
def h_ref11_Catalogue_Root : Hint := .d
def s_ref11_Catalogue_Root : Spec Tryz.prog := mkSpec x_ref11_Catalogue_Root 45 Tryz.f45 [tPtr, S_api_Cap.ty, (tInt .i64)] [(tInt .i64), (tInt .i64)] false h_ref11_Catalogue_Root (fun a => m_ref11_Catalogue_Root a.1 a.2.1 a.2.2) (fun a K h => by kernel_rfl) callee45 rfl
def m_ref11_Catalogue_Find (a0 : Option Addr) (a1 : S_api_Cap) (K : (Int × Bool) → H → Prop) : H → Prop :=
 mLoop (fun (rec2 : Int → H → Prop) (s1 : Int) =>
 mDeref a0 fun ad3 =>
 mLoad cSl (ad3.add 0) fun x4 =>
 mIf (decide (s1 < (x4.len : Int))) (
 mDeref a0 fun ad5 =>
 mLoad cSl (ad5.add 0) fun x6 =>
 mIdx x6 s1 7 fun ad7 =>
 mLoad cBool (ad7.add 0) fun x8 =>
 mJoin (fun (s13 : Bool) =>
 mIf s13 (
 K (s1, true)
 ) (
 rec2 (iAdd .i64 s1 1)
 )
 ) (fun j14 =>
 mIf x8 (
 mDeref a0 fun ad15 =>
 mLoad cSl (ad15.add 0) fun x16 =>
 mIdx x16 s1 7 fun ad17 =>
 mLoad S_api_Cap.cells (ad17.add 1) fun x18 =>
 j14 ((decide (x18.Obj = a1.Obj)) && (((decide (x18.Pass.Hi = a1.Pass.Hi)) && ((decide (x18.Pass.Lo = a1.Pass.Lo)) && true)) && true))
 ) (
 j14 false
 ))
 ) (
 K (0, false)
 )
 ) 0
def x_ref11_Catalogue_Find : Cx Tryz.prog := ⟨tys, [], [3], [], mixed⟩
def h_ref11_Catalogue_Find : Hint := (.seq .d (.seq (.seq .d (.blk (.loop [.slot 6 (tInt .i64)] 137438953456 [] (.seq .d (.seq (.blk (.seq (.reg (.run [0, 4, 8, 16, 14, 20, 24, 30, 32] (.join [.slot 35 tBool] 68685922304 [] (.split 24 (.run [36, 40, 44, 52, 69, 50, 56, 60, 66, 72, 76] .nil) (.run [36, 40, 44, 48, 52, 56, 60, 64, 68, 72, 76] .nil)) .nil))) .d)) .d))))) .d))
def s_ref11_Catalogue_Find : Spec Tryz.prog := mkSpec x_ref11_Catalogue_Find 23 Tryz.f23 [tPtr, S_api_Cap.ty] [(tInt .i64), tBool] false h_ref11_Catalogue_Find (fun a => m_ref11_Catalogue_Find a.1 a.2) (fun a K h => by kernel_rfl) callee23 rfl
def m_ref11_Part (a0 : Int) (a1 : Int) (K : (Bool) → H → Prop) : H → Prop :=
 mPure (m_ref11_Valid a0) fun r1 =>
 K (r1 && (decide ((iOr .i64 a0 a1) = a1)))
def x_ref11_Part : Cx Tryz.prog := ⟨tys, [s_ref11_Valid], [], [], mixed⟩
def h_ref11_Part : Hint := (.seq .d (.seq (.reg (.run [3, 7, 11] (.sel 7 13 16128 (.run [15, 19, 23, 27, 31, 35] .nil) (.run [15, 19, 23, 27, 31, 35] .nil) (.run [39] .nil)))) .d))
def s_ref11_Part : Spec Tryz.prog := mkSpec x_ref11_Part 79 Tryz.f79 [(tInt .i64), (tInt .i64)] [tBool] true h_ref11_Part (fun a => m_ref11_Part a.1 a.2) (fun a K h => by kernel_rfl) callee79 rfl
def m_ref11_Catalogue_Child (a0 : Option Addr) (a1 : Int) (a2 : S_api_Cap) (a3 : Int) (K : (Int × Int) → H → Prop) : H → Prop :=
 m_ref11_Catalogue_is a0 a1 fun r1 =>
 mIf (!r1) (
 K (0, 20)
 ) (
 mDeref a0 fun ad2 =>
 mLoad cSl (ad2.add 0) fun x3 =>
 mIdx x3 a1 7 fun ad4 =>
 mLoad (cInt .i64) ((ad4.add 1).add 0) fun x5 =>
 mIf (!decide (x5 = a2.Obj)) (
 K (0, 3)
 ) (
 mDeref a0 fun ad6 =>
 mLoad cSl (ad6.add 0) fun x7 =>
 mIdx x7 a1 7 fun ad8 =>
 mLoad (cInt .i64) (ad8.add 4) fun x9 =>
 mPure (m_ref11_Part a3 x9) fun r10 =>
 mIf (!r10) (
 K (0, 4)
 ) (
 m_ref11_Catalogue_Find a0 a2 fun r11 =>
 mIf r11.2 (
 K (0, 19)
 ) (
 m_ref11_Catalogue_put a0 a2 a3 a1 fun r12 =>
 K (r12.1, r12.2)
 )
 )
 )
 )
def x_ref11_Catalogue_Child : Cx Tryz.prog := ⟨tys, [s_ref11_Catalogue_Find, s_ref11_Catalogue_is, s_ref11_Catalogue_put, s_ref11_Part], [6], [], mixed⟩
def h_ref11_Catalogue_Child : Hint := (.seq .d (.seq .d (.seq (.seq (.reg (.run [0, 4, 8, 16, 36, 41, 14, 20, 24, 28, 34, 44] .nil)) .d) .d)))
def s_ref11_Catalogue_Child : Spec Tryz.prog := mkSpec x_ref11_Catalogue_Child 50 Tryz.f50 [tPtr, (tInt .i64), S_api_Cap.ty, (tInt .i64)] [(tInt .i64), (tInt .i64)] false h_ref11_Catalogue_Child (fun a => m_ref11_Catalogue_Child a.1 a.2.1 a.2.2.1 a.2.2.2) (fun a K h => by kernel_rfl) callee50 rfl
def m_ref11_Catalogue_Drop (a0 : Option Addr) (a1 : Int) (K : (Sl × Int) → H → Prop) : H → Prop :=
 m_ref11_Catalogue_is a0 a1 fun r1 =>
 mIf (!r1) (
 K (Sl.nil, 20)
 ) (
 m_ref11_Catalogue_Down a0 a1 fun r2 =>
 mLoop (fun (rec4 : (Sl × Int) → H → Prop) (s3 : Sl × Int) =>
 mIf (decide (s3.2 < (r2.len : Int))) (
 mDeref a0 fun ad5 =>
 mIdx r2 s3.2 1 fun ad6 =>
 mLoad cSl (ad5.add 0) fun x7 =>
 mLoad (cInt .i64) ad6 fun x8 =>
 mIdx x7 x8 7 fun ad9 =>
 mLoad S_api_Cap.cells (ad9.add 1) fun x10 =>
 mApp 37 3 24 #[(Value.int .i64 0), (Value.int .u64 0), (Value.int .u64 0)] 1 [(Value.int .i64 x10.Obj), (Value.int .u64 x10.Pass.Hi), (Value.int .u64 x10.Pass.Lo)] s3.1 fun s11 =>
 mDeref a0 fun ad12 =>
 mIdx r2 s3.2 1 fun ad13 =>
 mLoad cSl (ad12.add 0) fun x14 =>
 mLoad (cInt .i64) ad13 fun x15 =>
 mIdx x14 x15 7 fun ad16 =>
 mStore ad16 [(Value.bool false), (Value.int .i64 0), (Value.int .u64 0), (Value.int .u64 0), (Value.int .i64 0), (Value.int .i64 0), (Value.int .i64 0)] <|
 rec4 (s11, (iAdd .i64 s3.2 1))
 ) (
 K (s3.1, 0)
 )
 ) (Sl.nil, 0)
 )
def x_ref11_Catalogue_Drop : Cx Tryz.prog := ⟨tys, [s_ref11_Catalogue_is, s_ref11_Catalogue_Down], [34], [], mixed⟩
def h_ref11_Catalogue_Drop : Hint := (.seq .d (.seq .d (.seq .d (.seq .d (.seq (.seq .d (.blk (.loop [.slot 7 tSl, .slot 8 (tInt .i64)] 70368744112512 [] (.seq .d (.seq (.blk (.seq (.reg (.run [0, 4, 8, 12, 20, 24, 28, 18, 34, 36, 40, 46, 50, 55, 56] .nil)) (.reg (.run [0, 4, 8, 16, 20, 24, 32, 14, 30, 36, 43] .nil)))) .d))))) .d)))))
def s_ref11_Catalogue_Drop : Spec Tryz.prog := mkSpec x_ref11_Catalogue_Drop 26 Tryz.f26 [tPtr, (tInt .i64)] [tSl, (tInt .i64)] false h_ref11_Catalogue_Drop (fun a => m_ref11_Catalogue_Drop a.1 a.2) (fun a K h => by kernel_rfl) callee26 rfl
def m_ref11_Catalogue_Count (a0 : Option Addr) (K : (Int) → H → Prop) : H → Prop :=
 mLoop (fun (rec2 : (Int × Int) → H → Prop) (s1 : Int × Int) =>
 mDeref a0 fun ad3 =>
 mLoad cSl (ad3.add 0) fun x4 =>
 mIf (decide (s1.2 < (x4.len : Int))) (
 mDeref a0 fun ad5 =>
 mLoad cSl (ad5.add 0) fun x6 =>
 mIdx x6 s1.2 7 fun ad7 =>
 mLoad cBool (ad7.add 0) fun x8 =>
 mIf x8 (
 rec2 ((iAdd .i64 s1.1 1), (iAdd .i64 s1.2 1))
 ) (
 rec2 (s1.1, (iAdd .i64 s1.2 1))
 )
 ) (
 K s1.1
 )
 ) (0, 0)
def x_ref11_Catalogue_Count : Cx Tryz.prog := ⟨tys, [], [], [], mixed⟩
def h_ref11_Catalogue_Count : Hint := (.seq .d (.seq .d (.seq (.seq .d (.blk (.loop [.slot 3 (tInt .i64), .slot 4 (tInt .i64)] 16777208 [] .d))) .d)))
def s_ref11_Catalogue_Count : Spec Tryz.prog := mkSpec x_ref11_Catalogue_Count 35 Tryz.f35 [tPtr] [(tInt .i64)] false h_ref11_Catalogue_Count (fun a => m_ref11_Catalogue_Count a) (fun a K h => by kernel_rfl) callee35 rfl
end Go.Proofs.YtdleanjofhghnaaGreatDoor.K
