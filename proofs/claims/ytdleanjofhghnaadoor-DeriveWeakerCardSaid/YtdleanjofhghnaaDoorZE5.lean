/- deriveWeaker: true at every input, the arguments as they were: no condition. Part 5 of 5. -/
import Derived.Test.YtdleanjofhghnaaDoorZE4
namespace Go.Proofs.YtdleanjofhghnaaDoor.K
open Go Go.Proofs
def m_derive_told (a0 : S_api_Cap) (a1 : PV) (K : (S_api_Cap × Int) → H → Prop) : H → Prop :=
 mNew 112 #[(Value.pointer none)] fun ad1 =>
 m_errors_As a1 (⟨Value.iface 114 (Value.pointer (some ad1)), rfl, rfl⟩ : PV) fun r2 =>
 mIf r2 (
 mJoin (fun (s3 : Int × Int × Int × Int) =>
 K ((⟨s3.2.1, ⟨s3.2.2.1, s3.2.2.2⟩⟩ : S_api_Cap), s3.1)
 ) (fun j4 =>
 mBoth (
 mLoad cPtr ad1 fun x5 =>
 mDeref x5 fun ad6 =>
 mBoth (
 mLoad (cInt .i64) (ad6.add 0) fun x7 =>
 j4 (x7, 0, 0, 0)
 ) (
 mLoad (cInt .i64) (ad6.add 0) fun x8 =>
 j4 (x8, 0, 0, 0)
 )
 ) (
 mLoad cPtr ad1 fun x9 =>
 mDeref x9 fun ad10 =>
 mLoad (cInt .i64) (ad10.add 0) fun x11 =>
 j4 (x11, 0, 0, 0)
 ))
 ) (
 K (a0, 0)
 )
def x_derive_told : Cx Tryd.prog := ⟨tys, [s_errors_As], [2, 4], [], mixed⟩
def h_derive_told : Hint := (.seq .d (.seq .d (.seq (.seq .d (.cond (.seq (.reg (.run [0] (.join [.slot 14 (tInt .i64), .cell 4 0 (tInt .i64), .cell 4 1 (tInt .u64), .cell 4 2 (tInt .u64)] 30720 [4] (.both 1 5 (.run [8, 12] (.both 4 5 (.run [23] .nil) (.run [18] .nil))) (.run [6, 8, 12, 18] .nil)) (.run [24] .nil)))) .d) .d)) .d)))
def s_derive_told : Spec Tryd.prog := mkSpec x_derive_told 23 Tryd.f23 [S_api_Cap.ty, tPV] [S_api_Cap.ty, (tInt .i64)] false h_derive_told (fun a => m_derive_told a.1 a.2) (fun a K h => by kernel_rfl) callee23 rfl
def m_derive_ask (a0 : ByteArray) (a1 : Int) (K : (PV) → H → Prop) : H → Prop :=
 mIf (decide (a1 = 0)) (
 K (⟨Value.nilIface, rfl, rfl⟩ : PV)
 ) (
 mNew 116 #[(Value.int .i64 a1)] fun ad1 =>
 mNew 153 #[(Value.string a0), (⟨Value.iface 112 (Value.pointer (some ad1)), rfl, rfl⟩ : PV).1] fun ad2 =>
 K (⟨Value.iface 151 (Value.pointer (some ad2)), rfl, rfl⟩ : PV)
 )
def x_derive_ask : Cx Tryd.prog := ⟨tys, [], [], [], mixed⟩
def h_derive_ask : Hint := .d
def s_derive_ask : Spec Tryd.prog := mkSpec x_derive_ask 33 Tryd.f33 [tStr, (tInt .i64)] [tPV] false h_derive_ask (fun a => m_derive_ask a.1 a.2) (fun a K h => by kernel_rfl) callee33 rfl
def m_derive_root (a0 : Option Addr) (a1 : Option Addr) (a2 : Option Addr) (a3 : Int) (K : (S_api_Cap × PV) → H → Prop) : H → Prop :=
 m_catalogue_Catalogue_In a1 a3 fun r1 =>
 mIf (decide (0 < r1)) (
 m_derive_ask (ByteArray.mk #[116, 104, 101, 32, 111, 98, 106, 101, 99, 116]) 19 fun r2 =>
 K ((⟨0, ⟨0, 0⟩⟩ : S_api_Cap), r2)
 ) (
 m_quota_Quota_May a2 a3 fun r3 =>
 m_derive_ask (ByteArray.mk #[113, 117, 111, 116, 97]) r3 fun r4 =>
 mIsNil r4.1 fun b5 =>
 mIf (!b5) (
 K ((⟨0, ⟨0, 0⟩⟩ : S_api_Cap), r4)
 ) (
 m_draws_Draws_Draw a0 fun r6 =>
 m_derive_ask (ByteArray.mk #[100, 114, 97, 119, 115]) r6.2 fun r7 =>
 mIsNil r7.1 fun b8 =>
 mIf (!b8) (
 K ((⟨0, ⟨0, 0⟩⟩ : S_api_Cap), r7)
 ) (
 m_catalogue_Catalogue_Root a1 (⟨a3, ⟨r6.1.Hi, r6.1.Lo⟩⟩ : S_api_Cap) 31 fun r9 =>
 mIf (!decide (r9.2 = 0)) (
 m_derive_ask (ByteArray.mk #[99, 97, 116, 97, 108, 111, 103, 117, 101]) r9.2 fun r10 =>
 K ((⟨0, ⟨0, 0⟩⟩ : S_api_Cap), r10)
 ) (
 m_quota_Quota_Add a2 a3 fun r11 =>
 m_derive_ask (ByteArray.mk #[113, 117, 111, 116, 97]) r11 fun r12 =>
 K ((⟨a3, ⟨r6.1.Hi, r6.1.Lo⟩⟩ : S_api_Cap), r12)
 )
 )
 )
 )
def x_derive_root : Cx Tryd.prog := ⟨tys, [s_catalogue_Catalogue_In, s_derive_ask, s_quota_Quota_May, s_draws_Draws_Draw, s_catalogue_Catalogue_Root, s_quota_Quota_Add], [8, 11, 14], [], mixed⟩
def h_derive_root : Hint := (.seq .d (.seq .d (.seq .d (.seq .d (.seq .d (.seq .d (.seq .d (.seq (.reg (.run [4, 8, 1, 15, 19, 23, 24] .nil)) .d))))))))
def s_derive_root : Spec Tryd.prog := mkSpec x_derive_root 24 Tryd.f24 [tPtr, tPtr, tPtr, (tInt .i64)] [S_api_Cap.ty, tPV] false h_derive_root (fun a => m_derive_root a.1 a.2.1 a.2.2.1 a.2.2.2) (fun a K h => by kernel_rfl) callee24 rfl
def m_derive_Root (a0 : Option Addr) (a1 : Option Addr) (a2 : Option Addr) (a3 : Int) (K : (S_api_Cap × Int) → H → Prop) : H → Prop :=
 m_derive_root a0 a1 a2 a3 fun r1 =>
 m_derive_told r1.1 r1.2 fun r2 =>
 K (r2.1, r2.2)
def x_derive_Root : Cx Tryd.prog := ⟨tys, [s_derive_told, s_derive_root], [8], [], mixed⟩
def h_derive_Root : Hint := .d
def s_derive_Root : Spec Tryd.prog := mkSpec x_derive_Root 9 Tryd.f9 [tPtr, tPtr, tPtr, (tInt .i64)] [S_api_Cap.ty, (tInt .i64)] false h_derive_Root (fun a => m_derive_Root a.1 a.2.1 a.2.2.1 a.2.2.2) (fun a K h => by kernel_rfl) callee9 rfl
def m_derive_child (a0 : Option Addr) (a1 : Option Addr) (a2 : Option Addr) (a3 : S_api_Cap) (a4 : Int) (K : (S_api_Cap × PV) → H → Prop) : H → Prop :=
 m_catalogue_Catalogue_Find a1 a3 fun r1 =>
 mIf (!r1.2) (
 m_derive_ask (ByteArray.mk #[112, 97, 114, 101, 110, 116]) 3 fun r2 =>
 K ((⟨0, ⟨0, 0⟩⟩ : S_api_Cap), r2)
 ) (
 m_catalogue_Catalogue_At a1 r1.1 fun r3 =>
 mPure (m_mask_Has r3.1.Rights 4) fun r4 =>
 mJoin (fun (s6 : Bool) =>
 mIf s6 (
 m_derive_ask (ByteArray.mk #[114, 105, 103, 104, 116, 115]) 4 fun r8 =>
 K ((⟨0, ⟨0, 0⟩⟩ : S_api_Cap), r8)
 ) (
 m_quota_Quota_May a2 a3.Obj fun r9 =>
 m_derive_ask (ByteArray.mk #[113, 117, 111, 116, 97]) r9 fun r10 =>
 mIsNil r10.1 fun b11 =>
 mIf (!b11) (
 K ((⟨0, ⟨0, 0⟩⟩ : S_api_Cap), r10)
 ) (
 m_issue_Of a0 a1 a3.Obj fun r12 =>
 m_derive_ask (ByteArray.mk #[105, 115, 115, 117, 101]) r12.2 fun r13 =>
 mIsNil r13.1 fun b14 =>
 mIf (!b14) (
 K ((⟨0, ⟨0, 0⟩⟩ : S_api_Cap), r13)
 ) (
 m_catalogue_Catalogue_Child a1 r1.1 (⟨a3.Obj, ⟨r12.1.Hi, r12.1.Lo⟩⟩ : S_api_Cap) a4 fun r15 =>
 mIf (!decide (r15.2 = 0)) (
 m_derive_ask (ByteArray.mk #[99, 97, 116, 97, 108, 111, 103, 117, 101]) r15.2 fun r16 =>
 K ((⟨0, ⟨0, 0⟩⟩ : S_api_Cap), r16)
 ) (
 m_quota_Quota_Add a2 a3.Obj fun r17 =>
 m_derive_ask (ByteArray.mk #[113, 117, 111, 116, 97]) r17 fun r18 =>
 K ((⟨a3.Obj, ⟨r12.1.Hi, r12.1.Lo⟩⟩ : S_api_Cap), r18)
 )
 )
 )
 )
 ) (fun j7 =>
 mIf (!r4) (
 j7 true
 ) (
 mPure (m_mask_Part a4 r3.1.Rights) fun r19 =>
 j7 (!r19)
 ))
 )
def x_derive_child : Cx Tryd.prog := ⟨tys, [s_derive_ask, s_quota_Quota_May, s_quota_Quota_Add, s_catalogue_Catalogue_Find, s_catalogue_Catalogue_At, s_mask_Has, s_mask_Part, s_issue_Of, s_catalogue_Catalogue_Child], [8, 10, 14, 17, 20], [], mixed⟩
def h_derive_child : Hint := (.seq .d (.seq .d (.seq .d (.seq .d (.seq (.seq (.reg (.run [3, 7, 11, 15, 19] (.join [.slot 49 tBool] 1108307720798208 [] (.split 43 (.run [23, 27, 31, 35, 39, 43] .nil) (.run [23, 27, 31, 35, 39, 43] .nil)) .nil))) .d) (.seq .d (.seq .d (.seq .d (.seq .d (.seq .d (.seq (.reg (.run [4, 8, 1, 13, 19, 23, 27, 28] .nil)) .d)))))))))))
def s_derive_child : Spec Tryd.prog := mkSpec x_derive_child 25 Tryd.f25 [tPtr, tPtr, tPtr, S_api_Cap.ty, (tInt .i64)] [S_api_Cap.ty, tPV] false h_derive_child (fun a => m_derive_child a.1 a.2.1 a.2.2.1 a.2.2.2.1 a.2.2.2.2) (fun a K h => by kernel_rfl) callee25 rfl
def m_derive_Child (a0 : Option Addr) (a1 : Option Addr) (a2 : Option Addr) (a3 : S_api_Cap) (a4 : Int) (K : (S_api_Cap × Int) → H → Prop) : H → Prop :=
 m_derive_child a0 a1 a2 a3 a4 fun r1 =>
 m_derive_told r1.1 r1.2 fun r2 =>
 K (r2.1, r2.2)
def x_derive_Child : Cx Tryd.prog := ⟨tys, [s_derive_told, s_derive_child], [8, 10], [], mixed⟩
def h_derive_Child : Hint := .d
def s_derive_Child : Spec Tryd.prog := mkSpec x_derive_Child 10 Tryd.f10 [tPtr, tPtr, tPtr, S_api_Cap.ty, (tInt .i64)] [S_api_Cap.ty, (tInt .i64)] false h_derive_Child (fun a => m_derive_Child a.1 a.2.1 a.2.2.1 a.2.2.2.1 a.2.2.2.2) (fun a K h => by kernel_rfl) callee10 rfl
end Go.Proofs.YtdleanjofhghnaaDoor.K
namespace Go.Proofs.YtdleanjofhghnaaDoor.K
open Go
section
variable {h : H} {K : PV → H → Prop}
theorem w_ask {s : ByteArray} {e : Int} (y0 : e = 0 → ∀ v : PV, v.1 = .nilIface → K v h) (y1 : e ≠ 0 → ∀ v h', asks h' e v.1 → Keeps h h' → K v h') : m_derive_ask s e K h := by
  unfold m_derive_ask
  refine w_if' (fun c => y0 c _ rfl) fun c => ?_
  refine w_box fun b1 h1 f1 c1 k1 => w_box fun b2 h2 f2 c2 k2 => ?_
  refine y1 c _ h2 (.inr ⟨c, b2, b1, rfl, ?_, ?_⟩) (k1.trans k2)
  · exact At.own (l1 := [Value.string s]) (l3 := []) c2 rfl
  · exact (at_box c1).keep k2
theorem w_isNil0 {fv : Value} {K : Bool → H → Prop} (e : fv = .nilIface) (y : K true h) : mIsNil fv K h := .inl ⟨e, y⟩
theorem w_isNil1 {fv : Value} {e : Int} {K : Bool → H → Prop} (x : asks h e fv) (ne : e ≠ 0) (y : K false h) : mIsNil fv K h := by
  rcases x with ⟨e0, _⟩ | ⟨_, m, r, e1, _⟩
  · exact absurd e0 ne
  · exact .inr ⟨_, _, e1, y⟩
def cap0 : S_api_Cap := ⟨0, ⟨0, 0⟩⟩
theorem w_told0 {c : S_api_Cap} {fv : PV} {K : S_api_Cap × Int → H → Prop} (e : fv.1 = .nilIface) (y : ∀ h', Keeps h h' → K (c, 0) h') : m_derive_told c fv K h := by
  unfold m_derive_told
  refine w_box fun b1 h1 f1 c1 k1 => ?_
  exact w_As0 e (w_ifF rfl (y h1 k1))
theorem w_told1 {c : S_api_Cap} {fv : PV} {e : Int} {K : S_api_Cap × Int → H → Prop} (g : ErrAt h) (x : asks h e fv.1) (ne : e ≠ 0) (y : ∀ h', Keeps h h' → K (cap0, e) h') : m_derive_told c fv K h := by
  unfold m_derive_told
  refine w_box fun b1 h1 f1 c1 k1 => ?_
  have x1 : asks h1 e fv.1 := by
    rcases x with ⟨e0, _⟩ | ⟨_, m, r, e1, hm, hr⟩
    · exact absurd e0 ne
    · exact .inr ⟨ne, m, r, e1, hm.keep k1, hr.keep k1⟩
  refine w_As1 (v := .pointer none) x1 ne (g.keep k1) c1 fun r hr => ?_
  have hrb : r ≠ b1 := fun q => by
    subst q
    rcases x with ⟨e0, _⟩ | ⟨_, m, r', e1, hm, hr'⟩
    · exact absurd e0 ne
    · obtain ⟨o, ho⟩ := hr.ex
      have a1 := at_box (cs := [Value.pointer none]) c1
      have a2 := At.eq hr a1 rfl
      simp [cInt] at a2
  refine w_ifT rfl (w_join ?_)
  have l1 : At (upd h1 b1 (.cells [Value.pointer (some ⟨r, 0, none⟩)].toArray N_P_derive_refusal (0, 0))) ⟨b1, 0, none⟩ (cPtr (some ⟨r, 0, none⟩)) := at_box (upd_same _ _ _)
  have l2 : At (upd h1 b1 (.cells [Value.pointer (some ⟨r, 0, none⟩)].toArray N_P_derive_refusal (0, 0))) (Addr.add ⟨r, 0, none⟩ 0) (cInt .i64 e) := by
    rw [pt_add]; exact hr.frame (upd_ne _ _ hrb)
  have kk : Keeps h (upd h1 b1 (.cells [Value.pointer (some ⟨r, 0, none⟩)].toArray N_P_derive_refusal (0, 0))) := fun z o ho => by
    rw [upd_ne _ _ (fun q => by rw [q, f1] at ho; cases ho)]; exact k1 z o ho
  exact w_both (w_load l1 (w_deref (w_both (w_load l2 (y _ kk)) (w_load l2 (y _ kk))))) (w_load l1 (w_deref (w_load l2 (y _ kk))))
end
def DraO (h : H) (o : Owner) (i d : Nat) (cs : List S_api_Word) (tk : Nat) : Prop := ∃ ws, DAt h d ws cs tk ∧ o d = some i ∧ ∀ c, ws.foot c → o c = some i
section
variable {i j : Nat} {o o' : Owner} {h h' : H} {p d q : Nat} {es : List En} {each all : Int} {l : List (Int × Int)} {cs : List S_api_Word} {tk : Nat}
theorem DraO.oc (x : DraO h o i d cs tk) (k : OC j o o' h h') (ne : i ≠ j) : DraO h' o' i d cs tk := by
  obtain ⟨ws, a, b1, b2⟩ := x
  exact ⟨ws, a.but k.bt fun c e => ⟨fun q => ne (by rw [q, b1] at e; exact Option.some.inj e), fun f => ne (by rw [b2 c f] at e; exact Option.some.inj e)⟩, k.own _ _ b1, fun c f => k.own _ _ (b2 c f)⟩
theorem DraO.keep (x : DraO h o i d cs tk) (k : Keeps h h') : DraO h' o i d cs tk := by
  obtain ⟨ws, a, b⟩ := x; exact ⟨ws, a.keep k, b⟩
theorem CatO.keep (x : CatO h o i p es) (k : Keeps h h') : CatO h' o i p es := x.oc (OC.keeps (i := i + 1) k) (by omega)
theorem QuoO.keep (x : QuoO h o i q each all l) (k : Keeps h h') : QuoO h' o i q each all l := x.oc (OC.keeps (i := i + 1) k) (by omega)
theorem OC.one {b : Nat} (ow : Owns o h) (k : But (· = b) h h') (dm : ∀ z, h' z = none → h z = none) (e : o b = some i) : OC i o o h h' ∧ Owns o h' :=
  ⟨⟨fun c x hc n => k c x hc fun q => n (by (have q : c = b := q); rw [q, e]), fun _ _ q => q, fun _ q => .inl q, dm⟩, fun c q z => ow c q (dm c z)⟩
theorem o_taken (x : DraO h o i d cs tk) {K : Int → H → Prop} (y : K (tk : Int) h) : m_draws_Draws_Taken (some ⟨d, 0, none⟩) K h := by
  obtain ⟨_, a, _⟩ := x; exact t_DTaken a y
theorem o_draw (x : DraO h o i d cs tk) (ow : Owns o h) {K : S_api_Word × Int → H → Prop} (y0 : cs[tk]? = none → K (⟨0, 0⟩, 11) h) (y1 : ∀ c, cs[tk]? = some c → ∀ h', DraO h' o i d cs (tk + 1) → OC i o o h h' → Owns o h' → K (c, 0) h') : m_draws_Draws_Draw (some ⟨d, 0, none⟩) K h := by
  obtain ⟨ws, a, b1, b2⟩ := x
  refine t_DDraw a y0 fun c hc h' a' k dm => ?_
  obtain ⟨k1, k2⟩ := OC.one ow k dm b1
  exact y1 c hc h' ⟨ws, a', b1, b2⟩ k1 k2
theorem o_issue (x : DraO h o i d cs tk) (ow : Owns o h) (ct : CatO h o j p es) (ne : i ≠ j) {b : Int} {K : S_api_Word × Int → H → Prop}
    (y : ∀ h', DraO h' o i d cs (issueO (fun c => (findE es ⟨b, c⟩).isSome) cs tk 9).2 → OC i o o h h' → Owns o h' → K (issueO (fun c => (findE es ⟨b, c⟩).isSome) cs tk 9).1 h') : m_issue_Of (some ⟨d, 0, none⟩) (some ⟨p, 0, none⟩) b K h := by
  obtain ⟨ws, a, b1, b2⟩ := x
  obtain ⟨knob, G, ca, cb⟩ := ct
  refine t_issueOf a ca (fun g => ne (by have := cb _ g; rw [b1] at this; exact Option.some.inj this)) fun h' a' k dm => ?_
  obtain ⟨k1, k2⟩ := OC.one ow k dm b1
  exact y h' ⟨ws, a', b1, b2⟩ k1 k2
theorem o_in (x : CatO h o i p es) {n : Int} {K : Int → H → Prop} (y : K (cnt es n : Nat) h) : m_catalogue_Catalogue_In (some ⟨p, 0, none⟩) n K h := by
  obtain ⟨_, _, a, _⟩ := x; exact t_CIn a y
theorem o_qmay (x : QuoO h o i q each all l) {n : Int} {K : Int → H → Prop} (y : ∀ h', Keeps h h' → K (mayOf each all l n) h') : m_quota_Quota_May (some ⟨q, 0, none⟩) n K h := by
  obtain ⟨_, a, _⟩ := x; exact t_QMay a y
end
noncomputable def rootD (each all : Int) (cs : List S_api_Word) (tk : Nat) (es : List En) (l : List (Int × Int)) (b : Int) : (S_api_Cap × Int) × Nat × List En × List (Int × Int) :=
  if 0 < cnt es b then ((cap0, 19), tk, es, l)
  else if mayOf each all l b = 0 then
    match cs[tk]? with
    | none => ((cap0, 11), tk, es, l)
    | some c => if (rootOut es ⟨b, c⟩ 31).1.2 = 0 then ((⟨b, c⟩, 0), tk + 1, (rootOut es ⟨b, c⟩ 31).2, addL each all l b)
      else ((cap0, (rootOut es ⟨b, c⟩ 31).1.2), tk + 1, (rootOut es ⟨b, c⟩ 31).2, l)
  else ((cap0, mayOf each all l b), tk, es, l)
noncomputable def childD (each all : Int) (cs : List S_api_Word) (tk : Nat) (es : List En) (l : List (Int × Int)) (c : S_api_Cap) (r : Int) : (S_api_Cap × Int) × Nat × List En × List (Int × Int) :=
  match findE es c with
  | none => ((cap0, 3), tk, es, l)
  | some n =>
    if (!partOf 4 (atOut es n).1.Rights || !partOf r (atOut es n).1.Rights) = true then ((cap0, 4), tk, es, l)
    else if mayOf each all l c.Obj = 0 then
      if (issueO (fun v => (findE es ⟨c.Obj, v⟩).isSome) cs tk 9).1.2 = 0 then
        if (childOut es n ⟨c.Obj, (issueO (fun v => (findE es ⟨c.Obj, v⟩).isSome) cs tk 9).1.1⟩ r).1.2 = 0 then
          ((⟨c.Obj, (issueO (fun v => (findE es ⟨c.Obj, v⟩).isSome) cs tk 9).1.1⟩, 0), (issueO (fun v => (findE es ⟨c.Obj, v⟩).isSome) cs tk 9).2, (childOut es n ⟨c.Obj, (issueO (fun v => (findE es ⟨c.Obj, v⟩).isSome) cs tk 9).1.1⟩ r).2, addL each all l c.Obj)
        else ((cap0, (childOut es n ⟨c.Obj, (issueO (fun v => (findE es ⟨c.Obj, v⟩).isSome) cs tk 9).1.1⟩ r).1.2), (issueO (fun v => (findE es ⟨c.Obj, v⟩).isSome) cs tk 9).2, (childOut es n ⟨c.Obj, (issueO (fun v => (findE es ⟨c.Obj, v⟩).isSome) cs tk 9).1.1⟩ r).2, l)
      else ((cap0, (issueO (fun v => (findE es ⟨c.Obj, v⟩).isSome) cs tk 9).1.2), (issueO (fun v => (findE es ⟨c.Obj, v⟩).isSome) cs tk 9).2, es, l)
    else ((cap0, mayOf each all l c.Obj), tk, es, l)
structure OS (S : Nat → Prop) (o o' : Owner) (h h' : H) : Prop where
  but : ∀ c x, h c = some x → (∀ i, o c = some i → ¬ S i) → h' c = some x
  own : ∀ c t, o c = some t → o' c = some t
  new : ∀ c, o' c ≠ none → o c ≠ none ∨ h c = none
  dom : ∀ c, h' c = none → h c = none
section
variable {S : Nat → Prop} {i : Nat} {o o' o'' : Owner} {h h' h'' : H}
theorem OC.os (k : OC i o o' h h') (hi : S i) : OS S o o' h h' := ⟨fun c x e n => k.but c x e fun q => n i q hi, k.own, k.new, k.dom⟩
theorem OS.keeps (k : Keeps h h') : OS S o o h h' := ⟨fun c x e _ => k c x e, fun _ _ e => e, fun _ e => .inl e, fun _ e => k.fresh e⟩
theorem OS.trans (x : OS S o o' h h') (y : OS S o' o'' h' h'') : OS S o o'' h h'' := by
  refine ⟨fun c z e n => ?_, fun c t e => y.own c t (x.own c t e), fun c e => ?_, fun c e => x.dom c (y.dom c e)⟩
  · have h1 := x.but c z e n
    refine y.but c z h1 fun i hi => ?_
    cases q : o c with
    | none => exact ((x.new c (by rw [hi]; simp)).elim (fun z => (z q).elim) fun z => by rw [z] at e; cases e)
    | some t => rw [x.own c t q] at hi; cases hi; exact n _ q
  · rcases y.new c e with q | q
    · exact x.new c q
    · exact .inr (x.dom c q)
theorem OS.bt (k : OS S o o' h h') : But (fun c => ∃ i, o c = some i ∧ S i) h h' := fun c x e n => k.but c x e fun i hi hs => n ⟨i, hi, hs⟩
theorem OS.gone (k : OS S o o' h h') {c : Nat} (e : o c = none) (hc : h c ≠ none) : o' c = none := by
  cases q : o' c with
  | none => rfl
  | some t => exact (k.new c (by rw [q]; simp)).elim (fun z => absurd e z) fun z => absurd z hc
theorem OS.free (k : OS S o o' h h') {c : Nat} {x : Obj} (e : o c = none) (hc : h c = some x) : h' c = some x := k.but c x hc fun i q => by rw [e] at q; cases q
end
structure SetO (h : H) (o : Owner) (d p q : Nat) (cs : List S_api_Word) (each all : Int) (tk : Nat) (es : List En) (l : List (Int × Int)) : Prop where
  dr : DraO h o 1 d cs tk
  ct : CatO h o 2 p es
  qu : QuoO h o 3 q each all l
  er : ErrAt h
  eo : o errG = none
  ow : Owns o h
  hi : all ≤ 256
section
variable {h h' : H} {o o' : Owner} {d p q : Nat} {cs : List S_api_Word} {each all : Int} {tk tk' : Nat} {es es' : List En} {l l' : List (Int × Int)}
theorem SetO.keep (x : SetO h o d p q cs each all tk es l) (k : Keeps h h') : SetO h' o d p q cs each all tk es l := ⟨x.dr.keep k, x.ct.keep k, x.qu.keep k, x.er.keep k, x.eo, x.ow.keep k, x.hi⟩
theorem ErrAt.os {S : Nat → Prop} (e : ErrAt h) (k : OS S o o' h h') (eo : o errG = none) : ErrAt h' := At.but e k.bt fun ⟨_, q, _⟩ => by rw [show o errG = some _ from q] at eo; cases eo
theorem ErrAt.has (e : ErrAt h) : h errG ≠ none := by obtain ⟨x, hx⟩ := e.ex; have : h errG = some x := hx; rw [this]; simp
theorem SetO.draw (x : SetO h o d p q cs each all tk es l) (y : DraO h' o 1 d cs tk') (k : OC 1 o o h h') (ow : Owns o h') : SetO h' o d p q cs each all tk' es l :=
  ⟨y, x.ct.oc k (by decide), x.qu.oc k (by decide), x.er.os (k.os (S := fun _ => True) trivial) x.eo, x.eo, ow, x.hi⟩
theorem SetO.cat (x : SetO h o d p q cs each all tk es l) (y : CatO h' o' 2 p es') (k : OC 2 o o' h h') (ow : Owns o' h') : SetO h' o' d p q cs each all tk es' l :=
  ⟨x.dr.oc k (by decide), y, x.qu.oc k (by decide), x.er.os (k.os (S := fun _ => True) trivial) x.eo, (k.os (S := fun _ => True) trivial).gone x.eo x.er.has, ow, x.hi⟩
theorem SetO.quo (x : SetO h o d p q cs each all tk es l) (y : QuoO h' o 3 q each all l') (k : OC 3 o o h h') (ow : Owns o h') : SetO h' o d p q cs each all tk es l' :=
  ⟨x.dr.oc k (by decide), x.ct.oc k (by decide), y, x.er.os (k.os (S := fun _ => True) trivial) x.eo, x.eo, ow, x.hi⟩
theorem SetO.no (x : SetO h o d p q cs each all tk es l) {s : ByteArray} {e : Int} (ne : e ≠ 0) {c : S_api_Cap} {K : S_api_Cap × Int → H → Prop} (y : ∀ h', SetO h' o d p q cs each all tk es l → OS (· ≤ 3) o o h h' → K (cap0, e) h') :
    m_derive_ask s e (fun v => m_derive_told c v K) h :=
  w_ask (fun q => absurd q ne) fun _ _ _ a1 k1 => w_told1 (x.er.keep k1) a1 ne fun h2 k2 => y h2 (x.keep (k1.trans k2)) (OS.keeps (k1.trans k2))
theorem SetO.some (x : SetO h o d p q cs each all tk es l) {v : PV} {e : Int} (a : asks h e v.1) (ne : e ≠ 0) {c : S_api_Cap} {K : S_api_Cap × Int → H → Prop} {B : H → Prop} (y : ∀ h', SetO h' o d p q cs each all tk es l → OS (· ≤ 3) o o h h' → K (cap0, e) h') :
    mIsNil v.1 (fun b => mIf (!b) (m_derive_told c v K) B) h :=
  w_isNil1 a ne (w_ifT rfl (w_told1 x.er a ne fun h2 k2 => y h2 (x.keep k2) (OS.keeps k2)))
theorem t_dRoot (x : SetO h o d p q cs each all tk es l) {b : Int} {K : S_api_Cap × Int → H → Prop}
    (y : ∀ o' h', SetO h' o' d p q cs each all (rootD each all cs tk es l b).2.1 (rootD each all cs tk es l b).2.2.1 (rootD each all cs tk es l b).2.2.2 → OS (· ≤ 3) o o' h h' → K (rootD each all cs tk es l b).1 h') :
    m_derive_Root (some ⟨d, 0, none⟩) (some ⟨p, 0, none⟩) (some ⟨q, 0, none⟩) b K h := by
  unfold m_derive_Root m_derive_root
  refine o_in x.ct (w_if' (fun c => ?_) fun c => ?_)
  · have e : rootD each all cs tk es l b = ((cap0, 19), tk, es, l) := by unfold rootD; rw [if_pos (by omega)]
    rw [e] at y
    exact x.no (by decide) fun h' x' k' => y o h' x' k'
  · refine o_qmay x.qu fun h1 k1 => ?_
    have x1 := x.keep k1
    refine w_ask (fun e v hv => ?_) fun e v h2 a2 k2 => ?_
    · refine w_isNil0 hv (w_ifF rfl (o_draw x1.dr x1.ow (fun hno => ?_) fun c' hc h2 dr2 k2 ow2 => ?_))
      · have e : rootD each all cs tk es l b = ((cap0, 11), tk, es, l) := by unfold rootD; rw [if_neg (by omega), if_pos e, hno]
        rw [e] at y
        refine w_ask (fun q => by cases q) fun ne v h2 a2 k2 => (x1.keep k2).some a2 ne fun h3 x3 k3 => y o h3 x3 ((OS.keeps (k1.trans k2)).trans k3)
      · have x2 := x1.draw dr2 k2 ow2
        refine w_ask (fun _ v hv => w_isNil0 hv (w_ifF rfl ?_)) fun ne => absurd rfl ne
        refine o_root x2.ct x2.ow fun o3 h3 ct3 k3 ow3 => ?_
        have x3 := x2.cat ct3 k3 ow3
        have kk : OS (· ≤ 3) o o3 h h3 := ((OS.keeps k1).trans (k2.os (by decide))).trans (k3.os (by decide))
        by_cases e3 : (rootOut es ⟨b, c'⟩ 31).1.2 = 0
        · have e' : rootD each all cs tk es l b = ((⟨b, c'⟩, 0), tk + 1, (rootOut es ⟨b, c'⟩ 31).2, addL each all l b) := by unfold rootD; rw [if_neg (by omega), if_pos e, hc]; simp only []; rw [if_pos e3]
          rw [e'] at y
          refine w_ifF (congrArg Bool.not (decide_eq_true e3)) (o_qadd x3.qu x3.ow x3.hi fun h4 qu4 k4 ow4 => ?_)
          have x4 := x3.quo qu4 k4 ow4
          exact w_ask (fun _ v hv => w_told0 hv fun h5 k5 => y o3 h5 (x4.keep k5) ((kk.trans (k4.os (by decide))).trans (OS.keeps k5))) fun ne => absurd e ne
        · have e' : rootD each all cs tk es l b = ((cap0, (rootOut es ⟨b, c'⟩ 31).1.2), tk + 1, (rootOut es ⟨b, c'⟩ 31).2, l) := by unfold rootD; rw [if_neg (by omega), if_pos e, hc]; simp only []; rw [if_neg e3]
          rw [e'] at y
          refine w_ifT (congrArg Bool.not (decide_eq_false e3)) ?_
          exact x3.no e3 fun h4 x4 k4 => y o3 h4 x4 (kk.trans k4)
    · have e' : rootD each all cs tk es l b = ((cap0, mayOf each all l b), tk, es, l) := by unfold rootD; rw [if_neg (by omega), if_neg e]
      rw [e'] at y
      exact (x1.keep k2).some a2 e fun h3 x3 k3 => y o h3 x3 ((OS.keeps (k1.trans k2)).trans k3)
theorem t_dChild (x : SetO h o d p q cs each all tk es l) {c : S_api_Cap} {r : Int} {K : S_api_Cap × Int → H → Prop}
    (y : ∀ o' h', SetO h' o' d p q cs each all (childD each all cs tk es l c r).2.1 (childD each all cs tk es l c r).2.2.1 (childD each all cs tk es l c r).2.2.2 → OS (· ≤ 3) o o' h h' → K (childD each all cs tk es l c r).1 h') :
    m_derive_Child (some ⟨d, 0, none⟩) (some ⟨p, 0, none⟩) (some ⟨q, 0, none⟩) c r K h := by
  unfold m_derive_Child m_derive_child
  refine o_find x.ct ?_
  cases hf : findE es c with
  | none =>
    have e : childD each all cs tk es l c r = ((cap0, 3), tk, es, l) := by unfold childD; rw [hf]
    rw [e] at y
    exact w_ifT rfl (x.no (by decide) fun h' x' k' => y o h' x' k')
  | some n =>
    refine w_ifF rfl (o_at x.ct ?_)
    show mPure (m_mask_Has (atOut es n).1.Rights 4) _ h
    refine w_pure (partOf 4 (atOut es n).1.Rights) (fun _ _ z => by unfold m_mask_Has; exact w_Part z) ?_
    refine w_joinV (!partOf 4 (atOut es n).1.Rights || !partOf r (atOut es n).1.Rights) (fun j hj => ?_) ?_
    · refine w_if (fun c1 => ?_) fun c1 => w_Part ?_
      · rw [c1] at hj; exact hj
      · rw [c1] at hj; exact hj
    · refine w_if (fun c1 => ?_) fun c1 => ?_
      · have e : childD each all cs tk es l c r = ((cap0, 4), tk, es, l) := by unfold childD; rw [hf]; simp only []; rw [if_pos c1]
        rw [e] at y
        exact x.no (by decide) fun h' x' k' => y o h' x' k'
      · refine o_qmay x.qu fun h1 k1 => ?_
        have x1 := x.keep k1
        have c2 : ¬ (!partOf 4 (atOut es n).1.Rights || !partOf r (atOut es n).1.Rights) = true := by rw [c1]; decide
        refine w_ask (fun e v hv => ?_) fun e v h2 a2 k2 => ?_
        · refine w_isNil0 hv (w_ifF rfl (o_issue x1.dr x1.ow x1.ct (by decide) fun h2 dr2 k2 ow2 => ?_))
          have x2 := x1.draw dr2 k2 ow2
          have kk2 : OS (· ≤ 3) o o h h2 := (OS.keeps k1).trans (k2.os (by decide))
          by_cases e2 : (issueO (fun v => (findE es ⟨c.Obj, v⟩).isSome) cs tk 9).1.2 = 0
          · refine w_ask (fun _ v hv => w_isNil0 hv (w_ifF rfl ?_)) fun ne => absurd e2 ne
            refine o_child x2.ct x2.ow fun o3 h3 ct3 k3 ow3 => ?_
            have x3 := x2.cat ct3 k3 ow3
            have kk : OS (· ≤ 3) o o3 h h3 := kk2.trans (k3.os (by decide))
            by_cases e3 : (childOut es n ⟨c.Obj, (issueO (fun v => (findE es ⟨c.Obj, v⟩).isSome) cs tk 9).1.1⟩ r).1.2 = 0
            · have e' : childD each all cs tk es l c r = ((⟨c.Obj, (issueO (fun v => (findE es ⟨c.Obj, v⟩).isSome) cs tk 9).1.1⟩, 0), (issueO (fun v => (findE es ⟨c.Obj, v⟩).isSome) cs tk 9).2, (childOut es n ⟨c.Obj, (issueO (fun v => (findE es ⟨c.Obj, v⟩).isSome) cs tk 9).1.1⟩ r).2, addL each all l c.Obj) := by
                unfold childD; rw [hf]; simp only []; rw [if_neg c2, if_pos e, if_pos e2, if_pos e3]
              rw [e'] at y
              refine w_ifF (congrArg Bool.not (decide_eq_true e3)) (o_qadd x3.qu x3.ow x3.hi fun h4 qu4 k4 ow4 => ?_)
              have x4 := x3.quo qu4 k4 ow4
              exact w_ask (fun _ v hv => w_told0 hv fun h5 k5 => y o3 h5 (x4.keep k5) ((kk.trans (k4.os (by decide))).trans (OS.keeps k5))) fun ne => absurd e ne
            · have e' : childD each all cs tk es l c r = ((cap0, (childOut es n ⟨c.Obj, (issueO (fun v => (findE es ⟨c.Obj, v⟩).isSome) cs tk 9).1.1⟩ r).1.2), (issueO (fun v => (findE es ⟨c.Obj, v⟩).isSome) cs tk 9).2, (childOut es n ⟨c.Obj, (issueO (fun v => (findE es ⟨c.Obj, v⟩).isSome) cs tk 9).1.1⟩ r).2, l) := by
                unfold childD; rw [hf]; simp only []; rw [if_neg c2, if_pos e, if_pos e2, if_neg e3]
              rw [e'] at y
              refine w_ifT (congrArg Bool.not (decide_eq_false e3)) ?_
              exact x3.no e3 fun h4 x4 k4 => y o3 h4 x4 (kk.trans k4)
          · have e' : childD each all cs tk es l c r = ((cap0, (issueO (fun v => (findE es ⟨c.Obj, v⟩).isSome) cs tk 9).1.2), (issueO (fun v => (findE es ⟨c.Obj, v⟩).isSome) cs tk 9).2, es, l) := by
              unfold childD; rw [hf]; simp only []; rw [if_neg c2, if_pos e, if_neg e2]
            rw [e'] at y
            exact w_ask (fun q => absurd q e2) fun ne v h3 a3 k3 => (x2.keep k3).some a3 ne fun h4 x4 k4 => y o h4 x4 ((kk2.trans (OS.keeps k3)).trans k4)
        · have e' : childD each all cs tk es l c r = ((cap0, mayOf each all l c.Obj), tk, es, l) := by unfold childD; rw [hf]; simp only []; rw [if_neg c2, if_neg e]
          rw [e'] at y
          exact (x1.keep k2).some a2 e fun h3 x3 k3 => y o h3 x3 ((OS.keeps (k1.trans k2)).trans k3)
end
end Go.Proofs.YtdleanjofhghnaaDoor.K
namespace Go.Proofs.YtdleanjofhghnaaDoor.K
open Go Go.Proofs
def m_law14_made (a0 : S_law14_World) (K : (Option Addr × Option Addr) → H → Prop) : H → Prop :=
 m_draws_New a0.Draws a0.Width fun r1 =>
 m_catalogue_New a0.Entries a0.Knob fun r2 =>
 m_quota_New a0.Each a0.Entries fun r3 =>
 mIf ((((((!decide (r1.2 = 0)) || (!decide (r2.2 = 0))) || (!decide (r3.2 = 0))) || (r1.1.isNone)) || (r2.1.isNone)) || (r3.1.isNone)) (
 K (none, none)
 ) (
 m_ref04_New a0.Draws a0.Width fun r4 =>
 m_ref11_New a0.Entries a0.Knob fun r5 =>
 m_ref12_New a0.Each a0.Entries fun r6 =>
 mNew 44 #[(Value.pointer r1.1), (Value.pointer r2.1), (Value.pointer r3.1)] fun ad7 =>
 mNew 74 #[(Value.pointer r4.1), (Value.pointer r5.1), (Value.pointer r6.1)] fun ad8 =>
 K ((some ad7), (some ad8))
 )
def x_law14_made : Cx Tryd.prog := ⟨tys, [s_draws_New, s_catalogue_New, s_quota_New, s_ref04_New, s_ref11_New, s_ref12_New], [1], [], mixed⟩
def h_law14_made : Hint := (.seq .d (.seq .d (.seq .d (.seq .d (.seq (.seq (.reg (.run [3, 7, 11] (.sel 42 45 61572651155456 (.run [15, 19, 23] .nil) (.run [15, 19, 23] .nil) (.run [27] (.sel 46 49 985162418487296 (.run [31, 35, 39] .nil) (.run [31, 35, 39] .nil) (.run [43] (.sel 50 53 15762598695796736 (.run [47, 51, 55] .nil) (.run [47, 51, 55] .nil) (.run [59] (.sel 54 57 252201579132747776 (.run [63, 67, 71] .nil) (.run [63, 67, 71] .nil) (.run [75] (.sel 58 61 4035225266123964416 (.run [79, 83, 87] .nil) (.run [79, 83, 87] .nil) .nil))))))))))) .d) .d)))))
def s_law14_made : Spec Tryd.prog := mkSpec x_law14_made 8 Tryd.f8 [S_law14_World.ty] [tPtr, tPtr] false h_law14_made (fun a => m_law14_made a) (fun a K h => by kernel_rfl) callee8 rfl
def m_law14_head (K : (Bool) → H → Prop) : H → Prop :=
 mNew 30 #[(Value.int .u64 0), (Value.int .u64 3), (Value.int .u64 0), (Value.int .u64 3), (Value.int .u64 0), (Value.int .u64 5), (Value.int .u64 0), (Value.int .u64 3)] fun ad1 =>
 m_law14_made (⟨4, 4, 3, 0, (⟨some ad1, 4, 4⟩ : Sl)⟩ : S_law14_World) fun r2 =>
 mIf (r2.1.isNone) (
 K false
 ) (
 mDeref r2.1 fun ad3 =>
 mDeref r2.1 fun ad4 =>
 mDeref r2.1 fun ad5 =>
 mLoad cPtr (ad3.add 0) fun x6 =>
 mLoad cPtr (ad4.add 1) fun x7 =>
 mLoad cPtr (ad5.add 2) fun x8 =>
 mJoin (fun (s9 : Addr × S_api_Cap × Int) =>
 mStore s9.1 [(Value.int .i64 s9.2.1.Obj), (Value.int .u64 s9.2.1.Pass.Hi), (Value.int .u64 s9.2.1.Pass.Lo)] <|
 mDeref r2.1 fun ad15 =>
 mDeref r2.1 fun ad16 =>
 mDeref r2.1 fun ad17 =>
 mLoad cPtr (ad15.add 0) fun x18 =>
 mLoad cPtr (ad16.add 1) fun x19 =>
 mLoad cPtr (ad17.add 2) fun x20 =>
 mJoin (fun (s21 : Addr × S_api_Cap × Int) =>
 mStore s21.1 [(Value.int .i64 s21.2.1.Obj), (Value.int .u64 s21.2.1.Pass.Hi), (Value.int .u64 s21.2.1.Pass.Lo)] <|
 mDeref r2.1 fun ad27 =>
 mDeref r2.1 fun ad28 =>
 mDeref r2.1 fun ad29 =>
 mLoad cPtr (ad27.add 0) fun x30 =>
 mLoad cPtr (ad28.add 1) fun x31 =>
 mLoad cPtr (ad29.add 2) fun x32 =>
 mLoad S_api_Cap.cells s9.1 fun x33 =>
 mJoin (fun (s34 : Addr × S_api_Cap × Int) =>
 mStore s34.1 [(Value.int .i64 s34.2.1.Obj), (Value.int .u64 s34.2.1.Pass.Hi), (Value.int .u64 s34.2.1.Pass.Lo)] <|
 mDeref r2.1 fun ad40 =>
 mDeref r2.1 fun ad41 =>
 mDeref r2.1 fun ad42 =>
 mLoad cPtr (ad40.add 0) fun x43 =>
 mLoad cPtr (ad41.add 1) fun x44 =>
 mLoad cPtr (ad42.add 2) fun x45 =>
 mLoad S_api_Cap.cells s34.1 fun x46 =>
 mJoin (fun (s47 : Addr × S_api_Cap × Int) =>
 mStore s47.1 [(Value.int .i64 s47.2.1.Obj), (Value.int .u64 s47.2.1.Pass.Hi), (Value.int .u64 s47.2.1.Pass.Lo)] <|
 mDeref r2.1 fun ad53 =>
 mDeref r2.1 fun ad54 =>
 mDeref r2.1 fun ad55 =>
 mLoad cPtr (ad53.add 0) fun x56 =>
 mLoad cPtr (ad54.add 1) fun x57 =>
 mLoad cPtr (ad55.add 2) fun x58 =>
 mLoad S_api_Cap.cells s34.1 fun x59 =>
 mJoin (fun (s60 : Addr × S_api_Cap × Int) =>
 mStore s60.1 [(Value.int .i64 s60.2.1.Obj), (Value.int .u64 s60.2.1.Pass.Hi), (Value.int .u64 s60.2.1.Pass.Lo)] <|
 mJoin (fun (s67 : Bool) =>
 mJoin (fun (s70 : Bool) =>
 mJoin (fun (s75 : Bool) =>
 mIf s75 (
 mDeref r2.1 fun ad80 =>
 mLoad cPtr (ad80.add 2) fun x81 =>
 m_quota_Quota_Of x81 1 fun r82 =>
 K (decide (r82 = 2))
 ) (
 K false
 )
 ) (fun j76 =>
 mIf s70 (
 mDeref r2.1 fun ad83 =>
 mLoad cPtr (ad83.add 0) fun x84 =>
 m_draws_Draws_Taken x84 fun r85 =>
 j76 (decide (r85 = 4))
 ) (
 j76 false
 ))
 ) (fun j71 =>
 mIf s67 (
 mLoad S_api_Cap.cells s34.1 fun x86 =>
 j71 ((decide (x86.Obj = 1)) && (((decide (x86.Pass.Hi = 0)) && ((decide (x86.Pass.Lo = 5)) && true)) && true))
 ) (
 j71 false
 ))
 ) (fun j68 =>
 mIf (((((decide (s9.2.2 = 0)) && (decide (s21.2.2 = 19))) && (decide (s34.2.2 = 0))) && (decide (s47.2.2 = 4))) && (decide (s60.2.2 = 11))) (
 mLoad S_api_Cap.cells s9.1 fun x87 =>
 j68 ((decide (x87.Obj = 1)) && (((decide (x87.Pass.Hi = 0)) && ((decide (x87.Pass.Lo = 3)) && true)) && true))
 ) (
 j68 false
 ))
 ) (fun j61 =>
 mBoth (
 m_derive_Child x56 x57 x58 x59 1 fun r62 =>
 mNew 36 #[(Value.int .i64 0), (Value.int .u64 0), (Value.int .u64 0)] fun ad63 =>
 j61 (ad63, r62.1, r62.2)
 ) (
 mNew 36 #[(Value.int .i64 0), (Value.int .u64 0), (Value.int .u64 0)] fun ad64 =>
 m_derive_Child x56 x57 x58 x59 1 fun r65 =>
 j61 (ad64, r65.1, r65.2)
 ))
 ) (fun j48 =>
 mBoth (
 m_derive_Child x43 x44 x45 x46 2 fun r49 =>
 mNew 36 #[(Value.int .i64 0), (Value.int .u64 0), (Value.int .u64 0)] fun ad50 =>
 j48 (ad50, r49.1, r49.2)
 ) (
 mNew 36 #[(Value.int .i64 0), (Value.int .u64 0), (Value.int .u64 0)] fun ad51 =>
 m_derive_Child x43 x44 x45 x46 2 fun r52 =>
 j48 (ad51, r52.1, r52.2)
 ))
 ) (fun j35 =>
 mBoth (
 m_derive_Child x30 x31 x32 x33 5 fun r36 =>
 mNew 36 #[(Value.int .i64 0), (Value.int .u64 0), (Value.int .u64 0)] fun ad37 =>
 j35 (ad37, r36.1, r36.2)
 ) (
 mNew 36 #[(Value.int .i64 0), (Value.int .u64 0), (Value.int .u64 0)] fun ad38 =>
 m_derive_Child x30 x31 x32 x33 5 fun r39 =>
 j35 (ad38, r39.1, r39.2)
 ))
 ) (fun j22 =>
 mBoth (
 m_derive_Root x18 x19 x20 1 fun r23 =>
 mNew 36 #[(Value.int .i64 0), (Value.int .u64 0), (Value.int .u64 0)] fun ad24 =>
 j22 (ad24, r23.1, r23.2)
 ) (
 mNew 36 #[(Value.int .i64 0), (Value.int .u64 0), (Value.int .u64 0)] fun ad25 =>
 m_derive_Root x18 x19 x20 1 fun r26 =>
 j22 (ad25, r26.1, r26.2)
 ))
 ) (fun j10 =>
 mBoth (
 m_derive_Root x6 x7 x8 1 fun r11 =>
 mNew 36 #[(Value.int .i64 0), (Value.int .u64 0), (Value.int .u64 0)] fun ad12 =>
 j10 (ad12, r11.1, r11.2)
 ) (
 mNew 36 #[(Value.int .i64 0), (Value.int .u64 0), (Value.int .u64 0)] fun ad13 =>
 m_derive_Root x6 x7 x8 1 fun r14 =>
 j10 (ad13, r14.1, r14.2)
 ))
 )
def x_law14_head : Cx Tryd.prog := ⟨tys, [s_law14_made, s_derive_Root, s_derive_Child, s_draws_Draws_Taken, s_quota_Quota_Of], [], [], mixed⟩
def h_law14_head : Hint := (.seq .d (.seq .d (.seq .d (.seq (.reg (.run [0, 4, 8, 16, 20, 24, 32, 36, 40, 14, 30, 46] (.join [.slot 3 tAdr, .slot 39 S_api_Cap.ty, .slot 40 (tInt .i64)] 1924178903048 [] (.both 12 16 (.run [52, 56, 60, 66] .nil) (.run [51, 52, 56, 60] .nil)) (.run [71, 72] .nil)))) (.seq (.reg (.run [0, 4, 8, 16, 20, 24, 32, 36, 40, 14, 30, 46] (.join [.slot 5 tAdr, .slot 55 S_api_Cap.ty, .slot 56 (tInt .i64)] 126102988589629472 [] (.both 12 16 (.run [52, 56, 60, 66] .nil) (.run [51, 52, 56, 60] .nil)) (.run [71, 72] .nil)))) (.seq (.reg (.run [0, 4, 8, 16, 20, 24, 32, 36, 40, 14, 30, 46, 50] (.join [.slot 7 tAdr, .slot 72 S_api_Cap.ty, .slot 73 (tInt .i64)] 16528426805231834103936 [] (.both 13 17 (.run [56, 60, 64, 70] .nil) (.run [55, 56, 60, 64] .nil)) (.run [75, 76] .nil)))) (.seq (.reg (.run [0, 4, 8, 16, 20, 24, 32, 36, 40, 14, 30, 46, 50] (.join [.slot 9 tAdr, .slot 89 S_api_Cap.ty, .slot 90 (tInt .i64)] 2166413958215346959654322688 [] (.both 13 17 (.run [56, 60, 64, 70] .nil) (.run [55, 56, 60, 64] .nil)) (.run [75, 76] .nil)))) (.seq (.reg (.run [0, 4, 8, 16, 20, 24, 32, 36, 40, 14, 30, 46, 50] (.join [.slot 11 tAdr, .slot 106 S_api_Cap.ty, .slot 107 (tInt .i64)] 283956210331201956695811316254720 [] (.both 13 17 (.run [56, 60, 64, 70] .nil) (.run [55, 56, 60, 64] .nil)) (.run [75, 76] .nil)))) (.seq (.reg (.run [3, 7, 11] (.sel 110 113 18173039004871896699856737152270336 (.run [15, 19, 23] .nil) (.run [15, 19, 23] .nil) (.run [27] (.sel 114 117 290768624077950347197707794436325376 (.run [31, 35, 39] .nil) (.run [31, 35, 39] .nil) (.run [43] (.sel 118 121 4652297985247205555163324710981206016 (.run [47, 51, 55] .nil) (.run [47, 51, 55] .nil) (.run [59] (.sel 122 125 74436767763955288882613195375699296256 (.run [63, 67, 71] .nil) (.run [63, 67, 71] .nil) (.run [75] (.join [.slot 131 tBool] 5274376687274546183682306415192407277568 [] (.split 126 (.run [79, 83, 87, 91, 95] .nil) (.run [79, 83, 87, 91, 95] .nil)) (.run [99] (.join [.slot 137 tBool] 337560107985570955755667610572314065764352 [] (.split 132 (.run [103, 107, 111, 115, 119] .nil) (.run [103, 107, 111, 115, 119] .nil)) (.run [123] (.join [.slot 145 tBool] 88506082506668410592969881894573184726859776 [] (.split 138 (.run [127, 131, 135, 139, 143, 147, 151] .nil) (.run [127, 131, 135, 139, 143, 147, 151] .nil)) (.run [155] (.split 146 (.run [159, 163, 167, 171, 175, 179, 183, 187] .nil) (.run [159, 163, 167, 171, 175, 179, 183, 187] .nil)))))))))))))))))) .d)))))))))
def s_law14_head : Spec Tryd.prog := mkSpec x_law14_head 5 Tryd.f5 [] [tBool] false h_law14_head (fun _ => m_law14_head) (fun a K h => by kernel_rfl) callee5 rfl
def m_law14_mod (a0 : Int) (a1 : Int) (K : (Int) → H → Prop) : H → Prop :=
 mNZ a1 <|
 mIf (decide ((iRem .i64 a0 a1) < 0)) (
 K (iAdd .i64 (iRem .i64 a0 a1) a1)
 ) (
 K (iRem .i64 a0 a1)
 )
def x_law14_mod : Cx Tryd.prog := ⟨tys, [], [], [], mixed⟩
def h_law14_mod : Hint := .d
def s_law14_mod : Spec Tryd.prog := mkSpec x_law14_mod 7 Tryd.f7 [(tInt .i64), (tInt .i64)] [(tInt .i64)] true h_law14_mod (fun a => m_law14_mod a.1 a.2) (fun a K h => by kernel_rfl) callee7 rfl
def m_law14_World_right (a0 : S_law14_World) (K : (S_law14_World) → H → Prop) : H → Prop :=
 mPure (m_law14_mod a0.Width 128) fun r1 =>
 mPure (m_law14_mod a0.Entries 256) fun r2 =>
 mPure (m_law14_mod a0.Each 256) fun r3 =>
 mPure (m_law14_mod a0.Knob 65) fun r4 =>
 mCut a0.Draws 0 (iMin (a0.Draws.len : Int) 4096) 2 fun s5 =>
 K (⟨(iAdd .i64 1 r1), (iAdd .i64 1 r2), (iAdd .i64 1 r3), r4, s5⟩ : S_law14_World)
def x_law14_World_right : Cx Tryd.prog := ⟨tys, [s_law14_mod], [1, 2], [], mixed⟩
def h_law14_World_right : Hint := (.seq .d (.seq .d (.seq (.reg (.run [0, 16, 32, 48, 60, 68, 5, 8, 12, 21, 24, 28, 37, 40, 44, 53, 56, 65, 72, 76, 83] .nil)) .d)))
def s_law14_World_right : Spec Tryd.prog := mkSpec x_law14_World_right 6 Tryd.f6 [S_law14_World.ty] [S_law14_World.ty] true h_law14_World_right (fun a => m_law14_World_right a) (fun a K h => by kernel_rfl) callee6 rfl
def m_law14_sameTokens (a0 : Sl) (a1 : Sl) (K : (Bool) → H → Prop) : H → Prop :=
 mIf (!decide ((a0.len : Int) = (a1.len : Int))) (
 K false
 ) (
 mLoop (fun (rec2 : Int → H → Prop) (s1 : Int) =>
 mIf (decide (s1 < (a0.len : Int))) (
 mIdx a0 s1 5 fun ad3 =>
 mIdx a1 s1 5 fun ad4 =>
 mLoad S_api_Token.cells ad3 fun x5 =>
 mLoad S_api_Token.cells ad4 fun x6 =>
 mIf (!(((decide (x5.Cap.Obj = x6.Cap.Obj)) && (((decide (x5.Cap.Pass.Hi = x6.Cap.Pass.Hi)) && ((decide (x5.Cap.Pass.Lo = x6.Cap.Pass.Lo)) && true)) && true)) && ((decide (x5.Rights = x6.Rights)) && ((decide (x5.Parent = x6.Parent)) && true)))) (
 K false
 ) (
 rec2 (iAdd .i64 s1 1)
 )
 ) (
 K true
 )
 ) 0
 )
def x_law14_sameTokens : Cx Tryd.prog := ⟨tys, [], [], [], mixed⟩
def h_law14_sameTokens : Hint := (.seq .d (.seq .d (.seq (.seq .d (.blk (.loop [.slot 5 (tInt .i64)] 67106864 [] (.seq .d (.seq (.blk (.seq (.reg (.run [0, 4, 8, 16, 20, 24, 14, 30, 32] .nil)) .d)) .d))))) .d)))
def s_law14_sameTokens : Spec Tryd.prog := mkSpec x_law14_sameTokens 15 Tryd.f15 [tSl, tSl] [tBool] false h_law14_sameTokens (fun a => m_law14_sameTokens a.1 a.2) (fun a K h => by kernel_rfl) callee15 rfl
def m_law14_DeriveWeaker (a0 : S_law14_World) (a1 : Sl) (K : (Bool) → H → Prop) : H → Prop :=
 m_law14_head fun r1 =>
 mIf (!r1) (
 K false
 ) (
 mPure (m_law14_World_right a0) fun r2 =>
 m_law14_made r2 fun r3 =>
 mIf (r3.1.isNone) (
 K false
 ) (
 mLoop (fun (rec5 : Int → H → Prop) (s4 : Int) =>
 mIf (decide (s4 < (a1.len : Int))) (
 mIdx a1 s4 7 fun ad6 =>
 mLoad S_law14_Op.cells ad6 fun x7 =>
 mDeref r3.1 fun ad8 =>
 mLoad cPtr (ad8.add 1) fun x9 =>
 m_catalogue_Catalogue_Of x9 x7.Obj fun r10 =>
 mDeref r3.1 fun ad11 =>
 mDeref r3.1 fun ad12 =>
 mLoad cPtr (ad11.add 0) fun x13 =>
 mJoin (fun (s14 : Int × Option Addr) =>
 m_quota_Quota_All s14.2 fun r20 =>
 mJoin (fun (s21 : Int × Int × Int × Int) =>
 mDeref r3.1 fun ad23 =>
 mLoad cPtr (ad23.add 1) fun x24 =>
 m_catalogue_Catalogue_Of x24 x7.Obj fun r25 =>
 mDeref r3.1 fun ad26 =>
 mLoad cPtr (ad26.add 0) fun x27 =>
 m_draws_Draws_Taken x27 fun r28 =>
 mIf (!decide (s21.1 = 0)) (
 m_law14_sameTokens r10 r25 fun r29 =>
 mJoin (fun (s33 : Bool) =>
 mJoin (fun (s43 : Bool) =>
 mIf s43 (
 K false
 ) (
 rec5 (iAdd .i64 s4 1)
 )
 ) (fun j44 =>
 mIf (((s33 || (!((decide (s21.2.1 = 0)) && (((decide (s21.2.2.1 = 0)) && ((decide (s21.2.2.2 = 0)) && true)) && true)))) || (((!decide ((iSub .i64 r28 s14.1) = 0)) && (!decide (s21.1 = 11))) && (!decide (s21.1 = 12)))) || ((decide (s21.1 = 12)) && (!decide ((iSub .i64 r28 s14.1) = 9)))) (
 j44 true
 ) (
 mIf (decide (s21.1 = 11)) (
 mDeref r3.1 fun ad48 =>
 mLoad cPtr (ad48.add 0) fun x49 =>
 m_draws_Draws_Left x49 fun r50 =>
 j44 ((!decide (r50 = 0)) || (decide (8 < (iSub .i64 r28 s14.1))))
 ) (
 j44 false
 )
 ))
 ) (fun j34 =>
 mIf (!r29) (
 j34 true
 ) (
 mDeref r3.1 fun ad51 =>
 mLoad cPtr (ad51.add 2) fun x52 =>
 m_quota_Quota_All x52 fun r53 =>
 j34 (!decide (r53 = r20))
 ))
 ) (
 mJoin (fun (s57 : Bool) =>
 mJoin (fun (s62 : Bool) =>
 mJoin (fun (s67 : Bool) =>
 mIf s67 (
 K false
 ) (
 mLoop (fun (rec70 : (Int × Int) → H → Prop) (s69 : Int × Int) =>
 mIf (decide (s69.2 < (r25.len : Int))) (
 mIdx r25 s69.2 5 fun ad71 =>
 mLoad S_api_Token.cells ad71 fun x72 =>
 mLoop (fun (rec74 : Int → H → Prop) (s73 : Int) =>
 mIf (decide (s73 < s69.2)) (
 mIdx r25 s73 5 fun ad75 =>
 mLoad S_api_Cap.cells (ad75.add 0) fun x76 =>
 mIf ((decide (x76.Obj = x72.Cap.Obj)) && (((decide (x76.Pass.Hi = x72.Cap.Pass.Hi)) && ((decide (x76.Pass.Lo = x72.Cap.Pass.Lo)) && true)) && true)) (
 K false
 ) (
 rec74 (iAdd .i64 s73 1)
 )
 ) (
 mJoin (fun (s77 : Int) =>
 mIf (((decide (s69.2 = 0)) && ((!decide (x72.Parent = (-1))) || (!decide (x72.Rights = 31)))) || ((decide (0 < s69.2)) && ((decide (x72.Parent < 0)) || (decide (s69.2 ≤ x72.Parent))))) (
 K false
 ) (
 mIf (decide (0 < s69.2)) (
 mIdx r25 x72.Parent 5 fun ad79 =>
 mLoad (cInt .i64) (ad79.add 3) fun x80 =>
 mIf (((decide (x72.Rights < 1)) || (!decide ((iAnd .i64 x80 x72.Rights) = x72.Rights))) || (decide ((iAnd .i64 x80 4) = 0))) (
 K false
 ) (
 rec70 (s77, (iAdd .i64 s69.2 1))
 )
 ) (
 rec70 (s77, (iAdd .i64 s69.2 1))
 )
 )
 ) (fun j78 =>
 mIf ((decide (x72.Cap.Obj = s21.2.1)) && (((decide (x72.Cap.Pass.Hi = s21.2.2.1)) && ((decide (x72.Cap.Pass.Lo = s21.2.2.2)) && true)) && true)) (
 j78 (iAdd .i64 s69.1 1)
 ) (
 j78 s69.1
 )
 )
 )
 ) 0
 ) (
 mIf ((!decide (s69.1 = 1)) || (!decide (s21.2.1 = x7.Obj))) (
 K false
 ) (
 rec5 (iAdd .i64 s4 1)
 )
 )
 ) (0, 0)
 )
 ) (fun j68 =>
 mIf (s62 || (decide (r2.Each < (r25.len : Int)))) (
 j68 true
 ) (
 mDeref r3.1 fun ad81 =>
 mLoad cPtr (ad81.add 2) fun x82 =>
 m_quota_Quota_All x82 fun r83 =>
 j68 (decide (r2.Entries < r83))
 ))
 ) (fun j63 =>
 mIf s57 (
 j63 true
 ) (
 mDeref r3.1 fun ad84 =>
 mLoad cPtr (ad84.add 2) fun x85 =>
 m_quota_Quota_Of x85 x7.Obj fun r86 =>
 j63 (!decide (r86 = (r25.len : Int)))
 ))
 ) (fun j58 =>
 mIf (((decide ((iSub .i64 r28 s14.1) < 1)) || (decide (9 < (iSub .i64 r28 s14.1)))) || (!decide ((r25.len : Int) = (iAdd .i64 (r10.len : Int) 1)))) (
 j58 true
 ) (
 mDeref r3.1 fun ad87 =>
 mLoad cPtr (ad87.add 2) fun x88 =>
 m_quota_Quota_All x88 fun r89 =>
 j58 (!decide (r89 = (iAdd .i64 r20 1)))
 ))
 )
 ) (fun j22 =>
 mIf ((decide (x7.Kind = 0)) || (decide ((r10.len : Int) = 0))) (
 mDeref r3.1 fun ad90 =>
 mDeref r3.1 fun ad91 =>
 mDeref r3.1 fun ad92 =>
 mLoad cPtr (ad90.add 0) fun x93 =>
 mLoad cPtr (ad91.add 1) fun x94 =>
 mLoad cPtr (ad92.add 2) fun x95 =>
 m_derive_Root x93 x94 x95 x7.Obj fun r96 =>
 j22 (r96.2, r96.1.Obj, r96.1.Pass.Hi, r96.1.Pass.Lo)
 ) (
 mDeref r3.1 fun ad97 =>
 mDeref r3.1 fun ad98 =>
 mDeref r3.1 fun ad99 =>
 mPure (m_law14_mod x7.At (r10.len : Int)) fun r100 =>
 mIdx r10 r100 5 fun ad101 =>
 mLoad cPtr (ad97.add 0) fun x102 =>
 mLoad cPtr (ad98.add 1) fun x103 =>
 mLoad cPtr (ad99.add 2) fun x104 =>
 mLoad S_api_Cap.cells (ad101.add 0) fun x105 =>
 m_derive_Child x102 x103 x104 x105 x7.Rights fun r106 =>
 j22 (r106.2, r106.1.Obj, r106.1.Pass.Hi, r106.1.Pass.Lo)
 )
 )
 ) (fun j15 =>
 mBoth (
 m_draws_Draws_Taken x13 fun r16 =>
 mLoad cPtr (ad12.add 2) fun x17 =>
 j15 (r16, x17)
 ) (
 mLoad cPtr (ad12.add 2) fun x18 =>
 m_draws_Draws_Taken x13 fun r19 =>
 j15 (r19, x18)
 ))
 ) (
 K true
 )
 ) 0
 )
 )
def x_law14_DeriveWeaker : Cx Tryd.prog := ⟨tys, [s_law14_head, s_law14_World_right, s_law14_mod, s_law14_made, s_derive_Root, s_derive_Child, s_draws_Draws_Taken, s_quota_Quota_Of, s_catalogue_Catalogue_Of, s_quota_Quota_All, s_law14_sameTokens, s_draws_Draws_Left], [2, 8, 12, 18], [], mixed⟩
def h_law14_DeriveWeaker : Hint := (.seq .d (.seq .d (.seq .d (.seq .d (.seq .d (.seq (.seq .d (.blk (.loop [.slot 7 (tInt .i64)] 68351585149469122636640694597425667667286544715412888638305331450311031224980497600734782489100176 [] (.seq .d (.seq (.blk (.seq .d (.seq (.reg (.run [0, 4, 8, 16, 21, 14, 27, 28] .nil)) (.seq (.reg (.run [0, 4, 8, 20, 24, 28, 14] (.join [.slot 53 (tInt .i64), .slot 57 tPtr] 153122387330596864 [] (.both 4 8 (.run [34] .nil) (.run [19] .nil)) (.run [39, 40, 44] .nil)))) (.seq .d (.seq .d (.join [.slot 13 (tInt .i64), .cell 12 0 (tInt .i64), .cell 12 1 (tInt .u64), .cell 12 2 (tInt .u64)] 5192296858534827052069744025804800 [12] (.seq (.reg (.run [3, 7, 11, 15] (.sel 62 66 138350580552821637120 (.run [19, 23, 27, 31] .nil) (.run [19, 23, 27, 31] .nil) .nil))) (.cond (.reg (.run [0, 4, 8, 16, 20, 24, 32, 36, 40, 48, 53, 14, 30, 46, 59, 60, 64, 68, 75, 76] .nil)) (.reg (.run [0, 4, 8, 16, 20, 24, 32, 36, 40, 48, 52, 60, 64, 84, 57, 68, 72, 76, 89, 14, 30, 46, 82, 95, 96, 100, 104, 111, 112] .nil)))) (.seq (.reg (.run [0, 4, 8, 16, 21, 14, 27, 28] .nil)) (.seq .d (.seq (.seq .d (.cond (.seq (.seq (.reg (.run [3, 7, 11, 15, 19] (.join [.slot 140 tBool] 2776704114074857861861136796643228605480960 [] (.split 132 (.run [23, 27, 31, 35, 39, 43, 47, 51] .nil) (.run [23, 27, 31, 35, 39, 43, 47, 51] .nil)) (.run [55] (.sel 141 145 83627794494489836780758943522431355647426560 (.run [59, 63, 67, 71] .nil) (.run [59, 63, 67, 71] .nil) (.run [75] (.sel 146 157 365197003371137484565788922432889568021935292416 (.run [79, 83, 87, 91, 95, 99, 103, 107, 111, 115, 119] .nil) (.run [79, 83, 87] (.sel 149 152 9990733848941719167408001786146465954679226368 (.run [91, 95, 99] .nil) (.run [91, 95, 99] .nil) (.run [103] (.sel 153 156 159851741583067506678528028578343455274867621888 (.run [107, 111, 115] .nil) (.run [107, 111, 115] .nil) (.run [119] .nil))))) (.run [123] (.sel 158 165 92805353970512335305933986877483971748151716478976 (.run [127, 131, 135, 139, 143, 147, 151] .nil) (.run [127, 131, 135] (.sel 161 164 40922045845265281709703175316055924550366111203328 (.run [139, 143, 147] .nil) (.run [139, 143, 147] .nil) (.run [151] .nil))) (.run [155] (.join [.slot 181 tBool] 6129795091253977077859858036942649050248440529368907776 [] (.split 166 (.run [159, 163, 167, 171, 175, 179, 183, 187, 191, 195, 199, 203, 207, 211, 215] .nil) (.run [159, 163, 167] (.split 169 (.run [171, 175, 179, 183, 187, 191, 195] (.sel 176 179 1340933598257652751063553648756520535666396731910651904 (.run [199, 203, 207] .nil) (.run [199, 203, 207] .nil) (.run [211, 215] .nil))) (.run [171, 175, 179, 183, 187, 191, 195, 199, 203, 207, 211, 215] .nil)))) .nil))))))))))) .d) .d) .d)) (.seq (.seq (.reg (.run [0, 4, 8] (.sel 184 187 343279001153959104272269734081669257130597563369126887424 (.run [12, 16, 20] .nil) (.run [12, 16, 20] .nil) (.run [24] (.sel 188 195 99648990049263557125893157093421704355624892680866547892224 (.run [28, 32, 36, 40, 44, 48, 52] .nil) (.run [28, 32, 36, 40, 44, 48, 52] .nil) (.run [56] (.join [.slot 205 tBool] 102643167577043003850242828648291761236105716227875892354875392 [] (.split 196 (.run [60, 64, 68, 72, 76, 80, 84, 88, 92] .nil) (.run [60, 64, 68, 80, 84, 74, 79, 88, 92] .nil)) (.run [96] (.join [.slot 217 tBool] 421043478604563596036402739586862060462457539618992247534325334016 [] (.split 206 (.run [100, 104, 108, 112, 116, 120, 124, 128, 132, 136, 140] .nil) (.run [100, 104, 108, 116, 128, 132, 121, 114, 127, 136, 140] .nil)) (.run [144] (.sel 218 224 53077395000952822095750685952569897888723128081876752072172732678144 (.run [148, 152, 156, 160, 164, 168] .nil) (.run [148, 152, 156, 161, 164, 168] .nil) (.run [172] (.join [.slot 234 tBool] 55106130987655907740299378837868125096914323199672930151375779349397504 [] (.split 225 (.run [176, 180, 184, 188, 192, 196, 200, 204, 208] .nil) (.run [176, 180, 184, 196, 201, 190, 195, 204, 208] .nil)) .nil))))))))))))) .d) (.seq .d (.seq (.seq .d (.blk (.loop [.slot 16 (tInt .i64), .slot 17 (tInt .i64)] 133499189745056880149688801421626232838158733169243899905486480880016955498197593076241342070800 [] (.seq .d (.seq (.blk (.seq .d (.seq (.seq .d (.blk (.loop [.slot 19 (tInt .i64)] 463111817843191873395737274514727858020573459177862236351170444633211155251216 [] (.seq .d (.seq (.blk (.seq (.reg (.run [0, 4, 8, 12, 20, 25, 18, 28] .nil)) .d)) .d))))) (.join [.slot 16 (tInt .i64)] 29179606487803681246739888222189352779024036135741422137943311169994108669329408 [] .d (.seq (.seq (.reg (.run [3, 7, 11] (.sel 266 275 121179663565350043364238895799172138829866930512163488203085466476633311735822942208 (.run [15, 19, 23, 27] (.sel 270 274 56914127701925656374593610551470280468039262862855650036674191691569461480621342720 (.run [31, 35, 39, 43] .nil) (.run [31, 35, 39, 43] .nil) (.run [47] .nil))) (.run [15, 19, 23, 27, 31, 35, 39, 43, 47] .nil) (.run [51] (.sel 276 290 3978343057666764921109193052436213780940318905523900222083555338594058613064616353202176 (.run [55, 59, 63, 67, 71, 75, 79, 83, 87, 91, 95, 99, 103, 107] .nil) (.run [55, 59, 63] (.sel 279 289 1987350276746920839550609530680459841495182196350338730240604095162899083764928293634048 (.run [67, 71, 75, 79] (.sel 283 288 963563770543961619176053105784465377694633792169861202540898955230496525461783415095296 (.run [83, 87, 91, 95, 99] .nil) (.run [83, 87, 91, 95, 99] .nil) (.run [103] .nil))) (.run [67, 71, 75, 79, 83, 87, 91, 95, 99, 103] .nil) (.run [107] .nil))) .nil))))) .d) (.seq .d (.cond (.seq .d (.seq (.reg (.run [3, 7, 11, 15] (.sel 302 310 4155553391722351615987629204355131448544995523078509951297726516682937851517206880614130647040 (.run [19, 23, 27, 31, 35, 39, 43, 47] .nil) (.run [19, 23, 27, 31, 35, 39, 43, 47] .nil) (.run [51] (.sel 311 315 125155490385990825140333303095872194215002218106835123239084469208333187057459407227907934781440 (.run [55, 59, 63, 67] .nil) (.run [55, 59, 63, 67] .nil) .nil))))) .d)) .d))))))) .d))))) (.seq (.reg (.run [3, 7, 11] (.sel 318 324 67283591631508667595443183744340891609985192454234562253331810646399921362090177325723305738502144 (.run [15, 19, 23, 27, 31, 35] .nil) (.run [15, 19, 23, 27, 31, 35] .nil) .nil))) .d)))))))))))))) .d))))) .d))))))
def s_law14_DeriveWeaker : Spec Tryd.prog := mkSpec x_law14_DeriveWeaker 4 Tryd.f4 [S_law14_World.ty, tSl] [tBool] false h_law14_DeriveWeaker (fun a => m_law14_DeriveWeaker a.1 a.2) (fun a K h => by kernel_rfl) callee4 rfl
end Go.Proofs.YtdleanjofhghnaaDoor.K
namespace Go.Proofs.YtdleanjofhghnaaDoor.K
open Go
theorem w_mod14 {h : H} {a b : Int} {k : Int → H → Prop} (h0 : 0 < b) (h1 : b ≤ 2 ^ 60) (y : k (intoV a b) h) : mPure (m_law14_mod a b) k h := by
  refine w_pure _ (fun h' k' z => ?_) y
  unfold m_law14_mod
  refine ⟨by omega, ?_⟩
  have e : iRem .i64 a b = a.tmod b := rfl
  rw [e]
  have h2 := Int.lt_tmod_of_pos a h0
  unfold intoV at z
  refine w_if' (fun c => ?_) fun c => ?_
  · rw [if_pos c] at z; rw [iAdd_eq (by omega) (by omega)]; exact z
  · rw [if_neg c] at z; exact z
theorem OC.anew {h h' : H} {o : Owner} {G : Nat → Prop} (i : Nat) (ow : Owns o h) (k : Keeps h h') (f : ∀ c, G c → h c = none) (has : ∀ c, G c → h' c ≠ none) :
    ∃ o', OC i o o' h h' ∧ Owns o' h' ∧ ∀ c, G c → o' c = some i := ⟨_, OC.fresh ow k f has⟩
def RaO (h : H) (o : Owner) (i r : Nat) (xs : List S_api_Word) (w : Int) (tk : Nat) : Prop := ∃ s, RAt h r s xs w tk ∧ o r = some i ∧ ∀ c, s.foot c → o c = some i
theorem RaO.oc {h h' : H} {o o' : Owner} {i j r : Nat} {xs : List S_api_Word} {w : Int} {tk : Nat} (x : RaO h o i r xs w tk) (k : OC j o o' h h') (ne : i ≠ j) : RaO h' o' i r xs w tk := by
  obtain ⟨ws, a, b1, b2⟩ := x
  exact ⟨ws, a.but k.bt fun c e => ⟨fun q => ne (by rw [q, b1] at e; exact Option.some.inj e), fun f => ne (by rw [b2 c f] at e; exact Option.some.inj e)⟩, k.own _ _ b1, fun c f => k.own _ _ (b2 c f)⟩
structure RefsO (h : H) (o : Owner) (r e f : Nat) (xs : List S_api_Word) (W : Int) (each most : Int) (tk ev : Nat) (es : List En) (L : List Int) : Prop where
  dr : RaO h o 4 r xs W tk
  ct : RefO h o 5 e ev es
  qu : RqO h o 6 f each most L
theorem t_made14 {h : H} (er : ErrAt h) {a : Sl} {xs : List S_api_Word} (ar : Arr cW h a xs) (hx : ∀ x ∈ xs, GoodW x) (hl : xs.length ≤ 4096) {W E each kn : Int} (w1 : 1 ≤ W ∧ W ≤ 128) (e1 : 1 ≤ E ∧ E ≤ 256) (c1 : 1 ≤ each ∧ each ≤ 256) (k1 : 0 ≤ kn ∧ kn ≤ 64)
    {K : Option Addr × Option Addr → H → Prop}
    (y : ∀ s w d p q r e f o h', SetO h' o d p q (xs.map (cutW W)) each E 0 (List.replicate E.toNat none) [] → RefsO h' o r e f xs W each E 0 0 (List.replicate E.toNat none) [] →
      h' s = some (.cells [Value.pointer (some ⟨d, 0, none⟩), Value.pointer (some ⟨p, 0, none⟩), Value.pointer (some ⟨q, 0, none⟩)].toArray N_law14_Set (0, 0)) → o s = none →
      h' w = some (.cells [Value.pointer (some ⟨r, 0, none⟩), Value.pointer (some ⟨e, 0, none⟩), Value.pointer (some ⟨f, 0, none⟩)].toArray N_ref14_World (0, 0)) → o w = none →
      Keeps h h' → (∀ c, o c ≠ none → h c = none) → K (some ⟨s, 0, none⟩, some ⟨w, 0, none⟩) h') : m_law14_made ⟨W, E, each, kn, a⟩ K h := by
  unfold m_law14_made
  obtain ⟨w1, w2⟩ := w1
  obtain ⟨e1, e2⟩ := e1
  obtain ⟨c1, c2⟩ := c1
  obtain ⟨k1, k2⟩ := k1
  refine t_DNew ar hx (fun q => by simp only [] at q; omega) (fun _ _ q => by omega) fun _ _ _ d ws h1 a1 n1 f1 f1' => ?_
  refine t_CNew (fun q => by simp only [] at q; omega) fun _ _ n en m1 m2 p G h2 a2 n2 f2 => ?_
  refine t_QNew (fun q => by simp only [] at q; omega) fun _ _ _ _ q b h3 a3 n3 f3 f3' => ?_
  have ar3 := ((ar.keep n1).keep n2).keep n3
  refine w_ifF rfl (t_RDNew ar3 (fun q => by simp only [] at q; omega) (fun _ _ q => by omega) fun _ _ _ r s4 h4 a4 n4 f4 f4' => ?_)
  refine t_RNew (fun q => by simp only [] at q; omega) fun _ _ n' en' _ _ e G5 h5 a5 n5 f5 => ?_
  have en : E = (n : Int) := en
  have en' : E = (n' : Int) := en'
  obtain rfl : n = n' := by omega
  refine t_QRNew (fun q => by simp only [] at q; omega) fun _ _ _ _ f h6 a6 n6 f6 => ?_
  refine w_box fun s h7 f7 g7 n7 => w_box fun w h8 f8 g8 n8 => ?_
  have ow0 : Owns (fun _ => none) h := fun c e => absurd rfl e
  obtain ⟨w1', b1, o1, p1⟩ := OC.anew (G := fun c => c = d ∨ ws.foot c) 1 ow0 n1 (fun c g => by rcases g with rfl | g <;> first | exact f1 | exact f1' _ g) fun c g => by
    rcases g with rfl | g
    · rw [a1.cell]; simp
    · exact a1.buf.has g
  obtain ⟨w2', b2, o2, p2⟩ := OC.anew 2 o1 n2 f2 fun c g => a2.has g
  obtain ⟨w3', b3, o3, p3⟩ := OC.anew (G := fun c => c = q ∨ c = b) 3 o2 n3 (fun c g => by rcases g with rfl | rfl <;> assumption) fun c g => by
    rcases g with rfl | rfl
    · rw [a3.cell]; simp
    · obtain ⟨_, _, e, _⟩ := a3.map.ex; rw [e]; simp
  obtain ⟨w4', b4, o4, p4⟩ := OC.anew (G := fun c => c = r ∨ s4.foot c) 4 o3 n4 (fun c g => by rcases g with rfl | g <;> first | exact f4 | exact f4' _ g) fun c g => by
    rcases g with rfl | g
    · rw [a4.cell]; simp
    · exact a4.buf.has g
  obtain ⟨w5', b5, o5, p5⟩ := OC.anew 5 o4 n5 f5 fun c g => a5.has g
  obtain ⟨w6', b6, o6, p6⟩ := OC.anew (G := fun c => c = f) 6 o5 n6 (fun c g => by rw [g]; exact f6) fun c g => by rw [g, a6.cell]; simp
  have n78 := n7.trans n8
  have b7 : OC 9 w6' w6' h6 h8 := OC.keeps n78
  have kk : Keeps h h8 := ((((((n1.trans n2).trans n3).trans n4).trans n5).trans n6).trans n7).trans n8
  have ot := ((((((b1.ot.trans b2.ot).trans b3.ot).trans b4.ot).trans b5.ot).trans b6.ot).trans b7.ot)
  have out : ∀ c, w6' c ≠ none → h c = none := fun c e => (ot.new c e).elim (fun z => absurd rfl z) id
  have ew : List.replicate E.toNat (none : En) = List.replicate n none := by rw [en, Int.toNat_natCast]
  have free : ∀ {c : Nat}, h6 c = none → w6' c = none := fun {c} hc => by
    cases z : w6' c with
    | none => rfl
    | some t => exact absurd hc (o6 c (by rw [z]; simp))
  refine y s w d p q r e f _ h8 ⟨?_, ?_, ?_, er.keep kk, ?_, o6.keep n78, e2⟩ ⟨?_, ?_, ?_⟩ (n8 _ _ g7) (free f7) g8 (free (by cases z : h6 w with | none => rfl | some x => rw [n7 _ _ z] at f8; cases f8)) kk out
  · refine (((((?_ : DraO h1 _ 1 d _ 0).oc b2 (by decide)).oc b3 (by decide)).oc b4 (by decide)).oc b5 (by decide)).oc b6 (by decide) |>.oc b7 (by decide)
    exact ⟨ws, a1, p1 d (.inl rfl), fun c g => p1 c (.inr g)⟩
  · refine ((((?_ : CatO h2 _ 2 p _).oc b3 (by decide)).oc b4 (by decide)).oc b5 (by decide)).oc b6 (by decide) |>.oc b7 (by decide)
    exact ⟨_, G, by rw [ew]; exact a2, p2⟩
  · refine (((?_ : QuoO h3 _ 3 q each E _).oc b4 (by decide)).oc b5 (by decide)).oc b6 (by decide) |>.oc b7 (by decide)
    exact ⟨b, a3, p3 q (.inl rfl), p3 b (.inr rfl)⟩
  · cases z : w6' errG with
    | none => rfl
    | some t => exact absurd (out _ (by rw [z]; simp)) er.has
  · refine ((?_ : RaO h4 _ 4 r xs W 0).oc b5 (by decide)).oc b6 (by decide) |>.oc b7 (by decide)
    exact ⟨s4, a4, p4 r (.inl rfl), fun c g => p4 c (.inr g)⟩
  · refine (?_ : RefO h5 _ 5 e 0 _).oc b6 (by decide) |>.oc b7 (by decide)
    exact ⟨G5, by rw [ew]; exact a5, p5⟩
  · refine (?_ : RqO h6 _ 6 f each E _).oc b7 (by decide)
    exact ⟨Sl.nil, a6, p6 f rfl, fun c ⟨_, q, _⟩ => by cases q⟩
structure AtS (h : H) (o : Owner) (s d p q : Nat) (cs : List S_api_Word) (each all : Int) (tk : Nat) (es : List En) (l : List (Int × Int)) : Prop where
  set : SetO h o d p q cs each all tk es l
  cell : h s = some (.cells [Value.pointer (some ⟨d, 0, none⟩), Value.pointer (some ⟨p, 0, none⟩), Value.pointer (some ⟨q, 0, none⟩)].toArray N_law14_Set (0, 0))
  no : o s = none
structure BoxT (h : H) (o : Owner) (t b : Nat) (c : S_api_Cap) : Prop where
  cell : h b = some (.cells (S_api_Cap.cells c).toArray N_api_Cap (0, 0))
  own : o b = some t
section
variable {h h' : H} {o o' : Owner} {s d p q : Nat} {cs : List S_api_Word} {each all : Int} {tk tk' : Nat} {es es' : List En} {l l' : List (Int × Int)}
theorem SetO.oc {j : Nat} (x : SetO h o d p q cs each all tk es l) (k : OC j o o' h h') (hj : 3 < j) (ow : Owns o' h') : SetO h' o' d p q cs each all tk es l :=
  ⟨x.dr.oc k (by omega), x.ct.oc k (by omega), x.qu.oc k (by omega), x.er.os (k.os (S := fun _ => True) trivial) x.eo, (k.os (S := fun _ => True) trivial).gone x.eo x.er.has, ow, x.hi⟩
theorem BoxT.os {S : Nat → Prop} {t b : Nat} {c : S_api_Cap} (x : BoxT h o t b c) (k : OS S o o' h h') (n : ¬ S t) : BoxT h' o' t b c :=
  ⟨k.but _ _ x.cell fun i q => by rw [x.own] at q; cases q; exact n, k.own _ _ x.own⟩
theorem BoxT.at {t b : Nat} {c : S_api_Cap} (x : BoxT h o t b c) : At h ⟨b, 0, none⟩ (S_api_Cap.cells c) := at_box x.cell
theorem w_set3 (x : AtS h o s d p q cs each all tk es l) {k : Option Addr → Option Addr → Option Addr → H → Prop} (y : k (some ⟨d, 0, none⟩) (some ⟨p, 0, none⟩) (some ⟨q, 0, none⟩) h) :
    mDeref (some ⟨s, 0, none⟩) (fun a => mDeref (some ⟨s, 0, none⟩) fun b => mDeref (some ⟨s, 0, none⟩) fun c => mLoad cPtr (a.add 0) fun x => mLoad cPtr (b.add 1) fun y => mLoad cPtr (c.add 2) fun z => k x y z) h := by
  refine w_deref (w_deref (w_deref (w_load (v := some ⟨d, 0, none⟩) ?_ (w_load (v := some ⟨p, 0, none⟩) ?_ (w_load (v := some ⟨q, 0, none⟩) ?_ y)))))
  · rw [pt_add]; exact At.own (l1 := []) (l2 := [Value.pointer (some ⟨d, 0, none⟩)]) (l3 := [Value.pointer (some ⟨p, 0, none⟩), Value.pointer (some ⟨q, 0, none⟩)]) x.cell rfl
  · rw [pt_add]; exact At.own (l1 := [Value.pointer (some ⟨d, 0, none⟩)]) (l2 := [Value.pointer (some ⟨p, 0, none⟩)]) (l3 := [Value.pointer (some ⟨q, 0, none⟩)]) x.cell rfl
  · rw [pt_add]; exact At.own (l1 := [Value.pointer (some ⟨d, 0, none⟩), Value.pointer (some ⟨p, 0, none⟩)]) (l2 := [Value.pointer (some ⟨q, 0, none⟩)]) (l3 := []) x.cell rfl
theorem AtS.f0 (x : AtS h o s d p q cs each all tk es l) {k : Option Addr → H → Prop} (y : k (some ⟨d, 0, none⟩) h) : mDeref (some ⟨s, 0, none⟩) (fun a => mLoad cPtr (a.add 0) k) h := by
  refine w_deref (w_load (v := some ⟨d, 0, none⟩) ?_ y)
  rw [pt_add]; exact At.own (l1 := []) (l2 := [Value.pointer (some ⟨d, 0, none⟩)]) (l3 := [Value.pointer (some ⟨p, 0, none⟩), Value.pointer (some ⟨q, 0, none⟩)]) x.cell rfl
theorem AtS.f1 (x : AtS h o s d p q cs each all tk es l) {k : Option Addr → H → Prop} (y : k (some ⟨p, 0, none⟩) h) : mDeref (some ⟨s, 0, none⟩) (fun a => mLoad cPtr (a.add 1) k) h := by
  refine w_deref (w_load (v := some ⟨p, 0, none⟩) ?_ y)
  rw [pt_add]; exact At.own (l1 := [Value.pointer (some ⟨d, 0, none⟩)]) (l2 := [Value.pointer (some ⟨p, 0, none⟩)]) (l3 := [Value.pointer (some ⟨q, 0, none⟩)]) x.cell rfl
theorem AtS.f2 (x : AtS h o s d p q cs each all tk es l) {k : Option Addr → H → Prop} (y : k (some ⟨q, 0, none⟩) h) : mDeref (some ⟨s, 0, none⟩) (fun a => mLoad cPtr (a.add 2) k) h := by
  refine w_deref (w_load (v := some ⟨q, 0, none⟩) ?_ y)
  rw [pt_add]; exact At.own (l1 := [Value.pointer (some ⟨d, 0, none⟩), Value.pointer (some ⟨p, 0, none⟩)]) (l2 := [Value.pointer (some ⟨q, 0, none⟩)]) (l3 := []) x.cell rfl
theorem w_cap (t : Nat) (ht : 3 < t) (x : AtS h o s d p q cs each all tk es l) {call : (S_api_Cap × Int → H → Prop) → H → Prop} {res : S_api_Cap × Int}
    (hc : ∀ (h1 : H) (o1 : Owner) (K : S_api_Cap × Int → H → Prop), SetO h1 o1 d p q cs each all tk es l → (∀ o' h', SetO h' o' d p q cs each all tk' es' l' → OS (· ≤ 3) o1 o' h1 h' → K res h') → call K h1)
    {rest : Addr × S_api_Cap × Int → H → Prop}
    (hr : ∀ b o' h', AtS h' o' s d p q cs each all tk' es' l' → BoxT h' o' t b res.1 → OS (fun i => i ≤ 3) o o' h h' → rest (⟨b, 0, none⟩, res.1, res.2) h') :
    mJoin (fun (s9 : Addr × S_api_Cap × Int) => mStore s9.1 [(Value.int .i64 s9.2.1.Obj), (Value.int .u64 s9.2.1.Pass.Hi), (Value.int .u64 s9.2.1.Pass.Lo)] (rest s9))
      (fun j => mBoth (call fun r => mNew N_api_Cap #[(Value.int .i64 0), (Value.int .u64 0), (Value.int .u64 0)] fun ad => j (ad, r.1, r.2)) (mNew N_api_Cap #[(Value.int .i64 0), (Value.int .u64 0), (Value.int .u64 0)] fun ad => call fun r => j (ad, r.1, r.2))) h := by
  have fin : ∀ (b : Nat) (o2 : Owner) (h2 : H), h b = none → SetO h2 o2 d p q cs each all tk' es' l' → h2 b = some (.cells #[(Value.int .i64 0), (Value.int .u64 0), (Value.int .u64 0)] N_api_Cap (0, 0)) → o2 b = some t →
      (∀ c x, h c = some x → (∀ i, o c = some i → ¬ i ≤ 3) → h2 c = some x) → (∀ c i, o c = some i → o2 c = some i) → (∀ c, o2 c ≠ none → o c ≠ none ∨ h c = none) → (∀ c, h2 c = none → h c = none) →
      mStore ⟨b, 0, none⟩ [(Value.int .i64 res.1.Obj), (Value.int .u64 res.1.Pass.Hi), (Value.int .u64 res.1.Pass.Lo)] (rest (⟨b, 0, none⟩, res.1, res.2)) h2 := by
    intro b o2 h2 fb s2 c2 ob but own new dom
    refine w_setBox (old := [(Value.int .i64 0), (Value.int .u64 0), (Value.int .u64 0)]) c2 rfl fun h3 c3 k3 d3 => ?_
    obtain ⟨k, ow3⟩ := OC.one s2.ow k3 d3 ob
    have s3 := s2.oc k ht ow3
    have hsb : s ≠ b := fun q => by rw [← q, x.cell] at fb; cases fb
    have os : OS (fun i => i ≤ 3) o o2 h h3 := ⟨fun c y e n => k3 c y (but c y e n) (fun (q : c = b) => by rw [q, fb] at e; cases e), own, new, fun c e => dom c (d3 c e)⟩
    exact hr b o2 h3 ⟨s3, os.free x.no x.cell, os.gone x.no (by rw [x.cell]; simp)⟩ ⟨c3, ob⟩ os
  refine w_join (w_both (hc h o _ x.set fun o1 h1 s1 k1 => ?_) ?_)
  · refine w_box fun b h2 f2 c2 k2 => ?_
    obtain ⟨o2, k3, ow2, ob⟩ := OC.anew (G := fun c => c = b) t s1.ow k2 (fun c g => by rw [g]; exact f2) fun c g => by rw [g, c2]; simp
    refine fin b o2 h2 (k1.dom _ f2) (s1.oc k3 ht ow2) c2 (ob b rfl) (fun c y e n => k2 _ _ (k1.but c y e n)) (fun c i e => k3.own _ _ (k1.own _ _ e)) (fun c e => ?_) fun c e => k1.dom _ (k2.fresh e)
    rcases k3.new c e with z | z
    · exact k1.new c z
    · exact .inr (k1.dom c z)
  · refine w_box fun b h1 f1 c1 k1 => ?_
    obtain ⟨o1, k2, ow1, ob⟩ := OC.anew (G := fun c => c = b) t x.set.ow k1 (fun c g => by rw [g]; exact f1) fun c g => by rw [g, c1]; simp
    refine hc h1 o1 _ (x.set.oc k2 ht ow1) fun o2 h2 s2 k3 => ?_
    have hn : ∀ i, o1 b = some i → ¬ i ≤ 3 := fun i q => by rw [ob b rfl] at q; cases q; omega
    refine fin b o2 h2 f1 s2 (k3.but _ _ c1 hn) (k3.own _ _ (ob b rfl)) (fun c y e n => k3.but _ _ (k1 _ _ e) fun i q => ?_) (fun c i e => k3.own _ _ (k2.own _ _ e)) (fun c e => ?_) fun c e => k1.fresh (k3.dom _ e)
    · cases z : o c with
      | none => exact ((k2.new c (by rw [q]; simp)).elim (fun w => absurd z w) fun w => by rw [w] at e; cases e)
      | some v => rw [k2.own _ _ z] at q; cases q; exact n _ z
    · rcases k3.new c e with z | z
      · exact k2.new c z
      · exact .inr (k1.fresh z)
end
theorem caps_full14 : ∀ (es : List En) (k : Nat), (∀ e ∈ es, e.isSome = true) → (capsG k es).length = es.length := by
  intro es
  induction es with
  | nil => exact fun _ _ => rfl
  | cons e r ih =>
    intro k hh
    have he := hh e (List.mem_cons_self ..)
    have := ih (k + 1) fun x hx => hh x (List.mem_cons_of_mem _ hx)
    cases e with
    | none => cases he
    | some p => obtain ⟨u, us⟩ := p; rw [capsG]; simp only [List.length_cons]; omega
theorem free_of14 {es : List En} (h : (capsG 0 es).length < es.length) : ∃ n, freeE es = some n := by
  cases e : freeE es with
  | some n => exact ⟨n, rfl⟩
  | none =>
    unfold freeE freeU at e
    rw [List.findIdx?_eq_none_iff] at e
    have := caps_full14 es 0 fun x hx => by
      have := e x.isSome (List.mem_map.2 ⟨x, hx, rfl⟩)
      simpa using this
    omega
structure Inv14 (most : Int) (es : List En) (l : List (Int × Int)) (L : List Int) : Prop where
  len : (es.length : Int) = most
  rel : RelQ l L
  cnt : ∀ o, cnt es o = L.count o
  tot : (capsG 0 es).length = L.length
section
variable {each most : Int} {es : List En} {l : List (Int × Int)} {L : List Int}
theorem rmay0 {b : Int} (h : rmayOf each most L b = 0) : (L.count b : Int) < each ∧ (L.length : Int) < most := by
  unfold rmayOf at h
  split at h
  · cases h
  · split at h
    · cases h
    · omega
theorem Inv14.root (v : Inv14 most es l L) {b : Int} (h0 : K.cnt es b = 0) (hr : rmayOf each most L b = 0) {W : S_api_Word} :
    (rootOut es ⟨b, W⟩ 31).1.2 = 0 ∧ Inv14 most (rootOut es ⟨b, W⟩ 31).2 (addL each most l b) (L ++ [b]) := by
  have hlen := v.len
  have htot := v.tot
  have hl := (rmay0 hr).2
  obtain ⟨n, hn⟩ := free_of14 (es := es) (by omega)
  have e1 : rootOut es ⟨b, W⟩ 31 = (((n : Int), 0), rootE es n ⟨⟨b, W⟩, 31, -1⟩) := by
    unfold rootOut
    rw [if_pos (by decide), if_neg (by show ¬ 0 < K.cnt es b; omega), hn]
  have perm : (capsG 0 (rootE es n ⟨⟨b, W⟩, 31, -1⟩)).Perm ((⟨b, W⟩, (n : Int)) :: capsG 0 es) := by
    have := capsG_new (t := ⟨⟨b, W⟩, 31, -1⟩) (ks := []) (k := 0) (freeE_some hn)
    rwa [Nat.zero_add] at this
  have hcnt := cnt_cons perm
  refine ⟨by rw [e1], ?_⟩
  rw [e1]
  have rel' := v.rel.add (each := each) (all := most) b
  rw [if_pos hr] at rel'
  refine ⟨by unfold rootE; rw [List.length_set]; exact hlen, rel', fun o => ?_, ?_⟩
  · show K.cnt (rootE es n ⟨⟨b, W⟩, 31, -1⟩) o = _
    rw [hcnt, v.cnt, List.count_append, List.count_singleton]
    simp only [beq_iff_eq]
  · show (capsG 0 (rootE es n ⟨⟨b, W⟩, 31, -1⟩)).length = _
    rw [perm.length_eq, List.length_cons, List.length_append, List.length_singleton, htot]
theorem Inv14.child (v : Inv14 most es l L) {q : Nat} {t : S_api_Token} {ks : List Int} (hq : Has es q t ks) {W : S_api_Word} {r : Int} (hp : partOf r t.Rights = true) (hf : findE es ⟨t.Cap.Obj, W⟩ = none) (hr : rmayOf each most L t.Cap.Obj = 0) :
    (childOut es q ⟨t.Cap.Obj, W⟩ r).1.2 = 0 ∧ Inv14 most (childOut es q ⟨t.Cap.Obj, W⟩ r).2 (addL each most l t.Cap.Obj) (L ++ [t.Cap.Obj]) := by
  have hlen := v.len
  have htot := v.tot
  have hl := (rmay0 hr).2
  obtain ⟨n, hn⟩ := free_of14 (es := es) (by omega)
  have ea : atE es (q : Int) = some (t, ks) := atE_has.2 ⟨q, rfl, hq⟩
  have e1 : childOut es q ⟨t.Cap.Obj, W⟩ r = (((n : Int), 0), childE es q n ⟨⟨t.Cap.Obj, W⟩, r, (q : Int)⟩) := by
    unfold childOut
    rw [ea]
    simp only []
    rw [if_pos hp, hf, hn]
    simp
  refine ⟨by rw [e1], ?_⟩
  rw [e1]
  have perm := capsG_child (t := ⟨⟨t.Cap.Obj, W⟩, r, (q : Int)⟩) hq (freeE_some hn)
  have hcnt := cnt_cons perm
  have rel' := v.rel.add (each := each) (all := most) t.Cap.Obj
  rw [if_pos hr] at rel'
  have hlen' : (childE es q n ⟨⟨t.Cap.Obj, W⟩, r, (q : Int)⟩).length = es.length := by
    unfold childE; rw [show es[q]? = some (some (t, ks)) from hq]; simp only [List.length_set]
  refine ⟨by show ((childE es q n _).length : Int) = _; rw [hlen']; exact hlen, rel', fun o' => ?_, ?_⟩
  · show K.cnt (childE es q n _) o' = _
    rw [hcnt, v.cnt, List.count_append, List.count_singleton]
    simp only [beq_iff_eq]
  · show (capsG 0 (childE es q n _)).length = _
    rw [perm.length_eq, List.length_cons, List.length_append, List.length_singleton, htot]
end
def hdC : List S_api_Word := [⟨0, 3⟩, ⟨0, 3⟩, ⟨0, 5⟩, ⟨0, 3⟩]
def hdE : List En := [none, none, none, none]
noncomputable def hd1 := rootD 3 4 hdC 0 hdE [] 1
noncomputable def hd2 := rootD 3 4 hdC hd1.2.1 hd1.2.2.1 hd1.2.2.2 1
noncomputable def hd3 := childD 3 4 hdC hd2.2.1 hd2.2.2.1 hd2.2.2.2 ⟨1, ⟨0, 3⟩⟩ 5
noncomputable def hd4 := childD 3 4 hdC hd3.2.1 hd3.2.2.1 hd3.2.2.2 ⟨1, ⟨0, 5⟩⟩ 2
noncomputable def hd5 := childD 3 4 hdC hd4.2.1 hd4.2.2.1 hd4.2.2.2 ⟨1, ⟨0, 5⟩⟩ 1
theorem hd1_res : hd1.1 = (⟨1, ⟨0, 3⟩⟩, 0) := by kernel_rfl
theorem hd2_res : hd2.1 = (cap0, 19) := by kernel_rfl
theorem hd3_res : hd3.1 = (⟨1, ⟨0, 5⟩⟩, 0) := by kernel_rfl
theorem hd4_res : hd4.1 = (cap0, 4) := by kernel_rfl
theorem hd5_res : hd5.1 = (cap0, 11) := by kernel_rfl
theorem hd5_tk : hd5.2.1 = 4 := by kernel_rfl
theorem hd5_q : qcnt hd5.2.2.2 1 = 2 := by kernel_rfl
theorem hd_good : ∀ x ∈ hdC, GoodW x := by
  intro x hx
  simp only [hdC, List.mem_cons, List.not_mem_nil, or_false] at hx
  rcases hx with rfl | rfl | rfl | rfl
  · exact ⟨3, by decide, by kernel_rfl⟩
  · exact ⟨3, by decide, by kernel_rfl⟩
  · exact ⟨5, by decide, by kernel_rfl⟩
  · exact ⟨3, by decide, by kernel_rfl⟩
theorem hd_cut : hdC.map (cutW 4) = hdC := by kernel_rfl
section
variable {h h' : H} {o o' : Owner} {d p q : Nat} {cs : List S_api_Word} {each all : Int} {tk : Nat} {es : List En} {l : List (Int × Int)}
theorem OS.out {S : Nat → Prop} {h0 : H} (k : Keeps h0 h) (x : OS S o o' h h') (f : ∀ c, o c ≠ none → h0 c = none) : Keeps h0 h' := k.but x.bt fun c ⟨_, q, _⟩ => f c (by rw [q]; simp)
theorem t_dRootR (x : SetO h o d p q cs each all tk es l) {b : Int} {res : S_api_Cap × Int} (e : (rootD each all cs tk es l b).1 = res) {K : S_api_Cap × Int → H → Prop}
    (y : ∀ o' h', SetO h' o' d p q cs each all (rootD each all cs tk es l b).2.1 (rootD each all cs tk es l b).2.2.1 (rootD each all cs tk es l b).2.2.2 → OS (· ≤ 3) o o' h h' → K res h') :
    m_derive_Root (some ⟨d, 0, none⟩) (some ⟨p, 0, none⟩) (some ⟨q, 0, none⟩) b K h := t_dRoot x (by rw [e]; exact y)
theorem t_dChildR (x : SetO h o d p q cs each all tk es l) {c : S_api_Cap} {r : Int} {res : S_api_Cap × Int} (e : (childD each all cs tk es l c r).1 = res) {K : S_api_Cap × Int → H → Prop}
    (y : ∀ o' h', SetO h' o' d p q cs each all (childD each all cs tk es l c r).2.1 (childD each all cs tk es l c r).2.2.1 (childD each all cs tk es l c r).2.2.2 → OS (· ≤ 3) o o' h h' → K res h') :
    m_derive_Child (some ⟨d, 0, none⟩) (some ⟨p, 0, none⟩) (some ⟨q, 0, none⟩) c r K h := t_dChild x (by rw [e]; exact y)
end
theorem t_head14 {h : H} (er : ErrAt h) {K : Bool → H → Prop} (y : ∀ h', Keeps h h' → K true h') : m_law14_head K h := by
  unfold m_law14_head
  refine w_box fun b h1 f1 c1 k1 => ?_
  have ar : Arr cW h1 ⟨some ⟨b, 0, none⟩, 4, 4⟩ hdC := ⟨rfl, Nat.le_refl _, fun _ => ⟨_, rfl, at_box c1⟩⟩
  refine t_made14 (er.keep k1) ar hd_good (by decide) (by decide) (by decide) (by decide) (by decide) fun s w d p q r e f o h2 S2 _ c2 n2 _ _ k2 out => ?_
  rw [hd_cut] at S2
  have A0 : AtS h2 o s d p q hdC 3 4 0 hdE [] := ⟨S2, c2, n2⟩
  refine w_ifF rfl (w_set3 A0 ?_)
  refine w_cap 10 (by decide) A0 (res := (⟨1, ⟨0, 3⟩⟩, 0)) (tk' := hd1.2.1) (es' := hd1.2.2.1) (l' := hd1.2.2.2) (fun h1 o1 K s1 y => t_dRootR s1 hd1_res y) fun b1 o3 h3 A1 B1 j1 => ?_
  refine w_set3 A1 (w_cap 11 (by decide) A1 (res := (cap0, 19)) (tk' := hd2.2.1) (es' := hd2.2.2.1) (l' := hd2.2.2.2) (fun h1 o1 K s1 y => t_dRootR s1 hd2_res y) fun b2 o4 h4 A2 B2 j2 => ?_)
  have B12 := B1.os j2 (by decide)
  refine w_set3 A2 (w_load (v := ⟨1, ⟨0, 3⟩⟩) B12.at (w_cap 12 (by decide) A2 (res := (⟨1, ⟨0, 5⟩⟩, 0)) (tk' := hd3.2.1) (es' := hd3.2.2.1) (l' := hd3.2.2.2) (fun h1 o1 K s1 y => t_dChildR s1 hd3_res y) fun b3 o5 h5 A3 B3 j3 => ?_))
  have B13 := B12.os j3 (by decide)
  refine w_set3 A3 (w_load (v := ⟨1, ⟨0, 5⟩⟩) B3.at (w_cap 13 (by decide) A3 (res := (cap0, 4)) (tk' := hd4.2.1) (es' := hd4.2.2.1) (l' := hd4.2.2.2) (fun h1 o1 K s1 y => t_dChildR s1 hd4_res y) fun b4 o6 h6 A4 B4 j4 => ?_))
  have B14 := B13.os j4 (by decide)
  have B34 := B3.os j4 (by decide)
  refine w_set3 A4 (w_load (v := ⟨1, ⟨0, 5⟩⟩) B34.at (w_cap 14 (by decide) A4 (res := (cap0, 11)) (tk' := hd5.2.1) (es' := hd5.2.2.1) (l' := hd5.2.2.2) (fun h1 o1 K s1 y => t_dChildR s1 hd5_res y) fun b5 o7 h7 A5 B5 j5 => ?_))
  have B15 := B14.os j5 (by decide)
  have B35 := B34.os j5 (by decide)
  have k7 : Keeps h h7 := ((((j1.trans j2).trans j3).trans j4).trans j5).out (k1.trans k2) fun c q => k1.fresh (out c q)
  refine w_join (w_ifT rfl (w_load (v := ⟨1, ⟨0, 3⟩⟩) B15.at (w_join (w_ifT rfl (w_load (v := ⟨1, ⟨0, 5⟩⟩) B35.at (w_join (w_ifT rfl (A5.f0 (o_taken A5.set.dr (w_ifT ?_ (A5.f2 (o_qof A5.set.qu ?_)))))))))))) 
  · rw [hd5_tk]; rfl
  · rw [hd5_q]; exact y h7 k7
theorem w_right {h : H} {a0 : S_law14_World} {xs : List S_api_Word} (ar : Arr cW h a0.Draws xs) {k : S_law14_World → H → Prop}
    (y : ∀ s5 ys, Arr cW h s5 ys → (∀ x ∈ ys, x ∈ xs) → ys.length ≤ 4096 → k ⟨1 + intoV a0.Width 128, 1 + intoV a0.Entries 256, 1 + intoV a0.Each 256, intoV a0.Knob 65, s5⟩ h) : mPure (m_law14_World_right a0) k h := by
  have hl := ar.len
  have hj : iMin (a0.Draws.len : Int) 4096 = ((min xs.length 4096 : Nat) : Int) := by unfold iMin; split <;> omega
  obtain ⟨s5, hc, a5⟩ := w_take (size := 2) ar (n := min xs.length 4096) (Nat.min_le_left _ _) (i := 0) (j := iMin (a0.Draws.len : Int) 4096) rfl hj (k := fun s' _ => Arr cW h s' (xs.take (min xs.length 4096))) fun s' a _ _ => a
  refine w_pure _ (fun h' k' z => ?_) (y s5 _ a5 (fun x hx => List.mem_of_mem_take hx) (by rw [List.length_take]; omega))
  unfold m_law14_World_right
  have r1 := intoV_rng a0.Width (b := 128) (by decide)
  have r2 := intoV_rng a0.Entries (b := 256) (by decide)
  have r3 := intoV_rng a0.Each (b := 256) (by decide)
  refine w_mod14 (by decide) (by decide) (w_mod14 (by decide) (by decide) (w_mod14 (by decide) (by decide) (w_mod14 (by decide) (by decide) ⟨s5, hc, ?_⟩)))
  rw [iAdd_eq (by omega) (by omega), iAdd_eq (by omega) (by omega), iAdd_eq (by omega) (by omega)]
  exact z
def WInv (es : List En) : Prop := ∀ i t ks, Has es i t ks → (t.Parent = -1 → t.Rights = 31) ∧ (∀ (q : Nat) u us, t.Parent = (q : Int) → Has es q u us → partOf 4 u.Rights = true)
structure Fails (cs : List S_api_Word) (tk : Nat) (es : List En) (l : List (Int × Int)) (R : (S_api_Cap × Int) × Nat × List En × List (Int × Int)) : Prop where
  err : R.1.2 ≠ 0
  cap : R.1.1 = cap0
  es : R.2.2.1 = es
  l : R.2.2.2 = l
  how : (R.2.1 = tk ∧ R.1.2 ≠ 12 ∧ R.1.2 ≠ 11) ∨ (R.1.2 = 12 ∧ R.2.1 = tk + 9) ∨ (R.1.2 = 11 ∧ cs.length ≤ R.2.1 ∧ tk ≤ R.2.1 ∧ R.2.1 ≤ tk + 8)
structure Does (each most : Int) (tk : Nat) (L : List Int) (b : Int) (R : (S_api_Cap × Int) × Nat × List En × List (Int × Int)) : Prop where
  err : R.1.2 = 0
  drawn : tk + 1 ≤ R.2.1 ∧ R.2.1 ≤ tk + 9
  inv : Inv14 most R.2.2.1 R.2.2.2 (L ++ [b])
  win : WInv R.2.2.1
  new : ∃ m t ks, Has R.2.2.1 m t ks ∧ t.Cap = R.1.1
  obj : R.1.1.Obj = b
  may : rmayOf each most L b = 0
section
variable {each most : Int} {cs : List S_api_Word} {tk : Nat} {es : List En} {l : List (Int × Int)} {L : List Int}
theorem mayNo {b : Int} (h : mayOf each most l b ≠ 0) : mayOf each most l b ≠ 12 ∧ mayOf each most l b ≠ 11 := by
  unfold mayOf at h ⊢
  split
  · omega
  · split
    · omega
    · rename_i h1 h2; rw [if_neg h1, if_neg h2] at h; exact absurd rfl h
theorem WInv.root (w : CWF es) (x : WInv es) {n : Nat} (hn : es[n]? = some none) {c : S_api_Cap} : WInv (rootE es n ⟨c, 31, -1⟩) := by
  have hl : n < es.length := lt_of_get hn
  intro i t ks h
  unfold rootE at h ⊢
  rcases (has_set hl).1 h with ⟨rfl, e⟩ | ⟨hi, h'⟩
  · obtain ⟨rfl, rfl⟩ := Prod.mk.inj (Option.some.inj e)
    exact ⟨fun _ => rfl, fun q u us e _ => by have e : (-1 : Int) = (q : Int) := e; omega⟩
  · refine ⟨(x i t ks h').1, fun q u us e hq => ?_⟩
    rcases (has_set hl).1 hq with ⟨rfl, _⟩ | ⟨_, hq'⟩
    · exact absurd e (w.parent hn h')
    · exact (x i t ks h').2 q u us e hq'
theorem WInv.child (w : CWF es) (x : WInv es) {q n : Nat} {u us} (hq : Has es q u us) (hn : es[n]? = some none) (h4 : partOf 4 u.Rights = true) {c : S_api_Cap} {r : Int} : WInv (childE es q n ⟨c, r, (q : Int)⟩) := by
  intro i t ks h
  have par : ∀ {j : Nat} {z zs}, Has (childE es q n ⟨c, r, (q : Int)⟩) j z zs → j = n ∨ ∃ zs', Has es j z zs' := fun hj => by
    rcases (has_child hq hn).1 hj with ⟨rfl, _⟩ | ⟨rfl, rfl, _⟩ | ⟨_, _, h⟩
    · exact .inl rfl
    · exact .inr ⟨_, hq⟩
    · exact .inr ⟨_, h⟩
  rcases (has_child hq hn).1 h with ⟨rfl, rfl, rfl⟩ | ⟨rfl, rfl, rfl⟩ | ⟨_, _, h'⟩
  · refine ⟨fun e => by have e : ((q : Nat) : Int) = -1 := e; omega, fun q' z zs e hz => ?_⟩
    have e : ((q : Nat) : Int) = (q' : Int) := e
    obtain rfl : q = q' := by omega
    rcases par hz with e' | ⟨zs', hz'⟩
    · subst e'; rw [show es[q]? = _ from hq] at hn; cases hn
    · rw [(hz'.uniq hq).1]; exact h4
  · refine ⟨(x _ _ _ hq).1, fun q' z zs e hz => ?_⟩
    rcases par hz with rfl | ⟨zs', hz'⟩
    · exact absurd e (w.parent hn hq)
    · exact (x _ _ _ hq).2 q' z zs' e hz'
  · refine ⟨(x _ _ _ h').1, fun q' z zs e hz => ?_⟩
    rcases par hz with rfl | ⟨zs', hz'⟩
    · exact absurd e (w.parent hn h')
    · exact (x _ _ _ h').2 q' z zs' e hz'
theorem rootOut_at {b : Int} {W : S_api_Word} (v : Inv14 most es l L) (h0 : K.cnt es b = 0) (hr : rmayOf each most L b = 0) : ∃ n : Nat, es[n]? = some none ∧ rootOut es ⟨b, W⟩ 31 = (((n : Int), 0), rootE es n ⟨⟨b, W⟩, 31, -1⟩) := by
  have hlen := v.len
  have htot := v.tot
  have hl := (rmay0 hr).2
  obtain ⟨n, hn⟩ := free_of14 (es := es) (by omega)
  refine ⟨n, freeE_some hn, ?_⟩
  unfold rootOut
  rw [if_pos (by decide), if_neg (by show ¬ 0 < K.cnt es b; omega), hn]
theorem rootD_ends (v : Inv14 most es l L) (w : CWF es) (x : WInv es) (b : Int) : Fails cs tk es l (rootD each most cs tk es l b) ∨ Does each most tk L b (rootD each most cs tk es l b) := by
  have hc := v.rel.code (each := each) (all := most) b
  unfold rootD
  split
  · exact .inl ⟨by show (19 : Int) ≠ 0; decide, rfl, rfl, rfl, .inl ⟨rfl, by show (19 : Int) ≠ 12; decide, by show (19 : Int) ≠ 11; decide⟩⟩
  · rename_i h0
    split
    · rename_i h1
      split
      · rename_i h2
        have : cs.length ≤ tk := by
          rcases Nat.lt_or_ge tk cs.length with q | q
          · rw [List.getElem?_eq_getElem q] at h2; cases h2
          · exact q
        exact .inl ⟨by show (11 : Int) ≠ 0; decide, rfl, rfl, rfl, .inr (.inr ⟨rfl, this, Nat.le_refl _, by show tk ≤ tk + 8; omega⟩)⟩
      · rename_i c h2
        have hr := hc.symm.trans h1
        obtain ⟨v1, v2⟩ := v.root (each := each) (W := c) (b := b) (by omega) hr
        obtain ⟨n, hn, e⟩ := rootOut_at (each := each) (W := c) v (by omega) hr
        rw [if_pos v1]
        refine .inr ⟨rfl, ⟨Nat.le_refl _, by show tk + 1 ≤ tk + 9; omega⟩, v2, ?_, ?_, rfl, hr⟩
        · show WInv (rootOut es ⟨b, c⟩ 31).2
          rw [e]; exact x.root w hn
        · show ∃ m t ks, Has (rootOut es ⟨b, c⟩ 31).2 m t ks ∧ _
          rw [e]
          exact ⟨n, _, _, (has_set (lt_of_get hn)).2 (.inl ⟨rfl, rfl⟩), rfl⟩
    · rename_i h1
      exact .inl ⟨h1, rfl, rfl, rfl, .inl ⟨rfl, mayNo h1⟩⟩
theorem issueO_new' {g : S_api_Word → Bool} {cs : List S_api_Word} : ∀ {n tk : Nat}, (issueO g cs tk n).1.2 = 0 → g (issueO g cs tk n).1.1 = false := by
  intro n
  induction n with
  | zero => intro tk h; unfold issueO at h; cases h
  | succ n ih =>
    intro tk h
    cases hc : cs[tk]? with
    | none => rw [issueO_none hc] at h; cases h
    | some c =>
      rw [issueO_some hc] at h ⊢
      cases hg : g c with
      | true => rw [hg, if_pos rfl] at h; rw [if_pos rfl]; exact ih h
      | false => rw [if_neg (by decide)]; exact hg
theorem childOut_at (v : Inv14 most es l L) {q : Nat} {t : S_api_Token} {ks : List Int} (hq : Has es q t ks) {W : S_api_Word} {r : Int} (hp : partOf r t.Rights = true) (hf : findE es ⟨t.Cap.Obj, W⟩ = none) (hr : rmayOf each most L t.Cap.Obj = 0) :
    ∃ n : Nat, es[n]? = some none ∧ childOut es q ⟨t.Cap.Obj, W⟩ r = (((n : Int), 0), childE es q n ⟨⟨t.Cap.Obj, W⟩, r, (q : Int)⟩) := by
  have hlen := v.len
  have htot := v.tot
  have hl := (rmay0 hr).2
  obtain ⟨n, hn⟩ := free_of14 (es := es) (by omega)
  have ea : atE es (q : Int) = some (t, ks) := atE_has.2 ⟨q, rfl, hq⟩
  refine ⟨n, freeE_some hn, ?_⟩
  unfold childOut
  rw [ea]
  simp only []
  rw [if_pos hp, hf, hn]
  simp
theorem issueO_ends {g : S_api_Word → Bool} : ∀ {n tk : Nat}, tk ≤ cs.length → (tk ≤ (issueO g cs tk n).2 ∧ (issueO g cs tk n).2 ≤ tk + n) ∧
    (((issueO g cs tk n).1.2 = 0 ∧ tk + 1 ≤ (issueO g cs tk n).2) ∨ ((issueO g cs tk n).1.2 = 12 ∧ (issueO g cs tk n).2 = tk + n) ∨ ((issueO g cs tk n).1.2 = 11 ∧ cs.length ≤ (issueO g cs tk n).2 ∧ (issueO g cs tk n).2 + 1 ≤ tk + n)) := by
  intro n
  induction n with
  | zero => intro tk _; unfold issueO; exact ⟨⟨Nat.le_refl _, Nat.le_refl _⟩, .inr (.inl ⟨rfl, rfl⟩)⟩
  | succ n ih =>
    intro tk hk
    cases hc : cs[tk]? with
    | none =>
      rw [issueO_none hc]
      have : cs.length ≤ tk := by
        rcases Nat.lt_or_ge tk cs.length with q | q
        · rw [List.getElem?_eq_getElem q] at hc; cases hc
        · exact q
      exact ⟨⟨Nat.le_refl _, by simp⟩, .inr (.inr ⟨rfl, this, by simp⟩)⟩
    | some c =>
      have hl : tk < cs.length := lt_of_get hc
      rw [issueO_some hc]
      split
      · obtain ⟨⟨a1, a2⟩, a3⟩ := ih (tk := tk + 1) (by omega)
        refine ⟨⟨by omega, by omega⟩, ?_⟩
        rcases a3 with ⟨e, q⟩ | ⟨e, q⟩ | ⟨e, q, q'⟩
        · exact .inl ⟨e, by omega⟩
        · exact .inr (.inl ⟨e, by omega⟩)
        · exact .inr (.inr ⟨e, q, by omega⟩)
      · exact ⟨⟨by simp, by simp⟩, .inl ⟨rfl, by simp⟩⟩
theorem childD_ends (v : Inv14 most es l L) (w : CWF es) (x : WInv es) (hk : tk ≤ cs.length) (c : S_api_Cap) (g : Int) : Fails cs tk es l (childD each most cs tk es l c g) ∨ Does each most tk L c.Obj (childD each most cs tk es l c g) := by
  have hc := v.rel.code (each := each) (all := most) c.Obj
  unfold childD
  cases hf : findE es c with
  | none => exact .inl ⟨by show (3 : Int) ≠ 0; decide, rfl, rfl, rfl, .inl ⟨rfl, by show (3 : Int) ≠ 12; decide, by show (3 : Int) ≠ 11; decide⟩⟩
  | some n =>
    obtain ⟨t, ks, hn, htc⟩ := findE_has hf
    have ea : atOut es (n : Int) = (t, true) := atOut_has hn
    simp only []
    rw [ea]
    by_cases c1 : (!partOf 4 t.Rights || !partOf g t.Rights) = true
    · rw [if_pos c1]
      exact .inl ⟨by show (4 : Int) ≠ 0; decide, rfl, rfl, rfl, .inl ⟨rfl, by show (4 : Int) ≠ 12; decide, by show (4 : Int) ≠ 11; decide⟩⟩
    · rw [if_neg c1]
      simp only [Bool.or_eq_true, Bool.not_eq_true', not_or, Bool.not_eq_false] at c1
      by_cases h1 : mayOf each most l c.Obj = 0
      · rw [if_pos h1]
        have hr := hc.symm.trans h1
        obtain ⟨⟨b1, b2⟩, b3⟩ := issueO_ends (g := fun v => (findE es ⟨c.Obj, v⟩).isSome) (n := 9) hk
        by_cases h2 : (issueO (fun v => (findE es ⟨c.Obj, v⟩).isSome) cs tk 9).1.2 = 0
        · rw [if_pos h2]
          have hw := issueO_new' h2
          have hw' : findE es ⟨t.Cap.Obj, (issueO (fun v => (findE es ⟨c.Obj, v⟩).isSome) cs tk 9).1.1⟩ = none := by
            rw [htc]
            exact Option.isNone_iff_eq_none.1 (by rw [← Option.not_isSome]; simpa using hw)
          obtain ⟨v1, v2⟩ := v.child (each := each) hn c1.2 hw' (by rw [htc]; exact hr)
          obtain ⟨m, hm, e⟩ := childOut_at (each := each) v hn c1.2 hw' (by rw [htc]; exact hr)
          rw [htc] at v1 v2 e
          rw [if_pos v1]
          refine .inr ⟨rfl, ⟨?_, b2⟩, v2, ?_, ?_, rfl, hr⟩
          · rcases b3 with ⟨_, q⟩ | ⟨q, _⟩ | ⟨q, _⟩
            · exact q
            · rw [q] at h2; cases h2
            · rw [q] at h2; cases h2
          · show WInv (childOut es n _ g).2
            rw [e]; exact x.child w hn hm c1.1
          · show ∃ m t ks, Has (childOut es n _ g).2 m t ks ∧ _
            rw [e]
            exact ⟨m, _, _, (has_child hn hm).2 (.inl ⟨rfl, rfl, rfl⟩), rfl⟩
        · rw [if_neg h2]
          refine .inl ⟨h2, rfl, rfl, rfl, ?_⟩
          rcases b3 with ⟨q, _⟩ | ⟨q, q'⟩ | ⟨q, q', q''⟩
          · exact absurd q h2
          · exact .inr (.inl ⟨q, q'⟩)
          · exact .inr (.inr ⟨q, q', b1, by show (issueO _ cs tk 9).2 ≤ tk + 8; omega⟩)
      · rw [if_neg h1]
        exact .inl ⟨h1, rfl, rfl, rfl, .inl ⟨rfl, mayNo h1⟩⟩
end
theorem ofE_at {es : List En} {l : List Int} {i : Nat} {z : Int} (h : l[i]? = some z) : (ofE es l)[i]? = some (tokIn es l z) := by
  unfold ofE; rw [List.getElem?_map, h]; rfl
section
variable {es : List En} {o : Int}
theorem ofO_ex (w : CWF es) {j : Nat} {t ks} (hj : Has es j t ks) (ho : t.Cap.Obj = o) : ∃ n u us lst, Has es n u us ∧ u.Parent = -1 ∧ u.Cap.Obj = o ∧ Below es n lst ∧ ofO es o = ofE es lst ∧ (j : Int) ∈ lst := by
  obtain ⟨r, u, us, hr, hp, eo, d⟩ := w.rootOf hj
  obtain ⟨lst, bl⟩ := w.ex hr
  refine ⟨r, u, us, lst, hr, hp, eo.trans ho, bl, ofO_some w hr (eo.trans ho) hp bl, bl.down ?_ d⟩
  exact bl.pre.mem.2 ⟨_, List.mem_singleton.2 rfl, .refl⟩
theorem ofO_cnt (w : CWF es) (o : Int) : (ofO es o).length = cnt es o := by
  rcases Nat.eq_zero_or_pos (cnt es o) with h | h
  · rw [h, ofO_none (fun i t ks hi e => by have := cnt_pos.2 ⟨i, t, ks, hi, e⟩; omega)]; rfl
  · obtain ⟨j, t, ks, hj, ho⟩ := cnt_pos.1 h
    obtain ⟨n, u, us, lst, hn, hp, eo, bl, e, _⟩ := ofO_ex w hj ho
    rw [e, ← eo, w.cntObj hn hp bl]; unfold ofE; rw [List.length_map]
theorem ofO_obj (w : CWF es) {i : Nat} {x : S_api_Token} (h : (ofO es o)[i]? = some x) : x.Cap.Obj = o := by
  have hl : 0 < cnt es o := by rw [← ofO_cnt w]; have := lt_of_get h; omega
  obtain ⟨j, t, ks, hj, ho⟩ := cnt_pos.1 hl
  obtain ⟨n, u, us, lst, hn, hp, eo, bl, e, _⟩ := ofO_ex w hj ho
  rw [e] at h
  have hil : i < lst.length := by have := lt_of_get h; unfold ofE at this; rwa [List.length_map] at this
  have hz := List.getElem?_eq_getElem hil
  rw [ofE_at hz] at h
  obtain ⟨q, v, vs, ez, hv⟩ := hasN_nds.1 (bl.live _ (List.getElem_mem hil))
  rw [ez, tokIn_has hv] at h
  cases h
  have hm : (q : Int) ∈ lst := by rw [← ez]; exact List.getElem_mem hil
  exact (bl.obj w hn hm hv).trans eo
theorem and_part {a r : Int} (h : partOf a r = true) : iAnd .i64 r a = a := by
  unfold partOf at h
  simp only [Bool.and_eq_true, decide_eq_true_eq] at h
  obtain ⟨h1, h2, h3⟩ := h
  obtain ⟨A, rfl⟩ : ∃ A : Nat, a = A := ⟨a.toNat, by omega⟩
  obtain ⟨R, rfl⟩ : ∃ R : Nat, r = R := ⟨r.toNat, by omega⟩
  have key : ((List.range 32).all fun a => (List.range 32).all fun r => decide (iAnd .i64 (a : Int) (r : Int) = iAnd .i64 (r : Int) (a : Int))) = true := by decide +kernel
  have := of_decide_eq_true (List.all_eq_true.1 (List.all_eq_true.1 key A (List.mem_range.2 (by omega))) R (List.mem_range.2 (by omega)))
  rw [← this]; exact h3
theorem ofO_tok (w : CWF es) (x : WInv es) {m : Nat} {t ks} (hm : Has es m t ks) (ho : t.Cap.Obj = o) :
    ∃ pm, (∀ (k : Nat) (y : S_api_Token), (ofO es o)[k]? = some y → (y.Cap = t.Cap ↔ k = pm) ∧ (∀ (j : Nat) (y' : S_api_Token), j < k → (ofO es o)[j]? = some y' → y'.Cap ≠ y.Cap) ∧ (k = 0 → y.Parent = -1 ∧ y.Rights = 31) ∧
      (0 < k → ∃ (q : Nat) (z : S_api_Token), y.Parent = (q : Int) ∧ q < k ∧ (ofO es o)[q]? = some z ∧ 1 ≤ y.Rights ∧ iAnd .i64 z.Rights y.Rights = y.Rights ∧ iAnd .i64 z.Rights 4 ≠ 0)) ∧ pm < (ofO es o).length := by
  obtain ⟨n, u, us, lst, hn, hp, eo, bl, e, hmem⟩ := ofO_ex w hm ho
  obtain ⟨pm, hpl, hpm⟩ := List.getElem_of_mem hmem
  have hpm' : lst[pm]? = some (m : Int) := by rw [List.getElem?_eq_getElem hpl, hpm]
  have tok : ∀ {k : Nat} {y : S_api_Token}, (ofE es lst)[k]? = some y → ∃ (q : Nat) (v : S_api_Token) (vs : List Int), lst[k]? = some (q : Int) ∧ Has es q v vs ∧ y = ⟨v.Cap, v.Rights, placeIn lst v.Parent⟩ := fun {k y} h => by
    have hil : k < lst.length := by have := lt_of_get h; unfold ofE at this; rwa [List.length_map] at this
    have hz := List.getElem?_eq_getElem hil
    rw [ofE_at hz] at h
    obtain ⟨q, v, vs, ez, hv⟩ := hasN_nds.1 (bl.live _ (List.getElem_mem hil))
    rw [ez, tokIn_has hv] at h
    exact ⟨q, v, vs, by rw [hz, ez], hv, (Option.some.inj h).symm⟩
  have inj : ∀ {i j : Nat} {z : Int}, lst[i]? = some z → lst[j]? = some z → i = j := fun {i j z} hi hj => (idx_of bl.nd hi).symm.trans (idx_of bl.nd hj)
  refine ⟨pm, ?_, by rw [e]; unfold ofE; rwa [List.length_map]⟩
  rw [e]
  intro k y hk
  obtain ⟨q, v, vs, hq, hv, rfl⟩ := tok hk
  refine ⟨⟨fun ec => ?_, fun ek => ?_⟩, fun j y' hj hy' ec => ?_, fun hk0 => ?_, fun hk0 => ?_⟩
  · obtain rfl := w.cap _ _ _ _ _ _ hv hm ec
    exact inj hq hpm'
  · subst ek
    rw [hq] at hpm'
    have : (q : Int) = (m : Int) := Option.some.inj hpm'
    obtain rfl : q = m := by omega
    show v.Cap = t.Cap
    rw [(hv.uniq hm).1]
  · obtain ⟨q', v', vs', hq', hv', rfl⟩ := tok hy'
    obtain rfl := w.cap _ _ _ _ _ _ hv' hv ec
    have := inj hq' hq
    omega
  · rcases bl.tell w hn hp hq hv with ⟨_, h1, h2⟩ | ⟨h1, _⟩
    · exact ⟨h2, (x _ _ _ hv).1 h1⟩
    · omega
  · rcases bl.tell w hn hp hq hv with ⟨h1, _⟩ | ⟨_, p, a, z, zs, h1, h2, h3, h4, h5⟩
    · omega
    · refine ⟨p, ⟨z.Cap, z.Rights, placeIn lst z.Parent⟩, h5, h1, ?_, (w.right _ _ _ hv).1, ?_, ?_⟩
      · rw [ofE_at h2, tokIn_has h3]
      · rcases w.up _ _ _ hv with q1 | ⟨i, z', zs', q1, q2, _, _, q3⟩
        · rw [h4] at q1; omega
        · have : a = i := by rw [h4] at q1; omega
          subst this
          rw [(h3.uniq q2).1]; exact and_part q3
      · have := and_part ((x _ _ _ hv).2 a z zs h4 h3)
        rw [this]; decide
end
section
variable {h : H} {o : Owner} {d : Nat} {cs : List S_api_Word} {tk : Nat}
theorem o_left0 {i : Nat} (x : DraO h o i d cs tk) (hk : cs.length ≤ tk) {K : Int → H → Prop} (y : K 0 h) : m_draws_Draws_Left (some ⟨d, 0, none⟩) K h := by
  obtain ⟨ws, a, _⟩ := x
  have hl := a.buf.len
  have hc := a.buf.cap
  have le := a.le
  unfold m_draws_Draws_Left
  refine w_deref (w_deref (w_load a.f0 (w_load a.f1 ?_)))
  refine ⟨⟨if ws.cap = tk then ws.a else ws.a.map (·.add (tk * 2)), ws.len - tk, ws.cap - tk⟩, fun h' k' z => ?_, ?_⟩
  · unfold m_draws_words_from
    exact w_cut (lo := tk) (hi := ws.len) rfl rfl (by omega) hc z
  · have : ws.len - tk = 0 := by omega
    show K ((ws.len - tk : Nat) : Int) h
    rw [this]; exact y
end
section
variable {h h' : H} {o o' : Owner} {s d p q : Nat} {cs : List S_api_Word} {each all : Int} {tk : Nat} {es : List En} {l : List (Int × Int)}
theorem AtS.q0 (x : AtS h o s d p q cs each all tk es l) : At h ((⟨s, 0, none⟩ : Addr).add 0) (cPtr (some ⟨d, 0, none⟩)) := by
  rw [pt_add]; exact At.own (l1 := []) (l2 := [Value.pointer (some ⟨d, 0, none⟩)]) (l3 := [Value.pointer (some ⟨p, 0, none⟩), Value.pointer (some ⟨q, 0, none⟩)]) x.cell rfl
theorem AtS.q1 (x : AtS h o s d p q cs each all tk es l) : At h ((⟨s, 0, none⟩ : Addr).add 1) (cPtr (some ⟨p, 0, none⟩)) := by
  rw [pt_add]; exact At.own (l1 := [Value.pointer (some ⟨d, 0, none⟩)]) (l2 := [Value.pointer (some ⟨p, 0, none⟩)]) (l3 := [Value.pointer (some ⟨q, 0, none⟩)]) x.cell rfl
theorem AtS.q2 (x : AtS h o s d p q cs each all tk es l) : At h ((⟨s, 0, none⟩ : Addr).add 2) (cPtr (some ⟨q, 0, none⟩)) := by
  rw [pt_add]; exact At.own (l1 := [Value.pointer (some ⟨d, 0, none⟩), Value.pointer (some ⟨p, 0, none⟩)]) (l2 := [Value.pointer (some ⟨q, 0, none⟩)]) (l3 := []) x.cell rfl
theorem AtS.keep (x : AtS h o s d p q cs each all tk es l) (k : Keeps h h') : AtS h' o s d p q cs each all tk es l := ⟨x.set.keep k, k _ _ x.cell, x.no⟩
theorem t_sameW {a b : Sl} {xs : List S_api_Token} (x : Arr cTok h a xs) (x' : Arr cTok h b xs) (hn : xs.length ≤ 2 ^ 40) {K : Bool → H → Prop} (y : K true h) : m_law14_sameTokens a b K h := by
  unfold m_law14_sameTokens
  have h1 := x.len
  have h2 := x'.len
  refine w_ifF (by rw [h1, h2]; simp) (w_for xs.length (fun i (z : Int) h' => z = (i : Int) ∧ h = h') ?_ ⟨rfl, rfl⟩)
  rintro rec i z h' hi ⟨rfl, rfl⟩ more
  refine w_if' (fun c => ?_) fun c => y
  have c : (i : Int) < (a.len : Int) := c
  have hil : i < xs.length := by omega
  have hz := List.getElem?_eq_getElem hil
  refine w_idx tok_len x hz rfl fun ad _ ha => w_idx tok_len x' hz rfl fun ad' _ ha' => w_load ha (w_load ha' ?_)
  rw [tok_eqB]
  exact w_ifF (by simp) (more _ _ hil ⟨ia1 i (by omega), rfl⟩)
theorem capEq (a b : S_api_Cap) : ((decide (a.Obj = b.Obj)) && (((decide (a.Pass.Hi = b.Pass.Hi)) && ((decide (a.Pass.Lo = b.Pass.Lo)) && true)) && true)) = decide (a = b) := by
  obtain ⟨a1, a2, a3⟩ := a; obtain ⟨b1, b2, b3⟩ := b
  simp [Bool.and_comm, Bool.decide_and]
end
theorem op_lenW : ∀ x, (S_law14_Op.cells x).length = 7 := fun _ => rfl
theorem invW0 {most : Int} {n : Nat} (e : most = n) : Inv14 most (List.replicate n none) [] [] := by
  have hc : ∀ k, capsG k (List.replicate n none) = [] := by
    induction n generalizing most with
    | zero => intro k; rfl
    | succ n ih => intro k; rw [List.replicate_succ, capsG]; exact ih rfl (k + 1)
  refine ⟨by rw [List.length_replicate]; exact e.symm, ⟨fun k => rfl, rfl⟩, fun b => ?_, by rw [hc]; rfl⟩
  unfold cnt; rw [hc]; rfl
theorem winv0 {n : Nat} : WInv (List.replicate n none) := fun i t ks hi => by
  have hi : (List.replicate n (none : En))[i]? = some (some (t, ks)) := hi
  rw [List.getElem?_replicate] at hi
  split at hi <;> cases hi
set_option maxHeartbeats 1000000 in
theorem t_DeriveWeaker {h : H} {a0 : S_law14_World} {a1 : Sl} {xs : List S_api_Word} {ops : List S_law14_Op} (er : ErrAt h) (ar : Arr cW h a0.Draws xs) (gx : ∀ x ∈ xs, GoodW x) (ao : Arr S_law14_Op.cells h a1 ops) (no : ops.length ≤ 9223372036854775807) {K : Bool → H → Prop} (y : ∀ h', Keeps h h' → K true h') : m_law14_DeriveWeaker a0 a1 K h := by
  unfold m_law14_DeriveWeaker
  refine t_head14 er fun h1 k1 => w_ifF rfl (w_right (ar.keep k1) fun s5 ys ay my ly => ?_)
  have rE := intoV_rng a0.Entries (b := 256) (by decide)
  have rC := intoV_rng a0.Each (b := 256) (by decide)
  have rW := intoV_rng a0.Width (b := 128) (by decide)
  have rK := intoV_rng a0.Knob (b := 65) (by decide)
  have gy : ∀ x ∈ ys, GoodW x := fun x hx => gx x (my x hx)
  generalize eW : 1 + intoV a0.Width 128 = W at *
  generalize eC : 1 + intoV a0.Each 256 = C at *
  generalize eE : 1 + intoV a0.Entries 256 = E at *
  refine t_made14 (er.keep k1) ay gy ly (by omega) (by omega) (by omega) (by omega) fun s w d p q r e f o h2 S2 R2 c2 n2 c2' n2' k2 out => w_ifF rfl ?_
  have x2 : AtS h2 o s d p q (ys.map (cutW W)) C E 0 (List.replicate E.toNat none) [] := ⟨S2, c2, n2⟩
  have v2 : Inv14 E (List.replicate E.toNat none) [] [] := invW0 (by omega)
  generalize ys.map (cutW W) = cs at x2
  have k12 := k1.trans k2
  have out' : ∀ c, o c ≠ none → h c = none := fun c q => k1.fresh (out c q)
  have hl := ao.len
  refine w_for ops.length (fun i (z : Int) h' => z = (i : Int) ∧ ∃ o' tk es l L, AtS h' o' s d p q cs C E tk es l ∧ Inv14 E es l L ∧ WInv es ∧ Keeps h h' ∧ ∀ c, o' c ≠ none → h c = none) ?_ ⟨rfl, o, 0, _, _, _, x2, v2, winv0, k12, out'⟩
  rintro rec i z h3 hi ⟨rfl, o3, tk, es, l, L, x3, v3, wi3, k3, out3⟩ more
  refine w_if' (fun c => ?_) fun c => y h3 k3
  have c : (i : Int) < (a1.len : Int) := c
  have hil : i < ops.length := by omega
  have hz := List.getElem?_eq_getElem hil
  have goes : ∀ {h' : H} {o' tk es l L}, AtS h' o' s d p q cs C E tk es l → Inv14 E es l L → WInv es → Keeps h h' → (∀ c, o' c ≠ none → h c = none) → rec (iAdd .i64 (i : Int) 1) h' := fun a b c e f => more _ _ hil ⟨(iAdd_eq (by omega) (by omega)).trans (by omega), _, _, _, _, _, a, b, c, e, f⟩
  refine w_idx op_lenW (ao.keep k3) hz rfl fun ad _ ha => w_load ha (x3.f1 (o_of x3.set.ct fun s1 h4 b4 k4 f4 => ?_))
  generalize ops[i] = u at *
  have x4 := x3.keep k4
  have wf := x3.set.ct.wf
  have hle : (ofO es u.Obj).length ≤ 256 := by have := wf.len; have := ofO_len wf u.Obj; omega
  have hl4 := b4.len
  refine w_deref (w_deref (w_load x4.q0 (w_joinV ((tk : Int), some (⟨q, 0, none⟩ : Addr)) (fun J hJ => w_both (o_taken x4.set.dr (w_load x4.q2 hJ)) (w_load x4.q2 (o_taken x4.set.dr hJ))) (o_qall x4.set.qu fun h5 k5 => ?_))))
  have x5 := x4.keep k5
  have b5 := b4.keep k5
  have f5 : ∀ c, s1.foot c → o3 c = none := fun c g => by
    cases z : o3 c with
    | none => rfl
    | some t => exact absurd (f4 c g) (x3.set.ow c (by rw [z]; simp))
  have k35 := k3.trans (k4.trans k5)
  refine w_joinP (fun (z : Int × Int × Int × Int) h' => ∃ (R : (S_api_Cap × Int) × Nat × List En × List (Int × Int)) (o' : Owner), (Fails cs tk es l R ∨ Does C E tk L u.Obj R) ∧ z = (R.1.2, R.1.1.Obj, R.1.1.Pass.Hi, R.1.1.Pass.Lo) ∧ AtS h' o' s d p q cs C E R.2.1 R.2.2.1 R.2.2.2 ∧ OS (· ≤ 3) o3 o' h5 h') (fun j hj => w_if (fun _ => ?_) fun c6 => ?_) ?_
  · exact w_set3 x5 (t_dRoot x5.set fun o' h' s' k' => hj _ _ ⟨_, o', rootD_ends v3 wf wi3 u.Obj, rfl, ⟨s', k'.free x5.no x5.cell, k'.gone x5.no (by rw [x5.cell]; simp)⟩, k'⟩)
  · simp only [Bool.or_eq_false_iff, decide_eq_false_iff_not] at c6
    have hp : 0 < (ofO es u.Obj).length := by omega
    rw [hl4]
    have rg := intoV_rng u.At (b := ((ofO es u.Obj).length : Int)) (by omega)
    refine w_deref (w_deref (w_deref (w_mod14 (by omega) (by omega) ?_)))
    obtain ⟨z, hzz⟩ : ∃ z : Nat, intoV u.At ((ofO es u.Obj).length : Int) = z := ⟨(intoV u.At ((ofO es u.Obj).length : Int)).toNat, by omega⟩
    have hzl : z < (ofO es u.Obj).length := by omega
    have hg := List.getElem?_eq_getElem hzl
    refine w_idx tok_len b5.arr hg hzz fun ad' _ ha' => w_load x5.q0 (w_load x5.q1 (w_load x5.q2 (w_load (v := (ofO es u.Obj)[z].Cap) (cells := S_api_Cap.cells) ?_ ?_)))
    · exact At.sub (l1 := []) (l2 := S_api_Cap.cells (ofO es u.Obj)[z].Cap) (l3 := (cTok (ofO es u.Obj)[z]).drop 3) ha' rfl
    · have ob := ofO_obj wf hg
      have le : tk ≤ cs.length := by obtain ⟨ws, q, _⟩ := x5.set.dr; exact q.le.1
      have ends := childD_ends (each := C) v3 wf wi3 le (ofO es u.Obj)[z].Cap u.Rights
      rw [ob] at ends
      exact t_dChild x5.set fun o' h' s' k' => hj _ _ ⟨_, o', ends, rfl, ⟨s', k'.free x5.no x5.cell, k'.gone x5.no (by rw [x5.cell]; simp)⟩, k'⟩
  rintro _ h6 ⟨R, o6, ends, rfl, x6, k6⟩
  have out6 : ∀ c, o6 c ≠ none → h c = none := fun c z => (k6.new c z).elim (out3 c) k35.fresh
  have kk6 : Keeps h h6 := k6.out k35 out3
  have b6 : Buf cTok 5 N_api_Token h6 s1 (ofO es u.Obj) := b5.but k6.bt fun ad ha ⟨_, q, _⟩ => by rw [f5 _ ⟨ad, ha, rfl⟩] at q; cases q
  refine x6.f1 (o_of x6.set.ct fun s2 h7 b7 k7 f7 => ?_)
  have x7 := x6.keep k7
  have b67 := b6.keep k7
  have hl7 := b7.len
  refine x7.f0 (o_taken x7.set.dr ?_)
  have tkl : R.2.1 ≤ 4096 := by obtain ⟨ws, q, _⟩ := x7.set.dr; have := q.le; omega
  rcases ends with F | D
  · refine w_ifT (congrArg Bool.not (decide_eq_false F.err)) ?_
    have eo : ofO R.2.2.1 u.Obj = ofO es u.Obj := by rw [F.es]
    rw [eo] at b7
    have hw := F.how
    have esub : iSub .i64 (R.2.1 : Int) (tk : Int) = (R.2.1 : Int) - tk := i64_eq (by omega) (by omega)
    refine t_sameW b67.arr b7.arr (by omega) (w_joinP (fun z h' => z = false ∧ Keeps h7 h') (fun j hj => w_ifF rfl (x7.f2 (o_qall x7.set.qu fun h8 k8 => ?_))) ?_)
    · rw [F.l, decide_eq_true rfl]; exact hj _ _ ⟨rfl, k8⟩
    rintro _ h8 ⟨rfl, k8⟩
    have x8 := x7.keep k8
    have kk8 := (kk6.trans k7).trans k8
    refine w_joinV false (fun j hj => ?_) (w_ifF rfl ?_)
    · refine w_ifF ?_ (w_if' (fun c9 => ?_) fun c9 => hj)
      · simp only []
        rw [F.cap, esub]
        rcases hw with ⟨q1, q2, q3⟩ | ⟨q1, q2⟩ | ⟨q1, q2, q3, q4⟩
        · have : (R.2.1 : Int) - tk = 0 := by omega
          simp [cap0, this, q2]
        · have : (R.2.1 : Int) - tk = 9 := by omega
          simp [cap0, this, q1]
        · simp [cap0, q1]
      · have c9 : R.1.2 = 11 := c9
        rcases hw with ⟨q1, q2, q3⟩ | ⟨q1, q2⟩ | ⟨q1, q2, q3, q4⟩
        · exact absurd c9 q3
        · rw [q1] at c9; cases c9
        · refine x8.f0 (o_left0 x8.set.dr q2 ?_)
          show j (_ || decide (8 < iSub .i64 (R.2.1 : Int) (tk : Int))) h8
          rw [esub, decide_eq_true rfl, decide_eq_false (by omega)]; exact hj
    · have x9 := x8
      rw [F.es, F.l] at x9
      exact goes x9 v3 wi3 kk8 out6
  · refine w_ifF (congrArg Bool.not (decide_eq_true D.err)) ?_
    have wf7 := x7.set.ct.wf
    obtain ⟨m, t, ks, hm, hcap⟩ := D.new
    have hob : t.Cap.Obj = u.Obj := by rw [hcap]; exact D.obj
    have hd := D.drawn
    have esub : iSub .i64 (R.2.1 : Int) (tk : Int) = (R.2.1 : Int) - tk := i64_eq (by omega) (by omega)
    have cn1 := ofO_cnt wf u.Obj
    have cn2 := ofO_cnt wf7 u.Obj
    have e1 := v3.cnt u.Obj
    have e2 := D.inv.cnt u.Obj
    rw [List.count_append, List.count_singleton_self] at e2
    have hlen : (ofO R.2.2.1 u.Obj).length = (ofO es u.Obj).length + 1 := by omega
    have t1 : asum R.2.2.2 = asum l + 1 := by
      rw [D.inv.rel.2, v3.rel.2, List.length_append, List.length_singleton]; omega
    have t2 : qcnt R.2.2.2 u.Obj = ((ofO R.2.2.1 u.Obj).length : Int) := by
      rw [D.inv.rel.1, cn2, D.inv.cnt]
    obtain ⟨m1, m2⟩ := rmay0 D.may
    have t3 : ((ofO R.2.2.1 u.Obj).length : Int) ≤ C := by omega
    have t4 : asum R.2.2.2 ≤ E := by rw [t1, v3.rel.2]; omega
    have asl : asum l = (L.length : Int) := v3.rel.2
    have Ele : E ≤ 256 := by omega
    refine w_joinP (fun z h' => z = false ∧ Keeps h7 h') (fun j hj => w_ifF ?_ (x7.f2 (o_qall x7.set.qu fun h8 k8 => ?_))) ?_
    · rw [esub, hl7, hl4, hlen, iAdd_eq (by omega) (by omega)]
      rw [decide_eq_false (by omega), decide_eq_false (by omega), decide_eq_true (by omega)]; rfl
    · rw [t1, iAdd_eq (by omega) (by omega), decide_eq_true rfl]; exact hj _ _ ⟨rfl, k8⟩
    rintro _ h8 ⟨rfl, k8⟩
    have x8 := x7.keep k8
    refine w_joinV false (fun j hj => w_ifF rfl (x8.f2 (o_qof x8.set.qu ?_))) ?_
    · rw [t2, hl7, decide_eq_true rfl]; exact hj
    refine w_joinP (fun z h' => z = false ∧ Keeps h8 h') (fun j hj => w_ifF ?_ (x8.f2 (o_qall x8.set.qu fun h9 k9 => ?_))) ?_
    · show (false || decide (C < (s2.len : Int))) = false
      rw [hl7, decide_eq_false (by omega)]; rfl
    · show j (decide (E < asum R.2.2.2)) h9
      rw [decide_eq_false (by omega)]; exact hj _ _ ⟨rfl, k9⟩
    rintro _ h9 ⟨rfl, k9⟩
    have x9 := x8.keep k9
    have kk9 := ((kk6.trans k7).trans k8).trans k9
    have b9 := (b7.keep k8).keep k9
    obtain ⟨pm, tokF, hpm⟩ := ofO_tok wf7 D.win hm hob
    refine w_ifF rfl ?_
    generalize hn : ofO R.2.2.1 u.Obj = now at *
    refine w_for now.length (fun k (z : Int × Int) h' => z.2 = (k : Int) ∧ z.1 = (if pm < k then 1 else 0) ∧ h9 = h') ?_ ⟨rfl, by simp, rfl⟩
    rintro rec2 k ⟨fnd, kz⟩ h10 hk ⟨ekz, ef, rfl⟩ more2
    have ekz : kz = (k : Int) := ekz
    have ef : fnd = (if pm < k then 1 else 0) := ef
    subst ekz; subst ef
    refine w_if' (fun c11 => ?_) fun c11 => ?_
    · have c11 : (k : Int) < (s2.len : Int) := c11
      have hkl : k < now.length := by omega
      have hkz := List.getElem?_eq_getElem hkl
      obtain ⟨g1, g2, g3, g4⟩ := tokF k now[k] hkz
      refine w_idx tok_len b9.arr hkz rfl fun ad' _ ha' => w_load ha' ?_
      generalize now[k] = yk at *
      refine w_for k (fun jj (z : Int) h' => z = (jj : Int) ∧ h9 = h') ?_ ⟨rfl, rfl⟩
      rintro rec3 jj z h11 hjj ⟨rfl, rfl⟩ more3
      refine w_if' (fun c12 => ?_) fun c12 => ?_
      · have c12 : (jj : Int) < (k : Int) := c12
        have hjl : jj < now.length := by omega
        have hjz := List.getElem?_eq_getElem hjl
        refine w_idx tok_len b9.arr hjz rfl fun ad2 _ ha2 => w_load (v := now[jj].Cap) (cells := S_api_Cap.cells) (At.sub (l1 := []) (l2 := S_api_Cap.cells now[jj].Cap) (l3 := (cTok now[jj]).drop 3) ha2 rfl) ?_
        rw [capEq]
        exact w_ifF (decide_eq_false (g2 jj _ (by omega) hjz)) (more3 _ _ (by omega) ⟨ia1 jj (by omega), rfl⟩)
      · refine w_joinV (if pm < k + 1 then 1 else 0) (fun j hj => ?_) ?_
        · show mIf ((decide (yk.Cap.Obj = R.1.1.Obj)) && _) _ _ h9
          have ce : ((decide (yk.Cap.Obj = R.1.1.Obj)) && (((decide (yk.Cap.Pass.Hi = R.1.1.Pass.Hi)) && ((decide (yk.Cap.Pass.Lo = R.1.1.Pass.Lo)) && true)) && true)) = decide (yk.Cap = R.1.1) := capEq _ _
          rw [← hcap] at ce ⊢
          rw [ce]
          refine w_if' (fun c13 => ?_) fun c13 => ?_
          · have : k = pm := g1.1 c13
            show j (iAdd .i64 (if pm < k then 1 else 0) 1) h9
            rw [if_neg (by omega)]
            rw [if_pos (by omega)] at hj; exact hj
          · have : k ≠ pm := fun z => c13 (g1.2 z)
            show j (if pm < k then 1 else 0) h9
            by_cases z : pm < k
            · rw [if_pos z]; rw [if_pos (by omega)] at hj; exact hj
            · rw [if_neg z]; rw [if_neg (by omega)] at hj; exact hj
        · have next : rec2 ((if pm < k + 1 then 1 else 0), iAdd .i64 (k : Int) 1) h9 := more2 _ _ hkl ⟨ia1 k (by omega), rfl, rfl⟩
          rcases Nat.eq_zero_or_pos k with k0 | k0
          · obtain ⟨g5, g6⟩ := g3 k0
            refine w_ifF ?_ (w_ifF ?_ next)
            · subst k0
              rw [g5, g6]; rfl
            · subst k0; rfl
          · obtain ⟨qp, z, g5, g6, g7, g8, g9, g10⟩ := g4 k0
            refine w_ifF ?_ (w_ifT (decide_eq_true (by omega)) ?_)
            · rw [g5, decide_eq_false (show ¬ ((k : Int) = 0) by omega), decide_eq_false (show ¬ ((qp : Int) < 0) by omega), decide_eq_false (show ¬ ((k : Int) ≤ (qp : Int)) by omega)]
              simp
            · refine w_idx tok_len b9.arr g7 g5 fun ad2 _ ha2 => w_load (v := z.Rights) (cells := cInt .i64) (At.sub (l1 := (cTok z).take 3) (l2 := cInt .i64 z.Rights) (l3 := (cTok z).drop 4) ha2 rfl) ?_
              refine w_ifF ?_ next
              rw [decide_eq_false (show ¬ yk.Rights < 1 by omega), decide_eq_true g9, decide_eq_false g10]; rfl
    · have c11 : ¬ (k : Int) < (s2.len : Int) := c11
      obtain rfl : k = now.length := by omega
      refine w_ifF ?_ (goes x9 D.inv D.win kk9 out6)
      show (!decide ((if pm < now.length then (1 : Int) else 0) = 1) || !decide (R.1.1.Obj = u.Obj)) = false
      rw [if_pos hpm, decide_eq_true rfl, decide_eq_true D.obj]; rfl
end Go.Proofs.YtdleanjofhghnaaDoor.K
namespace Go.Proofs.YtdleanjofhghnaaDoor.K
open Go Go.ChangeShapes Go.WideShapes Go.RowKit
def laidD : List (String × DataW Unit) := [("errors.errorType", Rows.laid_errors_errorType)]
theorem d_et : Tryd.prog.globalNamed "errors.errorType" = some 0 := by kernel_rfl
theorem d_rt : (Tryd.prog.cutTypes.find? (·.1 == "internal/reflectlite.rtype")).map (·.2) = some 162 := by kernel_rfl
theorem d_oneRow : ((List.range 222).filter fun t => Tryd.prog.rowNamed t [101, 114, 114, 111, 114]) = [77] := by kernel_rfl
theorem d_size : Tryd.prog.types.size = 222 := by kernel_rfl
theorem handle_of_laid {W : World} (h : laidMetH Tryd.prog laidD W) : W.cell? ⟨0, 0, none⟩ = some (.iface 162 (.agg #[.pointer (some ⟨1, 77, none⟩)])) := by
  have h' : laidMet Tryd.prog [] W ∧ handlesMet Tryd.prog laidD W := h
  obtain ⟨name, u, ty, e1, e2, e3, e4, e5⟩ := h'.2 _ (List.mem_singleton.2 rfl)
  have en : name = [101, 114, 114, 111, 114] := (Option.some.inj e1).symm
  subst en
  obtain rfl := Option.some.inj (d_rt.symm.trans e2)
  have hm : ty ∈ (List.range 222).filter fun t => Tryd.prog.rowNamed t [101, 114, 114, 111, 114] := List.mem_filter.2 ⟨List.mem_range.2 (by rw [← d_size]; exact e3), e4⟩
  rw [d_oneRow] at hm
  obtain rfl := List.mem_singleton.1 hm
  have hh : typeHandle Tryd.prog 77 = .pointer (some ⟨1, 77, none⟩) := by kernel_rfl
  rw [hh] at e5
  simpa using World.var?_cell d_et e5 0
noncomputable def laidWorld (os : Os) : World :=
  let w0 := World.holding Tryd.prog os ⟨#[], #[], []⟩
  { w0 with heap := w0.heap.modify 0 fun
      | .cells _ t frozen => .cells #[.iface 162 (.agg #[.pointer (some ⟨1, 77, none⟩)])] t frozen
      | o => o }
theorem laidWorld_met (os : Os) (args : Array Value) : laidMetH Tryd.prog laidD ((laidWorld os).forCall (fun _ _ => 0) ⟨#[], args, []⟩).memory :=
  laidMetH_of_parts (laidMet_nil _ _) (by kernel_rfl)
theorem err_of_laid {W : World} (h : laidMetH Tryd.prog laidD W) : ErrAt (heapH W) := by
  have hc := handle_of_laid h
  unfold World.cell? at hc
  split at hc
  · rename_i c e fz hb
    rw [if_neg (by simp)] at hc
    refine ⟨rfl, c, e, fz, hb, ?_⟩
    exact grab_iff.2 fun i v hi => by
      rcases i with _ | i
      · simp at hi; rw [← hi]; exact hc
      · simp at hi
  · cases hc
end Go.Proofs.YtdleanjofhghnaaDoor.K
namespace Go.Proofs.YtdleanjofhghnaaDoor.K
open Go Go.ChangeShapes Go.WideShapes Go.ChangeAt Go.RowKit Go.Proofs
def G_api_Word (_W : World) (x : S_api_Word) : Prop := (IntKind.u64.min ≤ x.Hi ∧ x.Hi ≤ IntKind.u64.max) ∧ (IntKind.u64.min ≤ x.Lo ∧ x.Lo ≤ IntKind.u64.max)
set_option maxRecDepth 100000 in
theorem openC_api_Word {HH : Type} {enc : TypeId × Value → HH} {W : World} {t : TypeId} (ht : Tryd.prog.underlying t = Tryd.prog.underlying 29) (hc : Tryd.prog.cellsOf t = 2) {n : Nat} {cs : List Value} {y : DataW HH × List MemPlace} (h : DataW.trod enc Tryd.prog W 0 (fun _ => true) true n t cs = some y) : ∃ x : S_api_Word, cs = S_api_Word.cells x ∧ G_api_Word W x := by
  have ht : Tryd.prog.underlying t = _ := ht.trans Tryd.underlying29
  obtain ⟨_, _, _, _, hl0, _, _⟩ := DataW.trod_struct ht h
  obtain ⟨y0, n0, h0⟩ := trod_field ht h 0 _ rfl
  obtain ⟨x0, e0, g0⟩ := open_intC (k := .u64) (by kernel_rfl) h0
  obtain ⟨y1, n1, h1⟩ := trod_field ht h 1 _ rfl
  obtain ⟨x1, e1, g1⟩ := open_intC (k := .u64) (by kernel_rfl) h1
  have hl : cs.length = 2 := hl0.trans hc
  match cs, hl with
  | [c0, c1], _ =>
    replace e0 : [c0] = (cInt .u64) x0 := (show [c0] = _ by kernel_rfl).trans e0
    replace e1 : [c1] = (cInt .u64) x1 := (show [c1] = _ by kernel_rfl).trans e1
    exact ⟨⟨x0, x1⟩, (show [c0, c1] = [c0] ++ [c1] from rfl).trans (by rw [e0, e1]; rfl), g0, g1⟩
def G_law14_World (W : World) (x : S_law14_World) : Prop := (IntKind.i64.min ≤ x.Width ∧ x.Width ≤ IntKind.i64.max) ∧ (IntKind.i64.min ≤ x.Entries ∧ x.Entries ≤ IntKind.i64.max) ∧ (IntKind.i64.min ≤ x.Each ∧ x.Each ≤ IntKind.i64.max) ∧ (IntKind.i64.min ≤ x.Knob ∧ x.Knob ≤ IntKind.i64.max) ∧ (∃ xs, Arr S_api_Word.cells (heapH W) x.Draws xs ∧ (∀ z ∈ xs, G_api_Word W z) ∧ x.Draws.cap ≤ maxLen)
set_option maxRecDepth 100000 in
theorem openC_law14_World {HH : Type} {enc : TypeId × Value → HH} {W : World} {t : TypeId} (ht : Tryd.prog.underlying t = Tryd.prog.underlying 23) (hc : Tryd.prog.cellsOf t = 5) {n : Nat} {cs : List Value} {y : DataW HH × List MemPlace} (h : DataW.trod enc Tryd.prog W 0 (fun _ => true) true n t cs = some y) : ∃ x : S_law14_World, cs = S_law14_World.cells x ∧ G_law14_World W x := by
  have ht : Tryd.prog.underlying t = _ := ht.trans Tryd.underlying23
  obtain ⟨_, _, _, _, hl0, _, _⟩ := DataW.trod_struct ht h
  obtain ⟨y0, n0, h0⟩ := trod_field ht h 0 _ rfl
  obtain ⟨x0, e0, g0⟩ := open_intC (k := .i64) (by kernel_rfl) h0
  obtain ⟨y1, n1, h1⟩ := trod_field ht h 1 _ rfl
  obtain ⟨x1, e1, g1⟩ := open_intC (k := .i64) (by kernel_rfl) h1
  obtain ⟨y2, n2, h2⟩ := trod_field ht h 2 _ rfl
  obtain ⟨x2, e2, g2⟩ := open_intC (k := .i64) (by kernel_rfl) h2
  obtain ⟨y3, n3, h3⟩ := trod_field ht h 3 _ rfl
  obtain ⟨x3, e3, g3⟩ := open_intC (k := .i64) (by kernel_rfl) h3
  obtain ⟨y4, n4, h4⟩ := trod_field ht h 4 _ rfl
  obtain ⟨x4, e4, g4⟩ := open_slC (e := 30) (sz := 2) (cells := S_api_Word.cells) (Good := fun z => G_api_Word W z) (fun _ => rfl) (by decide) (by kernel_rfl) (by kernel_rfl) (fun _ _ _ hf => openC_api_Word (t := 30) (by kernel_rfl) (by kernel_rfl) hf) h4
  have hl : cs.length = 5 := hl0.trans hc
  match cs, hl with
  | [c0, c1, c2, c3, c4], _ =>
    replace e0 : [c0] = (cInt .i64) x0 := (show [c0] = _ by kernel_rfl).trans e0
    replace e1 : [c1] = (cInt .i64) x1 := (show [c1] = _ by kernel_rfl).trans e1
    replace e2 : [c2] = (cInt .i64) x2 := (show [c2] = _ by kernel_rfl).trans e2
    replace e3 : [c3] = (cInt .i64) x3 := (show [c3] = _ by kernel_rfl).trans e3
    replace e4 : [c4] = cSl x4 := (show [c4] = _ by kernel_rfl).trans e4
    exact ⟨⟨x0, x1, x2, x3, x4⟩, (show [c0, c1, c2, c3, c4] = [c0] ++ [c1] ++ [c2] ++ [c3] ++ [c4] from rfl).trans (by rw [e0, e1, e2, e3, e4]; rfl), g0, g1, g2, g3, g4⟩
def G_api_Cap (W : World) (x : S_api_Cap) : Prop := (IntKind.i64.min ≤ x.Obj ∧ x.Obj ≤ IntKind.i64.max) ∧ G_api_Word W x.Pass
set_option maxRecDepth 100000 in
theorem openC_api_Cap {HH : Type} {enc : TypeId × Value → HH} {W : World} {t : TypeId} (ht : Tryd.prog.underlying t = Tryd.prog.underlying 35) (hc : Tryd.prog.cellsOf t = 3) {n : Nat} {cs : List Value} {y : DataW HH × List MemPlace} (h : DataW.trod enc Tryd.prog W 0 (fun _ => true) true n t cs = some y) : ∃ x : S_api_Cap, cs = S_api_Cap.cells x ∧ G_api_Cap W x := by
  have ht : Tryd.prog.underlying t = _ := ht.trans Tryd.underlying35
  obtain ⟨_, _, _, _, hl0, _, _⟩ := DataW.trod_struct ht h
  obtain ⟨y0, n0, h0⟩ := trod_field ht h 0 _ rfl
  obtain ⟨x0, e0, g0⟩ := open_intC (k := .i64) (by kernel_rfl) h0
  obtain ⟨y1, n1, h1⟩ := trod_field ht h 1 _ rfl
  obtain ⟨x1, e1, g1⟩ := openC_api_Word (t := 30) (by kernel_rfl) (by kernel_rfl) h1
  have hl : cs.length = 3 := hl0.trans hc
  match cs, hl with
  | [c0, c1, c2], _ =>
    replace e0 : [c0] = (cInt .i64) x0 := (show [c0] = _ by kernel_rfl).trans e0
    replace e1 : [c1, c2] = S_api_Word.cells x1 := (show [c1, c2] = _ by kernel_rfl).trans e1
    exact ⟨⟨x0, x1⟩, (show [c0, c1, c2] = [c0] ++ [c1, c2] from rfl).trans (by rw [e0, e1]; rfl), g0, g1⟩
def G_law14_Op (W : World) (x : S_law14_Op) : Prop := (IntKind.i64.min ≤ x.Kind ∧ x.Kind ≤ IntKind.i64.max) ∧ (IntKind.i64.min ≤ x.Obj ∧ x.Obj ≤ IntKind.i64.max) ∧ (IntKind.i64.min ≤ x.At ∧ x.At ≤ IntKind.i64.max) ∧ (IntKind.i64.min ≤ x.Rights ∧ x.Rights ≤ IntKind.i64.max) ∧ G_api_Cap W x.X
set_option maxRecDepth 100000 in
theorem openC_law14_Op {HH : Type} {enc : TypeId × Value → HH} {W : World} {t : TypeId} (ht : Tryd.prog.underlying t = Tryd.prog.underlying 50) (hc : Tryd.prog.cellsOf t = 7) {n : Nat} {cs : List Value} {y : DataW HH × List MemPlace} (h : DataW.trod enc Tryd.prog W 0 (fun _ => true) true n t cs = some y) : ∃ x : S_law14_Op, cs = S_law14_Op.cells x ∧ G_law14_Op W x := by
  have ht : Tryd.prog.underlying t = _ := ht.trans Tryd.underlying50
  obtain ⟨_, _, _, _, hl0, _, _⟩ := DataW.trod_struct ht h
  obtain ⟨y0, n0, h0⟩ := trod_field ht h 0 _ rfl
  obtain ⟨x0, e0, g0⟩ := open_intC (k := .i64) (by kernel_rfl) h0
  obtain ⟨y1, n1, h1⟩ := trod_field ht h 1 _ rfl
  obtain ⟨x1, e1, g1⟩ := open_intC (k := .i64) (by kernel_rfl) h1
  obtain ⟨y2, n2, h2⟩ := trod_field ht h 2 _ rfl
  obtain ⟨x2, e2, g2⟩ := open_intC (k := .i64) (by kernel_rfl) h2
  obtain ⟨y3, n3, h3⟩ := trod_field ht h 3 _ rfl
  obtain ⟨x3, e3, g3⟩ := open_intC (k := .i64) (by kernel_rfl) h3
  obtain ⟨y4, n4, h4⟩ := trod_field ht h 4 _ rfl
  obtain ⟨x4, e4, g4⟩ := openC_api_Cap (t := 36) (by kernel_rfl) (by kernel_rfl) h4
  have hl : cs.length = 7 := hl0.trans hc
  match cs, hl with
  | [c0, c1, c2, c3, c4, c5, c6], _ =>
    replace e0 : [c0] = (cInt .i64) x0 := (show [c0] = _ by kernel_rfl).trans e0
    replace e1 : [c1] = (cInt .i64) x1 := (show [c1] = _ by kernel_rfl).trans e1
    replace e2 : [c2] = (cInt .i64) x2 := (show [c2] = _ by kernel_rfl).trans e2
    replace e3 : [c3] = (cInt .i64) x3 := (show [c3] = _ by kernel_rfl).trans e3
    replace e4 : [c4, c5, c6] = S_api_Cap.cells x4 := (show [c4, c5, c6] = _ by kernel_rfl).trans e4
    exact ⟨⟨x0, x1, x2, x3, x4⟩, (show [c0, c1, c2, c3, c4, c5, c6] = [c0] ++ [c1] ++ [c2] ++ [c3] ++ [c4, c5, c6] from rfl).trans (by rw [e0, e1, e2, e3, e4]; rfl), g0, g1, g2, g3, g4⟩
set_option maxRecDepth 100000 in
theorem deriveWeaker_lifted (os : Os) (started : os.Started) (HH : Type) (enc : TypeId × Value → HH) :
    ReturnsInHanded {} Tryd.checked os 4 .any (fun w args => (Rows.deriveWeakerSpec.pre enc Tryd.prog Tryd.f4 [] false w args ∧ laidMetH Tryd.prog laidD w) ∧ sizedMet enc Tryd.prog Tryd.f4 (OpenSpec.ofChange Rows.deriveWeakerSpec) false w args) (Rows.deriveWeakerSpec.post enc Tryd.prog Tryd.f4 false true false false) := by
  refine returnsInHanded_of_change_and (C := Tryd.checked) (X := fun w _ => laidMetH Tryd.prog laidD w) (fun _ _ _ hh h => h.of_heap hh) own started (by kernel_rfl) Tryd.func4
    (ChangeSpec.witness_at (enc := enc) (C := Tryd.checked) (os := os) (X := fun w _ => laidMetH Tryd.prog laidD w) false (laidWorld os) #[.agg #[.int .i64 0, .int .i64 0, .int .i64 0, .int .i64 0, .slice none 0 0], .slice none 0 0] 8 rfl (by kernel_rfl) (by kernel_rfl) (by kernel_rfl) (by kernel_rfl) (by kernel_rfl) (laidWorld_met os _)) ?_
  intro W base args ds gs before hval0 hW hcnd _ hL _
  have er := err_of_laid hL
  have hval : ∀ (j : Nat) t v, Tryd.f4.params[j]? = some t → args[j]? = some v → Value.okWide Tryd.prog W .any base t v := hval0
  have hW' : DataW.Whole enc Tryd.prog Tryd.f4.params.toList Rows.deriveWeakerSpec.vars false W args.toList ds gs before := hW
  obtain ⟨p, q, hA0, hV, rfl, hfz, hnd⟩ := hW
  have hA : DataW.TrodAll enc Tryd.prog W 0 (fun _ => true) true [24, 49] args.toList ds p := hA0
  obtain ⟨l⟩ := args
  obtain ⟨v0, l0, d0, ds0, p0, q0, e0, rfl, rfl, t0, hB0⟩ := trodAll_cons hA
  replace e0 : l = v0 :: l0 := e0
  subst e0
  obtain ⟨v1, l1, d1, ds1, p1, q1, e1, rfl, rfl, t1, hB1⟩ := trodAll_cons hB0
  replace e1 : l0 = v1 :: l1 := e1
  subst e1
  obtain ⟨rfl, rfl, rfl⟩ := trodAll_nil hB1
  obtain ⟨rfl, rfl⟩ := trodVars_none hV
  obtain ⟨c0, rfl, _, _, hf0⟩ := open_str ((show Tryd.prog.underlying 24 = Tryd.prog.underlying 23 by kernel_rfl).trans Tryd.underlying23) (hval 0 24 v0 rfl rfl) t0
  obtain ⟨x0, ec0, g0⟩ := openC_law14_World (t := 24) (by kernel_rfl) (by kernel_rfl) hf0
  subst ec0
  obtain ⟨s1, b1, rfl, r1, g1, m1, u1⟩ := open_arr (e := 51) (sz := 7) S_law14_Op.cells (fun z => G_law14_Op W z) (fun _ => rfl) (by decide) (by kernel_rfl) (by kernel_rfl) (fun _ _ _ hf => openC_law14_Op (t := 51) (by kernel_rfl) (by kernel_rfl) hf) (hval 1 49 v1 rfl rfl) t1
  have walk := s_law14_DeriveWeaker.ok (x0, s1) (fun r h' => r = true ∧ Keeps (heapH W) h') (heapH W) (t_DeriveWeaker er g0.2.2.2.2.choose_spec.1 (fun z hz => goodW_of (g0.2.2.2.2.choose_spec.2.1 z hz).1 (g0.2.2.2.2.choose_spec.2.1 z hz).2) r1 (Nat.le_trans (r1.len ▸ r1.cap) m1) (K := fun r h' => r = true ∧ Keeps (heapH W) h') fun h' k => ⟨rfl, k⟩)
  refine (calls_law (walk.mono (fun v h' => fun ⟨r, e, er, k⟩ => ⟨by rw [e, er]; rfl, k⟩) fun _ _ k => k)).mono fun e W' => fun ⟨he, hb⟩ => ?_
  subst he
  exact ⟨_, rfl, post_law (tb := 4) laid (by kernel_rfl) rfl (by kernel_rfl) rfl hW' ⟨rfl, rfl, rfl⟩ hb⟩
theorem deriveWeaker_holds : Rows.DeriveWeakerSaid :=
  OpenClaim.holds_of_wide 4 Tryd.f4 rfl rfl rfl rfl rfl rfl rfl ⟨rfl, rfl, rfl, rfl, rfl⟩ rfl rfl rfl rfl rfl (by kernel_rfl) Tryd.func4 (by kernel_rfl)
    (of_decide_eq_true (by kernel_rfl)) (by unfold Func.isWrapper; rw [if_neg (of_decide_eq_false (by kernel_rfl))]; exact ⟨rfl, rfl⟩)
    (fun os started H enc _ => deriveWeaker_lifted os started H enc)
end Go.Proofs.YtdleanjofhghnaaDoor.K
namespace Go.Proofs.YtdleanjofhghnaaDoor.K
open Go
theorem deriveWeaker_card : Rows.DeriveWeakerCardSaid :=
  Claim7.holds_tied_plain_at .later [] [.handle] true (true, "f045fa5fda008a9b7d21015d465c8aa5c38e8d7cb143c446c550db0e6603a4b2") true
    deriveWeaker_holds (fun _ h => by cases h) (by kernel_rfl) (fun _ h => by cases h) deriveWeaker_row_tie rfl ⟨rfl, rfl⟩ (by kernel_rfl) rfl
    (fun f fn hf hfn => by
      obtain rfl : f = 4 := Option.some.inj ((show Tryd.prog.funcNamed "sesame/sesamelaw14.DeriveWeaker" = some 4 by kernel_rfl).symm.trans hf) |>.symm
      obtain rfl : fn = Tryd.f4 := (Option.some.inj (Tryd.func4.symm.trans hfn)).symm
      refine ⟨by kernel_rfl, fun j t ht => ?_⟩
      have hp : t ∈ [24, 49] := by
        have hm : t ∈ Tryd.f4.params.toList := Array.mem_toList_iff.2 (Array.mem_of_getElem? ht)
        exact hm
      simp only [List.mem_cons, List.not_mem_nil, or_false] at hp
      rcases hp with rfl | rfl
      · exact (show Tryd.prog.wantsStandIn 24 = false by kernel_rfl)
      · exact (show Tryd.prog.wantsStandIn 49 = false by kernel_rfl)
      )
    (by kernel_rfl)
end Go.Proofs.YtdleanjofhghnaaDoor.K
