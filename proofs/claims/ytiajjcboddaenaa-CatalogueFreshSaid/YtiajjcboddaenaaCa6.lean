/- Catalogues in memory. -/
import Derived.Test.YtiajjcboddaenaaCp1
import Derived.Test.YtiajjcboddaenaaQu0
import Derived.Test.YtiajjcboddaenaaFcatalogue
namespace Go.Proofs.Ytiajjcboddaenaa.K
open Go
theorem keyN {t : TypeId} (hu : Try.prog.underlying t = some (.int .i64)) : KeyEq (eqV Try.prog 40 t) (Value.int .i64) := fun a b => by
  show eqV Try.prog (39 + 1) t _ _ = _
  rw [eqV.eq_2, hu]
  rfl
theorem keyNi : KeyEq (eqV Try.prog 40 3) (Value.int .i64) := keyN (by kernel_rfl)
structure CL where
  tp : Nat
  ts : Sl
  kp : Nat
  ks : Sl
  F : Nat → Prop
  tk : Sl
  us : Sl
  rb : Nat
  cb : Nat
def CL.obj (L : CL) : S_catalogue_Catalogue := ⟨⟨some ⟨L.tp, 0, none⟩, some ⟨L.kp, 0, none⟩⟩, L.tk, L.us, some L.rb, some L.cb⟩
abbrev cTok := S_api_Token.cells
theorem tok_len : ∀ x, (cTok x).length = 5 := fun _ => rfl
theorem tok_plain : ∀ x, (cTok x).all plainVal = true := fun _ => rfl
theorem cap_len : ∀ x, (S_api_Cap.cells x).length = 3 := fun _ => rfl
theorem cap_plain : ∀ x, (S_api_Cap.cells x).all plainVal = true := fun _ => rfl
theorem cb_plain : ∀ x : Bool, (cBool x).all plainVal = true := fun _ => rfl
/-- A catalogue's parts. -/
structure CatRaw (h : H) (p : Nat) (L : CL) (most knob : Int) (l : List (S_api_Cap × Int)) (ns : List Nd) (ts : List S_api_Token) (us : List Bool) (lr lc : List (Int × Int)) : Prop where
  cell : h p = some (.cells (S_catalogue_Catalogue.cells L.obj).toArray N_catalogue_Catalogue (0, 0))
  tab : Tab h L.tp L.ts most knob l
  tree : Tree h L.kp L.ks L.F ns
  tok : Buf cTok 5 N_api_Token h L.tk ts
  use : Buf cBool 1 4 h L.us us
  roots : MapOf (Value.int .i64) (Value.int .i64) h L.rb lr
  count : MapOf (Value.int .i64) (Value.int .i64) h L.cb lc
  ne : L.rb ≠ L.cb
def comp (p : Nat) (L : CL) : Nat → Nat → Prop
  | 0, c => c = p
  | 1, c => c = L.tp ∨ L.ts.foot c
  | 2, c => L.F c
  | 3, c => L.tk.foot c
  | 4, c => L.us.foot c
  | 5, c => c = L.rb
  | 6, c => c = L.cb
  | _, _ => False
def CFoot (p : Nat) (L : CL) (c : Nat) : Prop := ∃ i, i < 7 ∧ comp p L i c
def ctys : Nat → List TypeId
  | 0 => [N_catalogue_Catalogue]
  | 1 => [N_slots_Table_int, N_slots_place_int]
  | 2 => [N_kin_Tree, N_kin_node, N_int]
  | 3 => [N_api_Token]
  | 4 => [4]
  | _ => []
section
variable {h : H} {p : Nat} {L : CL} {most knob : Int} {l : List (S_api_Cap × Int)} {ns : List Nd} {ts : List S_api_Token} {us : List Bool} {lr lc : List (Int × Int)}
theorem CatRaw.kind (x : CatRaw h p L most knob l ns ts us lr lc) {i c : Nat} (hi : i < 5) (hc : comp p L i c) : ∃ e, e ∈ ctys i ∧ Typed h e c := by
  match i, hi, hc with
  | 0, _, hc => exact ⟨_, List.mem_singleton_self _, by cases hc; exact Typed.of x.cell⟩
  | 1, _, hc =>
    rcases x.tab.typed hc with q | q
    · exact ⟨_, List.mem_cons_self .., q⟩
    · exact ⟨_, List.mem_cons_of_mem _ (List.mem_cons_self ..), q⟩
  | 2, _, hc =>
    rcases x.tree.typed hc with q | q | q
    · exact ⟨_, List.mem_cons_self .., q⟩
    · exact ⟨_, List.mem_cons_of_mem _ (List.mem_cons_self ..), q⟩
    · exact ⟨_, List.mem_cons_of_mem _ (List.mem_cons_of_mem _ (List.mem_cons_self ..)), q⟩
  | 3, _, hc => exact ⟨_, List.mem_singleton_self _, x.tok.typed hc⟩
  | 4, _, hc => exact ⟨_, List.mem_singleton_self _, x.use.typed hc⟩
theorem ctys_apart : ∀ i, i < 5 → ∀ j, j < 5 → i ≠ j → ∀ e ∈ ctys i, ∀ e' ∈ ctys j, (e : Nat) ≠ e' := by decide
theorem CatRaw.excl (x : CatRaw h p L most knob l ns ts us lr lc) {i j c : Nat} (hi : comp p L i c) (hj : comp p L j c) : i = j := by
  have bnd : ∀ {i}, comp p L i c → i < 7 := fun {i} q => by
    match i, q with
    | 0, _ => omega
    | 1, _ => omega
    | 2, _ => omega
    | 3, _ => omega
    | 4, _ => omega
    | 5, _ => omega
    | 6, _ => omega
    | _ + 7, q => exact q.elim
  have b1 := bnd hi
  have b2 := bnd hj
  have low : ∀ {i j}, i < 5 → 5 ≤ j → j < 7 → comp p L i c → comp p L j c → False := fun {i j} a b b' q r => by
    obtain ⟨e, _, t⟩ := x.kind a q
    rcases (by omega : j = 5 ∨ j = 6) with rfl | rfl
    · exact x.roots.untyped t r
    · exact x.count.untyped t r
  rcases Nat.lt_or_ge i 5 with q1 | q1
  · rcases Nat.lt_or_ge j 5 with q2 | q2
    · rcases Nat.decEq i j with n | n
      · obtain ⟨e, he, t⟩ := x.kind q1 hi
        obtain ⟨e', he', t'⟩ := x.kind q2 hj
        exact absurd rfl (t.ne t' (ctys_apart i q1 j q2 n e he e' he'))
      · exact n
    · exact (low q1 q2 b2 hi hj).elim
  · rcases Nat.lt_or_ge j 5 with q2 | q2
    · exact (low q2 q1 b1 hj hi).elim
    · rcases (by omega : i = 5 ∨ i = 6) with rfl | rfl <;> rcases (by omega : j = 5 ∨ j = 6) with rfl | rfl
      · rfl
      · exact absurd (hi.symm.trans hj) x.ne
      · exact absurd (hj.symm.trans hi) x.ne
      · rfl
theorem CatRaw.keep {h' : H} (x : CatRaw h p L most knob l ns ts us lr lc) (k : Keeps h h') : CatRaw h' p L most knob l ns ts us lr lc := ⟨k _ _ x.cell, x.tab.keep k, x.tree.keep k, x.tok.keep k, x.use.keep k, x.roots.keep k, x.count.keep k, x.ne⟩
theorem CatRaw.but {h' : H} {E : Nat → Prop} (x : CatRaw h p L most knob l ns ts us lr lc) (k : But E h h') (f : ∀ c, E c → ¬ CFoot p L c) : CatRaw h' p L most knob l ns ts us lr lc :=
  ⟨k _ _ x.cell fun q => f _ q ⟨0, by omega, rfl⟩, x.tab.but k fun c q => ⟨fun r => f _ q ⟨1, by omega, .inl r⟩, fun r => f _ q ⟨1, by omega, .inr r⟩⟩, x.tree.but k fun c q r => f _ q ⟨2, by omega, r⟩, x.tok.but k fun a ha q => f _ q ⟨3, by omega, ⟨a, ha, rfl⟩⟩, x.use.but k fun a ha q => f _ q ⟨4, by omega, ⟨a, ha, rfl⟩⟩, x.roots.but k fun q => f _ q ⟨5, by omega, rfl⟩, x.count.but k fun q => f _ q ⟨6, by omega, rfl⟩, x.ne⟩
theorem CatRaw.has (x : CatRaw h p L most knob l ns ts us lr lc) {c : Nat} (f : CFoot p L c) : h c ≠ none := by
  obtain ⟨i, hi, hc⟩ := f
  rcases Nat.lt_or_ge i 5 with q | q
  · obtain ⟨e, _, t⟩ := x.kind q hc
    exact t.has
  · rcases (by omega : i = 5 ∨ i = 6) with rfl | rfl
    · obtain ⟨es, cl, e, _⟩ := x.roots.ex
      cases hc; rw [e]; exact fun q => by cases q
    · obtain ⟨es, cl, e, _⟩ := x.count.ex
      cases hc; rw [e]; exact fun q => by cases q
section
variable {h' : H} {E : Nat → Prop}
theorem CatRaw.setTab (x : CatRaw h p L most knob l ns ts us lr lc) (k : But E h h') (hE : ∀ c, E c → comp p L 1 c) {l' : List (S_api_Cap × Int)} (t : Tab h' L.tp L.ts most knob l') : CatRaw h' p L most knob l' ns ts us lr lc := by
  have no : ∀ {j c}, j ≠ 1 → comp p L j c → ¬ E c := fun hj hc e => hj (x.excl hc (hE _ e))
  exact ⟨k _ _ x.cell (no (j := 0) (by decide) rfl), t, x.tree.but k fun c q r => no (j := 2) (by decide) r q, x.tok.but k fun a ha => no (j := 3) (by decide) ⟨a, ha, rfl⟩, x.use.but k fun a ha => no (j := 4) (by decide) ⟨a, ha, rfl⟩, x.roots.but k (no (j := 5) (by decide) rfl), x.count.but k (no (j := 6) (by decide) rfl), x.ne⟩
def CL.withF (L : CL) (F : Nat → Prop) : CL := { L with F := F }
theorem CatRaw.setTree (x : CatRaw h p L most knob l ns ts us lr lc) (k : But E h h') (hE : ∀ c, E c → comp p L 2 c) {ns' : List Nd} {F' : Nat → Prop} (t : Tree h' L.kp L.ks F' ns') : CatRaw h' p (L.withF F') most knob l ns' ts us lr lc := by
  have no : ∀ {j c}, j ≠ 2 → comp p L j c → ¬ E c := fun hj hc e => hj (x.excl hc (hE _ e))
  exact ⟨k _ _ x.cell (no (j := 0) (by decide) rfl), x.tab.but k fun c q => ⟨fun r => no (j := 1) (by decide) (.inl r) q, fun r => no (j := 1) (by decide) (.inr r) q⟩, t, x.tok.but k fun a ha => no (j := 3) (by decide) ⟨a, ha, rfl⟩, x.use.but k fun a ha => no (j := 4) (by decide) ⟨a, ha, rfl⟩, x.roots.but k (no (j := 5) (by decide) rfl), x.count.but k (no (j := 6) (by decide) rfl), x.ne⟩
theorem CatRaw.setTok (x : CatRaw h p L most knob l ns ts us lr lc) (k : But E h h') (hE : ∀ c, E c → comp p L 3 c) {ts' : List S_api_Token} (t : Buf cTok 5 N_api_Token h' L.tk ts') : CatRaw h' p L most knob l ns ts' us lr lc := by
  have no : ∀ {j c}, j ≠ 3 → comp p L j c → ¬ E c := fun hj hc e => hj (x.excl hc (hE _ e))
  exact ⟨k _ _ x.cell (no (j := 0) (by decide) rfl), x.tab.but k fun c q => ⟨fun r => no (j := 1) (by decide) (.inl r) q, fun r => no (j := 1) (by decide) (.inr r) q⟩, x.tree.but k fun c q r => no (j := 2) (by decide) r q, t, x.use.but k fun a ha => no (j := 4) (by decide) ⟨a, ha, rfl⟩, x.roots.but k (no (j := 5) (by decide) rfl), x.count.but k (no (j := 6) (by decide) rfl), x.ne⟩
theorem CatRaw.setUse (x : CatRaw h p L most knob l ns ts us lr lc) (k : But E h h') (hE : ∀ c, E c → comp p L 4 c) {us' : List Bool} (t : Buf cBool 1 4 h' L.us us') : CatRaw h' p L most knob l ns ts us' lr lc := by
  have no : ∀ {j c}, j ≠ 4 → comp p L j c → ¬ E c := fun hj hc e => hj (x.excl hc (hE _ e))
  exact ⟨k _ _ x.cell (no (j := 0) (by decide) rfl), x.tab.but k fun c q => ⟨fun r => no (j := 1) (by decide) (.inl r) q, fun r => no (j := 1) (by decide) (.inr r) q⟩, x.tree.but k fun c q r => no (j := 2) (by decide) r q, x.tok.but k fun a ha => no (j := 3) (by decide) ⟨a, ha, rfl⟩, t, x.roots.but k (no (j := 5) (by decide) rfl), x.count.but k (no (j := 6) (by decide) rfl), x.ne⟩
theorem CatRaw.setRoots (x : CatRaw h p L most knob l ns ts us lr lc) (k : But E h h') (hE : ∀ c, E c → comp p L 5 c) {lr' : List (Int × Int)} (t : MapOf (Value.int .i64) (Value.int .i64) h' L.rb lr') : CatRaw h' p L most knob l ns ts us lr' lc := by
  have no : ∀ {j c}, j ≠ 5 → comp p L j c → ¬ E c := fun hj hc e => hj (x.excl hc (hE _ e))
  exact ⟨k _ _ x.cell (no (j := 0) (by decide) rfl), x.tab.but k fun c q => ⟨fun r => no (j := 1) (by decide) (.inl r) q, fun r => no (j := 1) (by decide) (.inr r) q⟩, x.tree.but k fun c q r => no (j := 2) (by decide) r q, x.tok.but k fun a ha => no (j := 3) (by decide) ⟨a, ha, rfl⟩, x.use.but k fun a ha => no (j := 4) (by decide) ⟨a, ha, rfl⟩, t, x.count.but k (no (j := 6) (by decide) rfl), x.ne⟩
theorem CatRaw.setCount (x : CatRaw h p L most knob l ns ts us lr lc) (k : But E h h') (hE : ∀ c, E c → comp p L 6 c) {lc' : List (Int × Int)} (t : MapOf (Value.int .i64) (Value.int .i64) h' L.cb lc') : CatRaw h' p L most knob l ns ts us lr lc' := by
  have no : ∀ {j c}, j ≠ 6 → comp p L j c → ¬ E c := fun hj hc e => hj (x.excl hc (hE _ e))
  exact ⟨k _ _ x.cell (no (j := 0) (by decide) rfl), x.tab.but k fun c q => ⟨fun r => no (j := 1) (by decide) (.inl r) q, fun r => no (j := 1) (by decide) (.inr r) q⟩, x.tree.but k fun c q r => no (j := 2) (by decide) r q, x.tok.but k fun a ha => no (j := 3) (by decide) ⟨a, ha, rfl⟩, x.use.but k fun a ha => no (j := 4) (by decide) ⟨a, ha, rfl⟩, x.roots.but k (no (j := 5) (by decide) rfl), t, x.ne⟩
end
/-- A part's change is the catalogue's. -/
theorem KChg.part {h' : H} {E : Nat → Prop} {i : Nat} (k : But E h h') (hi : i < 7) (hE : ∀ c, E c → comp p L i c) (d : ∀ c, h' c = none → h c = none) : KChg (CFoot p L) (CFoot p L) h h' := ⟨k.mono fun c e => ⟨i, hi, hE c e⟩, fun _ f => .inl f, d⟩
theorem comp_withF {F' : Nat → Prop} {i c : Nat} (hi : i ≠ 2) : comp p (L.withF F') i c ↔ comp p L i c := by
  match i, hi with
  | 0, _ => exact Iff.rfl
  | 1, _ => exact Iff.rfl
  | 3, _ => exact Iff.rfl
  | 4, _ => exact Iff.rfl
  | 5, _ => exact Iff.rfl
  | 6, _ => exact Iff.rfl
  | _ + 7, _ => exact Iff.rfl
theorem KChg.tree {h' : H} {F' : Nat → Prop} (k : KChg L.F F' h h') : KChg (CFoot p L) (CFoot p (L.withF F')) h h' := by
  refine ⟨k.but.mono fun c e => ⟨2, by omega, e⟩, fun c f => ?_, k.dom⟩
  obtain ⟨i, hi, hc⟩ := f
  by_cases q : i = 2
  · subst q
    exact (k.foot c hc).imp (fun r => ⟨2, by omega, r⟩) id
  · exact .inl ⟨i, hi, (comp_withF q).1 hc⟩
theorem CatRaw.f (x : CatRaw h p L most knob l ns ts us lr lc) {n : Nat} {l1 l2 l3 : List Value} (e : S_catalogue_Catalogue.cells L.obj = l1 ++ l2 ++ l3) (hn : l1.length = n) : At h ((⟨p, 0, none⟩ : Addr).add n) l2 := by
  rw [pt_add]
  exact At.own (t := N_catalogue_Catalogue) (by rw [← e]; exact x.cell) hn
theorem CatRaw.fTab (x : CatRaw h p L most knob l ns ts us lr lc) : At h (((⟨p, 0, none⟩ : Addr).add 0).add 0) (cPtr (some ⟨L.tp, 0, none⟩)) := by
  rw [pt_add]; exact x.f (l1 := []) (l3 := (S_catalogue_Catalogue.cells L.obj).drop 1) rfl rfl
theorem CatRaw.fTree (x : CatRaw h p L most knob l ns ts us lr lc) : At h (((⟨p, 0, none⟩ : Addr).add 0).add 1) (cPtr (some ⟨L.kp, 0, none⟩)) := by
  rw [pt_add]; exact x.f (l1 := (S_catalogue_Catalogue.cells L.obj).take 1) (l3 := (S_catalogue_Catalogue.cells L.obj).drop 2) rfl rfl
theorem CatRaw.fTok (x : CatRaw h p L most knob l ns ts us lr lc) : At h ((⟨p, 0, none⟩ : Addr).add 2) (cSl L.tk) := x.f (l1 := (S_catalogue_Catalogue.cells L.obj).take 2) (l3 := (S_catalogue_Catalogue.cells L.obj).drop 3) rfl rfl
theorem CatRaw.fUse (x : CatRaw h p L most knob l ns ts us lr lc) : At h ((⟨p, 0, none⟩ : Addr).add 3) (cSl L.us) := x.f (l1 := (S_catalogue_Catalogue.cells L.obj).take 3) (l3 := (S_catalogue_Catalogue.cells L.obj).drop 4) rfl rfl
theorem CatRaw.fRoots (x : CatRaw h p L most knob l ns ts us lr lc) : At h ((⟨p, 0, none⟩ : Addr).add 4) (cMap (some L.rb)) := x.f (l1 := (S_catalogue_Catalogue.cells L.obj).take 4) (l3 := (S_catalogue_Catalogue.cells L.obj).drop 5) rfl rfl
theorem CatRaw.fCount (x : CatRaw h p L most knob l ns ts us lr lc) : At h ((⟨p, 0, none⟩ : Addr).add 5) (cMap (some L.cb)) := x.f (l1 := (S_catalogue_Catalogue.cells L.obj).take 5) (l3 := []) rfl rfl
/-- The first place that is free. -/
def freeU (us : List Bool) : Option Nat := us.findIdx? fun b => !b
def freeI (us : List Bool) : Int := match freeU us with
  | some n => n
  | none => -1
theorem t_free (x : CatRaw h p L most knob l ns ts us lr lc) (hl : us.length ≤ 2 ^ 40) {K : Int → H → Prop} (y : K (freeI us) h) : m_catalogue_Catalogue_free (some ⟨p, 0, none⟩) K h := by
  unfold m_catalogue_Catalogue_free
  refine w_deref (w_load x.fUse ?_)
  have hlen := x.use.len
  refine w_for us.length (fun i (z : Int) h' => z = (i : Int) ∧ h = h' ∧ ∀ j, j < i → us[j]? = some true) ?_ ⟨rfl, rfl, fun j hj => absurd hj (Nat.not_lt_zero _)⟩
  rintro rec i z h' hi ⟨rfl, rfl, hall⟩ more
  refine w_if' (fun c => ?_) fun c => ?_
  · have c : (i : Int) < (L.us.len : Int) := c
    have hil : i < us.length := by omega
    refine w_get cb_len x.use.arr (List.getElem?_eq_getElem hil) rfl (v' := us[i]) rfl (w_if (fun e => ?_) fun e => ?_)
    · have : freeU us = some i := by
        unfold freeU
        rw [List.findIdx?_eq_some_iff_getElem]
        refine ⟨hil, e, fun j hj => ?_⟩
        have := hall j hj
        rw [List.getElem?_eq_getElem (by omega)] at this
        simp only [Option.some.injEq] at this
        simp [this]
      unfold freeI at y
      rw [this] at y
      exact y
    · refine more _ _ hil ⟨ia1 i (by omega), rfl, fun j hj => ?_⟩
      by_cases q : j = i
      · subst q; rw [List.getElem?_eq_getElem hil]; simpa using e
      · exact hall j (by omega)
  · have c : ¬ (i : Int) < (L.us.len : Int) := c
    have : freeU us = none := by
      unfold freeU
      rw [List.findIdx?_eq_none_iff]
      intro b hb
      obtain ⟨j, hj⟩ := List.mem_iff_getElem?.1 hb
      have := hall j (by have := lt_of_get hj; omega)
      rw [hj] at this
      cases this; rfl
    unfold freeI at y
    rw [this] at y
    exact y
/-- A token is put into a free place. -/
theorem t_Cput (x : CatRaw h p L most knob l ns ts us lr lc) {n : Nat} {t : S_api_Token} (no : alook l t.Cap = none) (room : (l.length : Int) < most) (hn : n < ts.length) (hu : n < us.length) (hc : (alook lc t.Cap.Obj).getD 0 < 2 ^ 40 ∧ 0 ≤ (alook lc t.Cap.Obj).getD 0) {K : Unit → H → Prop}
    (y : ∀ h', CatRaw h' p L most knob (l ++ [(t.Cap, (n : Int))]) ns (ts.set n t) (us.set n true) lr (aset lc t.Cap.Obj ((alook lc t.Cap.Obj).getD 0 + 1)) → KChg (CFoot p L) (CFoot p L) h h' → K () h') : m_catalogue_Catalogue_put (some ⟨p, 0, none⟩) (n : Int) t K h := by
  unfold m_catalogue_Catalogue_put
  refine w_deref (w_load x.fTab (t_TPut x.tab (fun q => absurd no q) (fun _ q => by omega) fun _ _ h1 t1 c1 => ?_))
  have x1 := x.setTab c1.but (fun _ e => e) t1
  have k1 : KChg (CFoot p L) (CFoot p L) h h1 := .part (i := 1) c1.but (by omega) (fun _ e => e) c1.dom
  refine w_deref (w_deref (w_load x1.fTok (w_load x1.fUse ?_)))
  refine w_put tok_len x1.tok hn rfl t rfl fun h2 b2 e2 d2 => ?_
  have x2 := x1.setTok e2 (fun _ e => e) b2
  have k2 := k1.trans (.part (i := 3) e2 (by omega) (fun _ e => e) d2)
  refine w_put cb_len x2.use hu rfl true rfl fun h3 b3 e3 d3 => ?_
  have x3 := x2.setUse e3 (fun _ e => e) b3
  have k3 := k2.trans (.part (i := 4) e3 (by omega) (fun _ e => e) d3)
  refine w_deref (w_load x3.fCount (w_lookup keyNi x3.count ?_))
  rw [iAdd_eq (by omega) (by omega)]
  refine w_mapSet keyNi x3.count rfl rfl fun h4 m4 e4 d4 => ?_
  exact y h4 (x3.setCount e4 (fun _ e => e) m4) (k3.trans (.part (i := 6) e4 (by omega) (fun _ e => e) d4))
end
/-- What the maps and lists of a catalogue say of its entries. -/
structure CRel (es : List En) (l : List (S_api_Cap × Int)) (ts : List S_api_Token) (lr lc : List (Int × Int)) : Prop where
  tl : ts.length = es.length
  tok : ∀ i t ks, Has es i t ks → ts[i]? = some t
  caps : l.Perm (capsG 0 es)
  oc : Once lc
  count : ∀ o, alook lc o = if cnt es o = 0 then none else some (cnt es o : Int)
  or : Once lr
  roots : ∀ o r, alook lr o = some r ↔ ∃ (i : Nat) (t : S_api_Token) (ks : List Int), r = i ∧ Has es i t ks ∧ t.Cap.Obj = o ∧ t.Parent = -1
/-- A catalogue that holds 'es'; 'G' are its blocks. -/
structure Cat (h : H) (p : Nat) (knob : Int) (G : Nat → Prop) (es : List En) : Prop where
  ex : ∃ L l ts lr lc, CatRaw h p L es.length knob l (nds es) ts (es.map Option.isSome) lr lc ∧ (∀ c, G c ↔ CFoot p L c) ∧ CRel es l ts lr lc
  wf : CWF es
section
variable {h : H} {p : Nat} {knob : Int} {G : Nat → Prop} {es : List En}
theorem Cat.keep {h' : H} (x : Cat h p knob G es) (k : Keeps h h') : Cat h' p knob G es := by
  obtain ⟨L, l, ts, lr, lc, a, b, c⟩ := x.ex
  exact ⟨⟨L, l, ts, lr, lc, a.keep k, b, c⟩, x.wf⟩
theorem Cat.but {h' : H} {E : Nat → Prop} (x : Cat h p knob G es) (k : But E h h') (f : ∀ c, E c → ¬ G c) : Cat h' p knob G es := by
  obtain ⟨L, l, ts, lr, lc, a, b, c⟩ := x.ex
  exact ⟨⟨L, l, ts, lr, lc, a.but k fun c e q => f c e ((b c).2 q), b, c⟩, x.wf⟩
theorem Cat.has (x : Cat h p knob G es) {c : Nat} (f : G c) : h c ≠ none := by
  obtain ⟨L, l, ts, lr, lc, a, b, _⟩ := x.ex
  exact a.has ((b c).1 f)
end
end Go.Proofs.Ytiajjcboddaenaa.K
