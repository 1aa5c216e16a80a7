/- Catalogues: made, asked, roots and children. -/
import Derived.Test.YtiajjcboddaenaaCa6
namespace Go.Proofs.Ytiajjcboddaenaa.K
open Go
def freeE (es : List En) : Option Nat := freeU (es.map Option.isSome)
theorem freeE_some {es : List En} {n : Nat} (h : freeE es = some n) : es[n]? = some none := by
  unfold freeE freeU at h
  rw [List.findIdx?_eq_some_iff_getElem] at h
  obtain ⟨hn, e, _⟩ := h
  rw [List.length_map] at hn
  rw [List.getElem?_eq_getElem hn]
  rw [List.getElem_map] at e
  cases q : es[n] with
  | none => rfl
  | some v => rw [q] at e; cases e
theorem freeI_eq (es : List En) : freeI (es.map Option.isSome) = match freeE es with
  | some n => (n : Int)
  | none => -1 := rfl
def isCap (c : S_api_Cap) : En → Bool
  | some (t, _) => decide (t.Cap = c)
  | none => false
def findE (es : List En) (c : S_api_Cap) : Option Nat := es.findIdx? (isCap c)
theorem findE_has {es : List En} {c : S_api_Cap} {n : Nat} (h : findE es c = some n) : ∃ (t : S_api_Token) (ks : List Int), Has es n t ks ∧ t.Cap = c := by
  unfold findE at h
  rw [List.findIdx?_eq_some_iff_getElem] at h
  obtain ⟨hn, e, _⟩ := h
  cases q : es[n] with
  | none => rw [q] at e; cases e
  | some v =>
    obtain ⟨t, ks⟩ := v
    rw [q] at e
    exact ⟨t, ks, by unfold Has; rw [List.getElem?_eq_getElem hn, q], of_decide_eq_true e⟩
theorem findE_none {es : List En} {c : S_api_Cap} (h : findE es c = none) {i t ks} (x : Has es i t ks) : t.Cap ≠ c := fun e => by
  unfold findE at h
  rw [List.findIdx?_eq_none_iff] at h
  have := h _ (List.mem_of_getElem? x)
  simp [isCap, e] at this
theorem CWF.find {es : List En} (w : CWF es) {i : Nat} {t ks} (x : Has es i t ks) : findE es t.Cap = some i := by
  cases h : findE es t.Cap with
  | none => exact absurd rfl (findE_none h x)
  | some n =>
    obtain ⟨u, us, hu, e⟩ := findE_has h
    rw [w.cap _ _ _ _ _ _ hu x e]
theorem capsG_le : ∀ (es : List En) (k : Nat), (capsG k es).length ≤ es.length := by
  intro es
  induction es with
  | nil => exact fun _ => Nat.le_refl _
  | cons e r ih =>
    intro k
    have := ih (k + 1)
    cases e with
    | none => rw [capsG]; simp only [List.length_cons]; omega
    | some p => obtain ⟨u, us⟩ := p; rw [capsG]; simp only [List.length_cons]; omega
theorem CRel.look {es : List En} {l ts lr lc} (x : CRel es l ts lr lc) (_ : CWF es) (o : Once l) (c : S_api_Cap) : alook l c = (findE es c).map fun n : Nat => (n : Int) := by
  cases h : findE es c with
  | some n =>
    obtain ⟨t, ks, a, b⟩ := findE_has h
    exact o.look (x.caps.symm.subset (capsG_mem.2 ⟨n, t, ks, a, b, by simp⟩))
  | none =>
    cases e : alook l c with
    | none => rfl
    | some v =>
      obtain ⟨i, t, ks, a, b, _⟩ := capsG_mem.1 (x.caps.subset (alook_mem e))
      exact absurd b (findE_none h a)
theorem cnt_cons {es es' : List En} {c : S_api_Cap} {v : Int} (h : (capsG 0 es').Perm ((c, v) :: capsG 0 es)) (o : Int) : cnt es' o = cnt es o + if c.Obj = o then 1 else 0 := by
  unfold cnt
  rw [h.countP_eq, List.countP_cons]
  simp
theorem capsG_child {es : List En} {q n : Nat} {t : S_api_Token} {u us} (hq : Has es q u us) (hn : es[n]? = some none) : (capsG 0 (childE es q n t)).Perm ((t.Cap, (n : Int)) :: capsG 0 es) := by
  have := capsG_new (t := t) (ks := []) (k := 0) hn
  rw [Nat.zero_add] at this
  refine .trans (.of_eq (capsG_congr ?_)) this
  apply List.ext_getElem?
  intro i
  have hne : n ≠ q := fun e => by subst e; unfold Has at hq; rw [hn] at hq; cases hq
  unfold childE
  rw [hq]
  rw [List.getElem?_map, List.getElem?_map, List.getElem?_set]
  by_cases e : q = i
  · subst e
    rw [if_pos rfl, List.length_set, if_pos hq.lt, List.getElem?_set, if_neg hne, hq]; rfl
  · rw [if_neg e]
theorem isSome_root {es : List En} {n : Nat} {t : S_api_Token} : (rootE es n t).map Option.isSome = (es.map Option.isSome).set n true := by
  unfold rootE; rw [List.map_set]; rfl
theorem isSome_child {es : List En} {q n : Nat} {t : S_api_Token} {u us} (hq : Has es q u us) (hn : es[n]? = some none) : (childE es q n t).map Option.isSome = (es.map Option.isSome).set n true := by
  unfold childE
  rw [hq]
  have hne : n ≠ q := fun e => by subst e; unfold Has at hq; rw [hn] at hq; cases hq
  apply List.ext_getElem?
  intro i
  rw [List.map_set, List.map_set, List.getElem?_set]
  by_cases e : q = i
  · subst e
    rw [if_pos rfl, List.length_set, List.length_map, if_pos hq.lt, List.getElem?_set, if_neg hne, List.getElem?_map, hq]; rfl
  · rw [if_neg e]; rfl
def tok0 : S_api_Token := ⟨⟨0, ⟨0, 0⟩⟩, 0, 0⟩
def atE (es : List En) (i : Int) : En := if 0 ≤ i then (es[i.toNat]?).getD none else none
theorem atE_nat (es : List En) (i : Nat) : atE es (i : Int) = (es[i]?).getD none := by
  unfold atE; rw [if_pos (by omega), Int.toNat_natCast]
theorem atE_has {es : List En} {i : Int} {t ks} : atE es i = some (t, ks) ↔ ∃ n : Nat, i = n ∧ Has es n t ks := by
  constructor
  · intro h
    unfold atE at h
    split at h
    · rename_i h0
      refine ⟨i.toNat, by omega, ?_⟩
      unfold Has
      cases e : es[i.toNat]? with
      | none => rw [e] at h; cases h
      | some o => rw [e] at h; exact congrArg some h
    · cases h
  · rintro ⟨n, rfl, h⟩
    rw [atE_nat, h]; rfl
def atOut (es : List En) (i : Int) : S_api_Token × Bool := match atE es i with
  | some (t, _) => (t, true)
  | none => (tok0, false)
def rootOut (es : List En) (c : S_api_Cap) (r : Int) : (Int × Int) × List En :=
  if 1 ≤ r ∧ r ≤ 31 then
    if 0 < cnt es c.Obj then ((0, 19), es) else
    match freeE es with
    | none => ((0, 10), es)
    | some n => (((n : Int), 0), rootE es n ⟨c, r, -1⟩)
  else ((0, 4), es)
def childOut (es : List En) (q : Int) (c : S_api_Cap) (r : Int) : (Int × Int) × List En := match atE es q with
  | none => ((0, 20), es)
  | some (t, _) =>
    if t.Cap.Obj = c.Obj then
      if partOf r t.Rights = true then
        if (findE es c).isSome then ((0, 19), es) else
        match freeE es with
        | none => ((0, 10), es)
        | some n => (((n : Int), 0), childE es q.toNat n ⟨c, r, q⟩)
      else ((0, 4), es)
    else ((0, 3), es)
theorem CWF.rootOut {es : List En} (w : CWF es) (c : S_api_Cap) (r : Int) : CWF (rootOut es c r).2 := by
  unfold K.rootOut
  split
  · rename_i hr
    split
    · exact w
    · rename_i h0
      split
      · exact w
      · rename_i n hn
        exact w.root (freeE_some hn) hr (by omega)
  · exact w
theorem partOf_r {r u : Int} (h : partOf r u = true) : 1 ≤ r ∧ r ≤ 31 := by
  unfold partOf at h
  rw [Bool.and_eq_true] at h
  exact of_decide_eq_true h.1
theorem CWF.childOut {es : List En} (w : CWF es) (q : Int) (c : S_api_Cap) (r : Int) : CWF (childOut es q c r).2 := by
  unfold K.childOut
  split
  · exact w
  · rename_i t ks hq
    obtain ⟨q, rfl, hq'⟩ := atE_has.1 hq
    split
    · rename_i ho
      split
      · rename_i hp
        split
        · exact w
        · rename_i hf
          split
          · exact w
          · rename_i n hn
            rw [Int.toNat_natCast]
            refine w.child hq' (freeE_some hn) ho hp (partOf_r hp) fun i t ks a => findE_none ?_ a
            cases e : findE es c with
            | none => rfl
            | some v => rw [e] at hf; exact absurd rfl hf
      · exact w
    · exact w
section
variable {h : H} {p : Nat} {knob : Int} {G : Nat → Prop} {es : List En}
theorem t_CAt (x : Cat h p knob G es) {i : Int} {K : S_api_Token × Bool → H → Prop} (y : K (atOut es i) h) : m_catalogue_Catalogue_At (some ⟨p, 0, none⟩) i K h := by
  obtain ⟨L, l, ts, lr, lc, a, b, c⟩ := x.ex
  unfold m_catalogue_Catalogue_At
  have hl := a.use.len
  rw [List.length_map] at hl
  have hw := x.wf.len
  refine w_joinV (decide (i < 0 ∨ (es.length : Int) ≤ i)) (fun j hj => ?_) ?_
  · refine w_if' (fun q => ?_) fun q => w_deref (w_load a.fUse ?_)
    · rw [decide_eq_true (.inl q)] at hj; exact hj
    · have e : decide ((L.us.len : Int) ≤ i) = decide (i < 0 ∨ (es.length : Int) ≤ i) := by rw [decide_eq_decide, hl]; constructor <;> omega
      rw [e]; exact hj
  · by_cases q : i < 0 ∨ (es.length : Int) ≤ i
    · rw [decide_eq_true q]
      refine w_join (w_ifT rfl (w_ifT rfl ?_))
      have e : atE es i = none := by
        unfold atE
        split
        · rw [List.getElem?_eq_none (by omega)]; rfl
        · rfl
      unfold atOut at y
      rw [e] at y
      exact y
    · rw [decide_eq_false q]
      obtain ⟨n, rfl⟩ : ∃ n : Nat, i = n := ⟨i.toNat, by omega⟩
      have hn : n < es.length := by omega
      have hn' : n < (es.map Option.isSome).length := by rw [List.length_map]; exact hn
      have hu : (es.map Option.isSome)[n]? = some (es[n]).isSome := by rw [List.getElem?_map, List.getElem?_eq_getElem hn]; rfl
      refine w_join (w_ifF rfl (w_deref (w_load a.fUse (w_get cb_len a.use.arr hu rfl (v' := (es[n]).isSome) rfl ?_))))
      unfold atOut at y
      rw [atE_nat, List.getElem?_eq_getElem hn] at y
      cases e : es[n] with
      | none =>
        rw [e] at y
        exact w_ifT rfl y
      | some v =>
        obtain ⟨t, ks⟩ := v
        rw [e] at y
        have ht : Has es n t ks := by unfold Has; rw [List.getElem?_eq_getElem hn, e]
        exact w_ifF rfl (w_deref (w_load a.fTok (w_get tok_len a.tok.arr (c.tok n t ks ht) rfl (v' := t) rfl y)))
theorem t_CFind (x : Cat h p knob G es) {c : S_api_Cap} {K : Int × Bool → H → Prop} (y : K (((findE es c).map fun n : Nat => (n : Int)).getD 0, (findE es c).isSome) h) : m_catalogue_Catalogue_Find (some ⟨p, 0, none⟩) c K h := by
  obtain ⟨L, l, ts, lr, lc, a, b, r⟩ := x.ex
  unfold m_catalogue_Catalogue_Find
  refine w_deref (w_load a.fTab (t_TGet a.tab ?_))
  rw [r.look x.wf a.tab.once]
  dsimp only
  rw [Option.isSome_map]
  exact y
theorem t_CCount (x : Cat h p knob G es) {K : Int → H → Prop} (y : K ((capsG 0 es).length : Nat) h) : m_catalogue_Catalogue_Count (some ⟨p, 0, none⟩) K h := by
  obtain ⟨L, l, ts, lr, lc, a, b, r⟩ := x.ex
  unfold m_catalogue_Catalogue_Count
  refine w_deref (w_load a.fTab (t_TLen a.tab ?_))
  rw [r.caps.length_eq]
  exact y
theorem t_CIn (x : Cat h p knob G es) {o : Int} {K : Int → H → Prop} (y : K (cnt es o : Nat) h) : m_catalogue_Catalogue_In (some ⟨p, 0, none⟩) o K h := by
  obtain ⟨L, l, ts, lr, lc, a, b, r⟩ := x.ex
  unfold m_catalogue_Catalogue_In
  refine w_deref (w_load a.fCount (w_lookup keyNi a.count ?_))
  have e : (alook lc o).getD 0 = (cnt es o : Int) := by
    rw [r.count]
    split
    · rename_i h0; rw [h0]; rfl
    · rfl
  rw [e]
  exact y
theorem CRel.cnt0 {l ts lr lc} (r : CRel es l ts lr lc) (o : Int) : (alook lc o).getD 0 = (cnt es o : Int) := by
  rw [r.count]
  split
  · rename_i h0; rw [h0]; rfl
  · rfl
theorem t_CRoot (x : Cat h p knob G es) {c : S_api_Cap} {r : Int} {K : Int × Int → H → Prop} (y : ∀ G' h', Cat h' p knob G' (rootOut es c r).2 → KChg G G' h h' → K (rootOut es c r).1 h') : m_catalogue_Catalogue_Root (some ⟨p, 0, none⟩) c r K h := by
  have wf := x.wf.rootOut c r
  obtain ⟨L, l, ts, lr, lc, a, b, rl⟩ := x.ex
  have hw := x.wf.len
  unfold rootOut at y wf
  unfold m_catalogue_Catalogue_Root
  refine t_free a (by rw [List.length_map]; omega) (w_Valid ?_)
  by_cases hr : 1 ≤ r ∧ r ≤ 31
  · rw [if_pos hr] at y wf
    rw [decide_eq_true hr]
    refine w_ifF rfl (w_deref (w_load a.fCount (w_lookup keyNi a.count ?_)))
    rw [rl.cnt0]
    refine w_if' (fun h0 => ?_) fun h0 => ?_
    · have h0 : 0 < (cnt es c.Obj : Int) := h0
      rw [if_pos (by omega)] at y
      exact y _ _ x (.refl _ _)
    · have h0 : ¬ 0 < (cnt es c.Obj : Int) := h0
      rw [if_neg (by omega)] at y wf
      rw [freeI_eq]
      cases hf : freeE es with
      | none =>
        rw [hf] at y
        exact w_ifT rfl (y _ _ x (.refl _ _))
      | some n =>
        rw [hf] at y wf
        dsimp only at y wf
        have hn := freeE_some hf
        have hlt := lt_of_get hn
        dsimp only
        refine w_ifF (decide_eq_false (by simp)) (w_deref (w_load a.fTree ?_))
        refine t_KRoot a.tree (by rw [nds_len]; exact hlt) ?_ fun h1 F1 t1 c1 => ?_
        · cases q : hasN (nds es) (n : Int) with
          | false => rfl
          | true =>
            obtain ⟨i, t, ks, e, hi⟩ := hasN_nds.1 q
            obtain rfl : n = i := by omega
            unfold Has at hi; rw [hn] at hi; cases hi
        have a1 := a.setTree c1.but (fun _ e => e) t1
        have k1 : KChg (CFoot p L) (CFoot p (L.withF F1)) h h1 := .tree c1
        have no : ∀ {i t ks}, Has es i t ks → t.Cap.Obj ≠ c.Obj := fun h e => by
          have := cnt_pos.2 ⟨_, _, _, h, e⟩
          omega
        have hfn : findE es c = none := by
          cases q : findE es c with
          | none => rfl
          | some v => obtain ⟨t, ks, z, e⟩ := findE_has q; exact absurd (by rw [e]) (no z)
        have hlook : alook l c = none := by rw [rl.look x.wf a.tab.once, hfn]; rfl
        have hnew := capsG_new (t := ⟨c, r, -1⟩) (ks := []) (k := 0) hn
        rw [Nat.zero_add] at hnew
        have hlen := hnew.length_eq
        have hle := capsG_le (es.set n (some (⟨c, r, -1⟩, []))) 0
        rw [List.length_set] at hle
        rw [List.length_cons] at hlen
        have hll := rl.caps.length_eq
        have e0 := rl.cnt0 c.Obj
        have hz : cnt es c.Obj = 0 := by omega
        refine t_Cput a1 (t := ⟨c, r, -1⟩) hlook (by omega) (by rw [rl.tl]; exact hlt) (by rw [List.length_map]; exact hlt) (by dsimp only; rw [e0, hz]; omega) fun h2 a2 k2 => ?_
        refine w_deref (w_load a2.fRoots (w_mapSet keyNi a2.roots rfl rfl fun h3 m3 e3 d3 => ?_))
        have a3 := a2.setRoots e3 (fun _ e => e) m3
        have k3 := (k1.trans k2).trans (KChg.part (i := 5) (p := p) (L := L.withF F1) e3 (by omega) (fun _ e => e) d3)
        have e1 : (rootE es n ⟨c, r, -1⟩).length = es.length := by unfold rootE; rw [List.length_set]
        have a4 := a3
        rw [← e1, ← nds_root (c := c) (r := r), ← isSome_root (t := ⟨c, r, -1⟩)] at a4
        refine y (CFoot p (L.withF F1)) h3 ⟨⟨L.withF F1, _, _, _, _, a4, fun _ => Iff.rfl, ?_⟩, wf⟩ ⟨k3.but.mono fun c f => (b c).2 f, fun c f => (k3.foot c f).imp (b c).2 id, k3.dom⟩
        · have H := fun {i t ks} => has_set (es := es) (n := n) hlt (e := some (⟨c, r, -1⟩, [])) (i := i) (t := t) (ks := ks)
          have neN : ∀ {i t ks}, Has es i t ks → i ≠ n := fun h e => by subst e; unfold Has at h; rw [hn] at h; cases h
          refine ⟨by unfold rootE; rw [List.length_set, List.length_set]; exact rl.tl, fun i t ks hi => ?_, ?_, rl.oc.set _ _, fun o => ?_, rl.or.set _ _, fun o v => ?_⟩
          · rw [List.getElem?_set]
            rcases H.1 hi with ⟨rfl, q⟩ | ⟨q, hi⟩
            · cases q; rw [if_pos rfl, if_pos (by rw [rl.tl]; exact hlt)]
            · rw [if_neg (fun z => q z.symm)]; exact rl.tok i t ks hi
          · exact (List.perm_append_comm (l₂ := [(c, (n : Int))])).trans ((rl.caps.cons _).trans hnew.symm)
          · rw [alook_set, cnt_cons (es' := rootE es n ⟨c, r, -1⟩) hnew]
            dsimp only
            rw [e0, rl.count o]
            by_cases q : o = c.Obj
            · subst q; rw [if_pos rfl, if_pos rfl, hz]; rfl
            · have q' : ¬ c.Obj = o := fun z => q z.symm
              simp only [if_neg q, if_neg q', Nat.add_zero]
          · rw [alook_set]
            by_cases q : o = c.Obj
            · subst q
              rw [if_pos rfl]
              constructor
              · intro e; cases e; exact ⟨n, _, _, rfl, H.2 (.inl ⟨rfl, rfl⟩), rfl, rfl⟩
              · rintro ⟨i, t, ks, rfl, hi, e, _⟩
                rcases H.1 hi with ⟨rfl, _⟩ | ⟨_, hi⟩
                · rfl
                · exact absurd e (no hi)
            · rw [if_neg q, rl.roots]
              constructor
              · rintro ⟨i, t, ks, rfl, hi, e⟩; exact ⟨i, t, ks, rfl, H.2 (.inr ⟨neN hi, hi⟩), e⟩
              · rintro ⟨i, t, ks, rfl, hi, e⟩
                rcases H.1 hi with ⟨_, z⟩ | ⟨_, hi⟩
                · cases z; exact absurd e.1.symm q
                · exact ⟨i, t, ks, rfl, hi, e⟩
  · rw [if_neg hr] at y
    rw [decide_eq_false hr]
    exact w_ifT rfl (y _ _ x (.refl _ _))
theorem t_CChild (x : Cat h p knob G es) {qi : Int} {c : S_api_Cap} {r : Int} {K : Int × Int → H → Prop} (y : ∀ G' h', Cat h' p knob G' (childOut es qi c r).2 → KChg G G' h h' → K (childOut es qi c r).1 h') : m_catalogue_Catalogue_Child (some ⟨p, 0, none⟩) qi c r K h := by
  have wf := x.wf.childOut qi c r
  have hw := x.wf.len
  unfold childOut at y wf
  unfold m_catalogue_Catalogue_Child
  refine t_CAt x ?_
  unfold atOut
  cases hqi : atE es qi with
  | none =>
    rw [hqi] at y
    exact w_ifT rfl (y _ _ x (.refl _ _))
  | some v =>
    obtain ⟨u, us⟩ := v
    rw [hqi] at y wf
    obtain ⟨q, rfl, hq⟩ := atE_has.1 hqi
    simp only at y wf
    obtain ⟨L, l, ts, lr, lc, a, b, rl⟩ := x.ex
    refine w_ifF rfl (w_deref (w_load a.fTab (t_TGet a.tab ?_)))
    rw [rl.look x.wf a.tab.once]
    refine t_free a (by rw [List.length_map]; omega) ?_
    by_cases ho : u.Cap.Obj = c.Obj
    · rw [if_pos ho] at y wf
      refine w_ifF (by simp [ho]) (w_Part ?_)
      cases hp : partOf r u.Rights with
      | false =>
        rw [if_neg (by rw [hp]; decide)] at y
        exact w_ifT rfl (y _ _ x (.refl _ _))
      | true =>
        rw [if_pos hp] at y wf
        refine w_ifF rfl ?_
        cases hf : findE es c with
        | some v =>
          rw [hf] at y
          exact w_ifT rfl (y _ _ x (.refl _ _))
        | none =>
          rw [hf] at y wf
          simp only [Option.isSome_none, Bool.false_eq_true, if_false] at y wf
          refine w_ifF rfl ?_
          rw [freeI_eq]
          cases hfr : freeE es with
          | none =>
            rw [hfr] at y
            exact w_ifT rfl (y _ _ x (.refl _ _))
          | some n =>
            rw [hfr] at y wf
            dsimp only at y wf
            dsimp only
            have hn := freeE_some hfr
            have hlt := lt_of_get hn
            refine w_ifF (decide_eq_false (by simp)) (w_deref (w_load a.fTree ?_))
            have hnN : hasN (nds es) (n : Int) = false := by
              cases z : hasN (nds es) (n : Int) with
              | false => rfl
              | true =>
                obtain ⟨i, t, ks, e, hi⟩ := hasN_nds.1 z
                obtain rfl : n = i := by omega
                unfold Has at hi; rw [hn] at hi; cases hi
            refine t_KChild a.tree (by rw [nds_len]; exact hlt) hnN (hasN_nds.2 ⟨q, u, us, rfl, hq⟩) (fun d hd => ?_) fun h1 F1 t1 c1 => ?_
            · rw [nds_get hq] at hd
              cases hd
              have := x.wf.kids_le hq
              show us.length ≤ 256
              omega
            have a1 := a.setTree c1.but (fun _ e => e) t1
            have k1 : KChg (CFoot p L) (CFoot p (L.withF F1)) h h1 := .tree c1
            have hlook : alook l c = none := by rw [rl.look x.wf a.tab.once, hf]; rfl
            have hnew := capsG_child (t := ⟨c, r, (q : Int)⟩) hq hn
            have hlen := hnew.length_eq
            have e1 : (childE es q n ⟨c, r, (q : Int)⟩).length = es.length := by unfold childE; rw [hq]; simp only [List.length_set]
            have hle := capsG_le (childE es q n ⟨c, r, (q : Int)⟩) 0
            rw [e1] at hle
            rw [List.length_cons] at hlen
            have hll := rl.caps.length_eq
            have e0 := rl.cnt0 c.Obj
            have hcl := cnt_le es c.Obj
            refine t_Cput a1 (t := ⟨c, r, (q : Int)⟩) hlook (by omega) (by rw [rl.tl]; exact hlt) (by rw [List.length_map]; exact hlt) (by dsimp only; rw [e0]; omega) fun h2 a2 k2 => ?_
            have k3 := k1.trans k2
            rw [Int.toNat_natCast] at y wf
            have a4 := a2
            rw [← e1, ← nds_child (t := ⟨c, r, (q : Int)⟩) rfl hq, ← isSome_child (t := ⟨c, r, (q : Int)⟩) hq hn] at a4
            refine y (CFoot p (L.withF F1)) h2 ⟨⟨L.withF F1, _, _, _, _, a4, fun _ => Iff.rfl, ?_⟩, wf⟩ ⟨k3.but.mono fun c f => (b c).2 f, fun c f => (k3.foot c f).imp (b c).2 id, k3.dom⟩
            · have H := fun {i v vs} => has_child (t := ⟨c, r, (q : Int)⟩) (i := i) (v := v) (vs := vs) hq hn
              have neN : ∀ {i t ks}, Has es i t ks → i ≠ n := fun h e => by subst e; unfold Has at h; rw [hn] at h; cases h
              refine ⟨by rw [e1, List.length_set]; exact rl.tl, fun i t ks hi => ?_, ?_, rl.oc.set _ _, fun o => ?_, rl.or, fun o v => ?_⟩
              · rw [List.getElem?_set]
                rcases H.1 hi with ⟨rfl, rfl, _⟩ | ⟨rfl, rfl, _⟩ | ⟨z, _, hi⟩
                · rw [if_pos rfl, if_pos (by rw [rl.tl]; exact hlt)]
                · rw [if_neg (fun z => neN hq z.symm)]; exact rl.tok _ _ _ hq
                · rw [if_neg (fun w => z w.symm)]; exact rl.tok i t ks hi
              · exact (List.perm_append_comm (l₂ := [(c, (n : Int))])).trans ((rl.caps.cons _).trans hnew.symm)
              · rw [alook_set, cnt_cons hnew]
                dsimp only
                rw [e0, rl.count o]
                by_cases z : o = c.Obj
                · subst z; rw [if_pos rfl, if_pos rfl, if_neg (by omega)]; rfl
                · have z' : ¬ c.Obj = o := fun w => z w.symm
                  simp only [if_neg z, if_neg z', Nat.add_zero]
              · rw [rl.roots]
                constructor
                · rintro ⟨i, t, ks, rfl, hi, e⟩
                  by_cases z : i = q
                  · subst z
                    obtain ⟨rfl, rfl⟩ := hq.uniq hi
                    exact ⟨i, _, _, rfl, H.2 (.inr (.inl ⟨rfl, rfl, rfl⟩)), e⟩
                  · exact ⟨i, t, ks, rfl, H.2 (.inr (.inr ⟨neN hi, z, hi⟩)), e⟩
                · rintro ⟨i, t, ks, rfl, hi, e⟩
                  rcases H.1 hi with ⟨rfl, rfl, _⟩ | ⟨rfl, rfl, _⟩ | ⟨_, _, hi⟩
                  · have := e.2; have : (q : Int) = -1 := this; omega
                  · exact ⟨i, _, _, rfl, hq, e⟩
                  · exact ⟨i, t, ks, rfl, hi, e⟩
    · rw [if_neg ho] at y
      exact w_ifT (by simp [ho]) (y _ _ x (.refl _ _))
end
end Go.Proofs.Ytiajjcboddaenaa.K
