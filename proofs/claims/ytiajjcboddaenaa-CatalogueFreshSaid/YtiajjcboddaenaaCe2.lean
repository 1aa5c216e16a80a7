/- The reference catalogue: entries put, children told in their order, walks. -/
import Derived.Test.YtiajjcboddaenaaCe1
namespace Go.Proofs.Ytiajjcboddaenaa.K
open Go
theorem whenP_nat (pl : List S_ref11_Place) (i : Nat) : whenP pl (i : Int) = ((pl[i]?).map S_ref11_Place.When).getD 0 := by
  unfold whenP; rw [Int.toNat_natCast]
theorem whenP_set {pl : List S_ref11_Place} {n : Nat} {X : S_ref11_Place} (hn : n < pl.length) (i : Nat) : whenP (pl.set n X) (i : Int) = if i = n then X.When else whenP pl (i : Int) := by
  rw [whenP_nat, whenP_nat, List.getElem?_set]
  by_cases e : n = i
  · subst e; rw [if_pos rfl, if_pos hn, if_pos rfl]; rfl
  · rw [if_neg e, if_neg (fun z => e z.symm)]
theorem RefRel.root {es : List En} (w : CWF es) {pl ev} (x : RefRel es pl ev) {n : Nat} (hn : es[n]? = some none) {c : S_api_Cap} {r : Int} : RefRel (rootE es n ⟨c, r, -1⟩) (pl.set n ⟨true, c, r, -1, ev⟩) (ev + 1) := by
  have hlt := lt_of_get hn
  have hlp : n < pl.length := by rw [x.len]; exact hlt
  have H := fun {i t ks} => has_set (es := es) (n := n) hlt (e := some (⟨c, r, -1⟩, [])) (i := i) (t := t) (ks := ks)
  have neN : ∀ {i t ks}, Has es i t ks → i ≠ n := fun h e => by subst e; unfold Has at h; rw [hn] at h; cases h
  refine ⟨by unfold rootE; rw [List.length_set, List.length_set]; exact x.len, fun i q e h1 h2 => ?_, fun i t ks h => ?_, fun i t ks h => ?_⟩
  · unfold rootE at h2
    rw [List.getElem?_set] at h1 h2
    by_cases z : n = i
    · rw [if_pos z, if_pos hlp] at h1
      rw [if_pos z, if_pos hlt] at h2
      cases h1; cases h2; exact ⟨rfl, rfl, rfl, rfl⟩
    · rw [if_neg z] at h1 h2
      exact x.ent _ _ _ h1 h2
  · rw [whenP_set hlp]
    rcases H.1 h with ⟨rfl, _⟩ | ⟨z, h⟩
    · rw [if_pos rfl]; show 0 ≤ (ev : Int) ∧ (ev : Int) < ((ev + 1 : Nat) : Int); omega
    · rw [if_neg z]; have := x.when _ _ _ h; omega
  · rcases H.1 h with ⟨rfl, z⟩ | ⟨z, h⟩
    · cases z; exact List.Pairwise.nil
    · refine (x.kids _ _ _ h).imp_of_mem fun {a b} ha hb hab => ?_
      obtain ⟨j, u, us, rfl, hj, _⟩ := w.down _ _ _ h _ ha
      obtain ⟨j', u', us', rfl, hj', _⟩ := w.down _ _ _ h _ hb
      rw [whenP_set hlp, whenP_set hlp, if_neg (neN hj), if_neg (neN hj')]; exact hab
theorem RefRel.child {es : List En} (w : CWF es) {pl ev} (x : RefRel es pl ev) {q n : Nat} {u us} (hq : Has es q u us) (hn : es[n]? = some none) {c : S_api_Cap} {r : Int} : RefRel (childE es q n ⟨c, r, (q : Int)⟩) (pl.set n ⟨true, c, r, (q : Int), ev⟩) (ev + 1) := by
  have hlt := lt_of_get hn
  have hlp : n < pl.length := by rw [x.len]; exact hlt
  have H := fun {i v vs} => has_child (t := ⟨c, r, (q : Int)⟩) (i := i) (v := v) (vs := vs) hq hn
  have neN : ∀ {i t ks}, Has es i t ks → i ≠ n := fun h e => by subst e; unfold Has at h; rw [hn] at h; cases h
  have e1 : (childE es q n ⟨c, r, (q : Int)⟩).length = es.length := by unfold childE; rw [hq]; simp only [List.length_set]
  have pw : ∀ {i t ks}, Has es i t ks → ks.Pairwise fun a b => whenP (pl.set n ⟨true, c, r, (q : Int), ev⟩) a < whenP (pl.set n ⟨true, c, r, (q : Int), ev⟩) b := fun {i t ks} h => by
    refine (x.kids _ _ _ h).imp_of_mem fun {a b} ha hb hab => ?_
    obtain ⟨j, u, us, rfl, hj, _⟩ := w.down _ _ _ h _ ha
    obtain ⟨j', u', us', rfl, hj', _⟩ := w.down _ _ _ h _ hb
    rw [whenP_set hlp, whenP_set hlp, if_neg (neN hj), if_neg (neN hj')]; exact hab
  refine ⟨by rw [e1, List.length_set]; exact x.len, fun i p e h1 h2 => ?_, fun i t ks h => ?_, fun i t ks h => ?_⟩
  · rw [List.getElem?_set] at h1
    cases e with
    | none =>
      have hi : i < es.length := by have := lt_of_get h2; omega
      have hni : i ≠ n := fun z => by
        have := (H (i := i) (v := ⟨c, r, (q : Int)⟩) (vs := [])).2 (.inl ⟨z, rfl, rfl⟩)
        unfold Has at this; rw [h2] at this; cases this
      rw [if_neg (fun z => hni z.symm)] at h1
      have : es[i]? = some none := by
        rw [List.getElem?_eq_getElem hi]
        cases e : es[i] with
        | none => rfl
        | some v =>
          obtain ⟨t, ks⟩ := v
          have hh : Has es i t ks := by unfold Has; rw [List.getElem?_eq_getElem hi, e]
          by_cases z : i = q
          · have := (H (i := i)).2 (.inr (.inl ⟨z, rfl, rfl⟩))
            unfold Has at this; rw [h2] at this; cases this
          · have := (H (i := i)).2 (.inr (.inr ⟨hni, z, hh⟩))
            unfold Has at this; rw [h2] at this; cases this
      exact x.ent _ _ _ h1 this
    | some v =>
      obtain ⟨t, ks⟩ := v
      rcases H.1 h2 with ⟨rfl, rfl, _⟩ | ⟨rfl, rfl, _⟩ | ⟨z1, z2, hh⟩
      · rw [if_pos rfl, if_pos hlp] at h1
        cases h1; exact ⟨rfl, rfl, rfl, rfl⟩
      · rw [if_neg (fun z => neN hq z.symm)] at h1
        exact x.ent _ _ (some (_, us)) h1 hq
      · rw [if_neg (fun z => z1 z.symm)] at h1
        exact x.ent _ _ _ h1 hh
  · rw [whenP_set hlp]
    rcases H.1 h with ⟨rfl, _⟩ | ⟨rfl, rfl, _⟩ | ⟨z, _, h⟩
    · rw [if_pos rfl]; show 0 ≤ (ev : Int) ∧ (ev : Int) < ((ev + 1 : Nat) : Int); omega
    · rw [if_neg (neN hq)]; have := x.when _ _ _ hq; omega
    · rw [if_neg z]; have := x.when _ _ _ h; omega
  · rcases H.1 h with ⟨_, _, rfl⟩ | ⟨rfl, rfl, rfl⟩ | ⟨_, _, h⟩
    · exact List.Pairwise.nil
    · rw [List.pairwise_append]
      refine ⟨pw hq, List.pairwise_singleton _ _, fun a ha b hb => ?_⟩
      obtain rfl := List.mem_singleton.1 hb
      obtain ⟨j, v, vs, rfl, hj, _⟩ := w.down _ _ _ hq _ ha
      rw [whenP_set hlp, whenP_set hlp, if_neg (neN hj), if_pos rfl]
      exact (x.when _ _ _ hj).2
    · exact pw h
section
variable {h : H} {p : Nat} {ev : Nat} {G : Nat → Prop} {es : List En}
theorem t_Rput {s : Sl} {pl : List S_ref11_Place} (a : RefAt h p s pl ev) (b : RefRel es pl ev) (hw : es.length ≤ 256) (he : ev < 9223372036854775807) {c : S_api_Cap} {r q : Int} {K : Int × Int → H → Prop} (no : freeE es = none → K (0, 10) h)
    (y : ∀ n, freeE es = some n → ∀ h', RefAt h' p s (pl.set n ⟨true, c, r, q, ev⟩) (ev + 1) → But (fun z => z = p ∨ s.foot z) h h' → (∀ c, h' c = none → h c = none) → K ((n : Int), 0) h') : m_ref11_Catalogue_put (some ⟨p, 0, none⟩) c r q K h := by
  have hl := a.buf.len
  have hb := b.len
  unfold m_ref11_Catalogue_put
  refine w_for es.length (fun i (z : Int) h' => h = h' ∧ z = (i : Int) ∧ ∀ j, j < i → ∀ e, es[j]? = some e → e ≠ none) ?_ ⟨rfl, rfl, fun j hj => absurd hj (Nat.not_lt_zero _)⟩
  rintro rec i z h' hi ⟨rfl, rfl, hno⟩ more
  refine w_deref (w_load a.f0 (w_if' (fun d => ?_) fun d => ?_))
  · have d : (i : Int) < (s.len : Int) := d
    have hil : i < es.length := by omega
    obtain ⟨P, e, h1, h2, ok⟩ := b.place hil
    refine w_deref (w_load a.f0 (w_field rp_len a.buf.arr h1 rfl (v' := P.Live) (cells' := cBool) (l1 := []) (l3 := (cPl P).drop 1) rfl rfl (w_if (fun e' => ?_) fun e' => ?_)))
    · have hlive : P.Live = false := by simpa using e'
      have hen := b.dead h1 hlive
      have hf : freeE es = some i := by
        unfold freeE freeU
        rw [List.findIdx?_eq_some_iff_getElem]
        refine ⟨by rw [List.length_map]; exact hil, ?_, fun j hj => ?_⟩
        · rw [List.getElem_map]
          rw [List.getElem?_eq_getElem hil] at hen
          cases hen' : es[i] with
          | none => rfl
          | some v => rw [hen'] at hen; cases hen
        · rw [List.getElem_map]
          have := hno j hj _ (List.getElem?_eq_getElem (by omega))
          cases hv : es[j] with
          | none => exact absurd hv this
          | some v => simp
      refine w_deref (w_deref (w_load a.f0 (w_load a.f1 (w_put rp_len a.buf (i := i) (by omega) rfl ⟨true, c, r, q, ev⟩ rfl fun h2 b2 k2 d2 => ?_))))
      have cell2 := k2 _ _ a.cell a.apart
      have a2 : RefAt h2 p s (pl.set i ⟨true, c, r, q, ev⟩) ev := ⟨cell2, b2⟩
      refine w_deref (w_load a2.f1 (w_deref ?_))
      have ev1 : iAdd .i64 (ev : Int) 1 = ((ev + 1 : Nat) : Int) := (iAdd_eq (by omega) (by omega)).trans (by omega)
      rw [ev1]
      refine w_store (b := p) (i := 1) (l1 := [Sl.val s]) (l2 := [Value.int .i64 ev]) (l3 := []) (t := N_ref11_Catalogue) (pt_add p 1) cell2 rfl rfl ?_
      refine y i hf _ ⟨upd_same _ _ _, b2.but (But.upd (F := (· = p)) rfl) fun a' ha z => (b2.typed ⟨a', ha, rfl⟩).ne (Typed.of cell2) (by decide) z⟩ ((k2.mono fun _ f => .inr f).trans (But.upd (F := (· = p)) rfl) fun _ z => .inl (.inl z)) fun z hz => d2 z (upd_none.1 hz).2
    · refine more _ _ hil ⟨rfl, ia1 i (by omega), fun j hj e'' he => ?_⟩
      by_cases z : j = i
      · subst z
        have hlive : P.Live = true := by simpa using e'
        rw [h2] at he; cases he
        intro z
        subst z
        have : P.Live = false := ok
        rw [this] at hlive; cases hlive
      · exact hno j (by omega) _ he
  · have d : ¬ (i : Int) < (s.len : Int) := d
    refine no ?_
    unfold freeE freeU
    rw [List.findIdx?_eq_none_iff]
    intro x hx
    obtain ⟨e, he, rfl⟩ := List.mem_map.1 hx
    obtain ⟨j, hj⟩ := List.mem_iff_getElem?.1 he
    have := hno j (by have := lt_of_get hj; omega) e hj
    cases e with
    | none => exact absurd rfl this
    | some v => rfl
theorem t_RRoot (x : Ref h p ev G es) (he : ev < 9223372036854775807) {c : S_api_Cap} {r : Int} {K : Int × Int → H → Prop} (y : ∀ G' h' ev', ev' ≤ ev + 1 → Ref h' p ev' G' (rootOut es c r).2 → KChg G G' h h' → K (rootOut es c r).1 h') : m_ref11_Catalogue_Root (some ⟨p, 0, none⟩) c r K h := by
  have wf := x.wf.rootOut c r
  have hw := x.wf.len
  unfold rootOut at y wf
  unfold m_ref11_Catalogue_Root
  refine w_RValid ?_
  by_cases hr : 1 ≤ r ∧ r ≤ 31
  · rw [if_pos hr] at y wf
    rw [decide_eq_true hr]
    refine w_ifF rfl (t_RIn x (w_if' (fun h0 => ?_) fun h0 => ?_))
    · rw [if_pos (by omega)] at y
      exact y _ _ ev (by omega) x (.refl _ _)
    · rw [if_neg (by omega)] at y wf
      obtain ⟨s, pl, a, b, g⟩ := x.ex
      refine t_Rput a b hw.2 he (fun hf => ?_) fun n hf h2 a2 k2 d2 => ?_
      · rw [hf] at y
        exact y _ _ ev (by omega) x (.refl _ _)
      · rw [hf] at y wf
        exact y G h2 (ev + 1) (Nat.le_refl _) ⟨⟨s, _, a2, b.root x.wf (freeE_some hf), g⟩, wf⟩ ⟨k2.mono fun c f => (g c).2 f, fun _ f => .inl f, d2⟩
  · rw [if_neg hr] at y
    rw [decide_eq_false hr]
    exact w_ifT rfl (y _ _ ev (by omega) x (.refl _ _))
theorem t_RChild (x : Ref h p ev G es) (he : ev < 9223372036854775807) {qi : Int} {c : S_api_Cap} {r : Int} {K : Int × Int → H → Prop} (y : ∀ G' h' ev', ev' ≤ ev + 1 → Ref h' p ev' G' (childOut es qi c r).2 → KChg G G' h h' → K (childOut es qi c r).1 h') : m_ref11_Catalogue_Child (some ⟨p, 0, none⟩) qi c r K h := by
  have wf := x.wf.childOut qi c r
  have hw := x.wf.len
  unfold childOut at y wf
  unfold m_ref11_Catalogue_Child
  refine t_Ris x ?_
  cases hqi : atE es qi with
  | none =>
    rw [hqi] at y
    exact w_ifT rfl (y _ _ ev (by omega) x (.refl _ _))
  | some v =>
    obtain ⟨u, us⟩ := v
    rw [hqi] at y wf
    obtain ⟨q, rfl, hq⟩ := atE_has.1 hqi
    simp only at y wf
    obtain ⟨s, pl, a, b, g⟩ := x.ex
    obtain ⟨P, h1, _, e1, e2, e3⟩ := b.has hq
    refine w_ifF rfl (w_deref (w_load a.f0 (w_idx rp_len a.buf.arr h1 rfl fun ad _ ha => w_load (v := P.Cap.Obj) (cells := cInt .i64) ?_ ?_)))
    · rw [show (ad.add 1).add 0 = ad.add 1 from add_zero _]
      exact At.head (l2 := (cPl P).drop 2) (At.sub (l1 := (cPl P).take 1) (l3 := []) (by rw [List.append_nil]; exact ha) rfl)
    rw [e1]
    by_cases ho : u.Cap.Obj = c.Obj
    · rw [if_pos ho] at y wf
      refine w_ifF (by simp [ho]) (w_deref (w_load a.f0 (w_field rp_len a.buf.arr h1 rfl (v' := P.Rights) (cells' := cInt .i64) (l1 := (cPl P).take 4) (l3 := (cPl P).drop 5) rfl rfl ?_)))
      rw [e2]
      refine w_RPart (x.wf.right _ _ _ hq) ?_
      cases hp : partOf r u.Rights with
      | false =>
        rw [if_neg (by rw [hp]; decide)] at y
        exact w_ifT rfl (y _ _ ev (by omega) x (.refl _ _))
      | true =>
        rw [if_pos hp] at y wf
        refine w_ifF rfl (t_RFind x ?_)
        cases hf : findE es c with
        | some v =>
          rw [hf] at y
          exact w_ifT rfl (y _ _ ev (by omega) x (.refl _ _))
        | none =>
          rw [hf] at y wf
          simp only [Option.isSome_none, Bool.false_eq_true, if_false] at y wf
          refine w_ifF rfl (t_Rput a b hw.2 he (fun hf => ?_) fun n hf h2 a2 k2 d2 => ?_)
          · rw [hf] at y
            exact y _ _ ev (by omega) x (.refl _ _)
          · rw [hf] at y wf
            dsimp only at y wf
            rw [Int.toNat_natCast] at y wf
            exact y G h2 (ev + 1) (Nat.le_refl _) ⟨⟨s, _, a2, b.child x.wf hq (freeE_some hf), g⟩, wf⟩ ⟨k2.mono fun c f => (g c).2 f, fun _ f => .inl f, d2⟩
    · rw [if_neg ho] at y
      exact w_ifT (by simp [ho]) (y _ _ ev (by omega) x (.refl _ _))
theorem mono_idx {f : Int → Int} {ks : List Int} (x : ks.Pairwise fun a b => f a < f b) {i j : Nat} {a b : Int} (hi : ks[i]? = some a) (hj : ks[j]? = some b) : f a < f b ↔ i < j := by
  obtain ⟨li, ei⟩ := List.getElem?_eq_some_iff.1 hi
  obtain ⟨lj, ej⟩ := List.getElem?_eq_some_iff.1 hj
  rw [List.pairwise_iff_getElem] at x
  constructor
  · intro h
    rcases Nat.lt_trichotomy i j with q | q | q
    · exact q
    · subst q; rw [ei] at ej; subst ej; omega
    · have := x j i lj li q; rw [ei, ej] at this; omega
  · intro h
    have := x i j li lj h; rw [ei, ej] at this; exact this
theorem t_Rchildren (x : Ref h p ev G es) {n : Nat} {t ks} (hn : Has es n t ks) {K : Sl → H → Prop} (y : ∀ s' h', Buf (cInt .i64) 1 N_int h' s' ks → Keeps h h' → (∀ c, s'.foot c → h c = none) → K s' h') : m_ref11_Catalogue_children (some ⟨p, 0, none⟩) (n : Int) K h := by
  have w := x.wf
  obtain ⟨s, pl, a, b, g⟩ := x.ex
  have hw := w.len
  have hl := a.buf.len
  have hb := b.len
  have hkl := w.kids_le hn
  unfold m_ref11_Catalogue_children
  refine w_for ks.length (fun j (z : Sl × Int) h' => Buf (cInt .i64) 1 N_int h' z.1 (ks.take j) ∧ (∀ (i' : Nat) k, ks[i']? = some k → (z.2 < whenP pl k ↔ j ≤ i')) ∧ Keeps h h' ∧ ∀ c, z.1.foot c → h c = none) ?_ ⟨Buf.nil, fun i' k hk => ?_, .refl _, fun c ⟨_, q, _⟩ => by cases q⟩
  rotate_left
  · obtain ⟨i, u, us, rfl, hi, _⟩ := w.down _ _ _ hn _ (List.mem_of_getElem? hk)
    have := (b.when _ _ _ hi).1
    show (-1 : Int) < _ ↔ _
    omega
  rintro rec j ⟨out, last⟩ h1 hj ⟨bu, hlast, kp, fo⟩ more
  have bu : Buf (cInt .i64) 1 N_int h1 out (ks.take j) := bu
  have hlast : ∀ (i' : Nat) k, ks[i']? = some k → (last < whenP pl k ↔ j ≤ i') := hlast
  have a1 := a.keep kp
  -- the ones still to come
  have toK : ∀ {i : Nat} {u us}, Has es i u us → u.Parent = n → last < whenP pl (i : Int) → ∃ i', ks[i']? = some (i : Int) ∧ j ≤ i' := fun {i u us} hi hp hw' => by
    rcases w.up _ _ _ hi with q | ⟨q, v, vs, e, hq, hm, _⟩
    · omega
    · obtain rfl : n = q := by omega
      obtain ⟨_, rfl⟩ := hn.uniq hq
      obtain ⟨i', hi'⟩ := List.mem_iff_getElem?.1 hm
      exact ⟨i', hi', (hlast _ _ hi').1 hw'⟩
  refine w_for es.length (fun i (z : Int × Int) h' => h1 = h' ∧ z.2 = (i : Int) ∧ ((z.1 = -1 ∧ ∀ m, m < i → ∀ u us, Has es m u us → u.Parent = n → ¬ last < whenP pl (m : Int)) ∨ ∃ m : Nat, z.1 = m ∧ (∃ u us, Has es m u us ∧ u.Parent = n ∧ last < whenP pl (m : Int)) ∧ ∀ m', m' < i → ∀ u us, Has es m' u us → u.Parent = n → last < whenP pl (m' : Int) → whenP pl (m : Int) ≤ whenP pl (m' : Int))) ?_ ⟨rfl, rfl, .inl ⟨rfl, fun m hm => absurd hm (Nat.not_lt_zero _)⟩⟩
  rintro rec' i ⟨best, iz⟩ h' hi ⟨rfl, ez, hbest⟩ more'
  have ez : iz = (i : Int) := ez
  subst ez
  have hbest : (best = -1 ∧ ∀ m, m < i → ∀ u us, Has es m u us → u.Parent = n → ¬ last < whenP pl (m : Int)) ∨ ∃ m : Nat, best = m ∧ (∃ u us, Has es m u us ∧ u.Parent = n ∧ last < whenP pl (m : Int)) ∧ ∀ m', m' < i → ∀ u us, Has es m' u us → u.Parent = n → last < whenP pl (m' : Int) → whenP pl (m : Int) ≤ whenP pl (m' : Int) := hbest
  refine w_deref (w_load a1.f0 (w_if' (fun d => ?_) fun d => ?_))
  · have d : (i : Int) < (s.len : Int) := d
    have hil : i < es.length := by omega
    obtain ⟨P, e, h1', h2, ok⟩ := b.place hil
    have hwP : whenP pl (i : Int) = P.When := by rw [whenP_nat, h1']; rfl
    have rdW : ∀ {k : Int → H → Prop}, k P.When h1 → mIdx s (i : Int) 7 (fun ad => mLoad (cInt .i64) (ad.add 6) k) h1 := fun z => w_field rp_len a1.buf.arr h1' rfl (v' := P.When) (cells' := cInt .i64) (l1 := (cPl P).take 6) (l3 := []) rfl rfl z
    refine w_deref (w_load a1.f0 (w_field rp_len a1.buf.arr h1' rfl (v' := P.Live) (cells' := cBool) (l1 := []) (l3 := (cPl P).drop 1) rfl rfl ?_))
    -- is it one of the children still to come?
    refine w_joinV (P.Live && decide (P.Parent = (n : Int))) (fun J hJ => ?_) ?_
    · refine w_if (fun e => ?_) fun e => ?_
      · refine w_deref (w_load a1.f0 (w_field rp_len a1.buf.arr h1' rfl (v' := P.Parent) (cells' := cInt .i64) (l1 := (cPl P).take 5) (l3 := (cPl P).drop 6) rfl rfl ?_))
        rw [e, Bool.true_and] at hJ; exact hJ
      · rw [e] at hJ; exact hJ
    refine w_joinV ((P.Live && decide (P.Parent = (n : Int))) && decide (last < P.When)) (fun J hJ => ?_) ?_
    · refine w_if (fun e => ?_) fun e => ?_
      · refine w_deref (w_load a1.f0 (rdW ?_))
        rw [e, Bool.true_and] at hJ; exact hJ
      · rw [e] at hJ; exact hJ
    by_cases q : ((P.Live && decide (P.Parent = (n : Int))) && decide (last < P.When)) = true
    · rw [q]
      rw [Bool.and_eq_true, Bool.and_eq_true, decide_eq_true_eq, decide_eq_true_eq] at q
      obtain ⟨⟨ql, qp⟩, qw⟩ := q
      obtain ⟨u, us, hu, _, _, ep⟩ := b.live h1' ql
      rw [← hwP] at qw
      have hPi : ∃ u us, Has es i u us ∧ u.Parent = n ∧ last < whenP pl (i : Int) := ⟨u, us, hu, ep.symm.trans qp, qw⟩
      rcases hbest with ⟨rfl, hno⟩ | ⟨m, rfl, hm, hmin⟩
      · refine w_join (w_ifT rfl (w_ifT rfl (w_ifT rfl (more' _ _ hil ⟨rfl, ia1 i (by omega), .inr ⟨i, rfl, hPi, fun m' hm' v vs hv hp hl' => ?_⟩⟩))))
        by_cases z : m' = i
        · subst z; exact Int.le_refl _
        · exact absurd hl' (hno m' (by omega) v vs hv hp)
      · obtain ⟨um, usm, hum, hpm, hwm⟩ := hm
        obtain ⟨Pm, hPm, _⟩ := b.has hum
        have hwPm : whenP pl (m : Int) = Pm.When := by rw [whenP_nat, hPm]; rfl
        refine w_join (w_ifT rfl (w_ifF (decide_eq_false (by omega)) (w_deref (w_deref (w_load a1.f0 (rdW (w_load a1.f0 (w_field rp_len a1.buf.arr hPm rfl (v' := Pm.When) (cells' := cInt .i64) (l1 := (cPl Pm).take 6) (l3 := []) rfl rfl (w_if' (fun lt => ?_) fun lt => ?_)))))))))
        · rw [← hwP, ← hwPm] at lt
          refine more' _ _ hil ⟨rfl, ia1 i (by omega), .inr ⟨i, rfl, hPi, fun m' hm' v vs hv hp hl' => ?_⟩⟩
          by_cases z : m' = i
          · subst z; exact Int.le_refl _
          · have := hmin m' (by omega) v vs hv hp hl'; omega
        · rw [← hwP, ← hwPm] at lt
          refine more' _ _ hil ⟨rfl, ia1 i (by omega), .inr ⟨m, rfl, ⟨um, usm, hum, hpm, hwm⟩, fun m' hm' v vs hv hp hl' => ?_⟩⟩
          by_cases z : m' = i
          · subst z; omega
          · exact hmin m' (by omega) v vs hv hp hl'
    · have q' : ((P.Live && decide (P.Parent = (n : Int))) && decide (last < P.When)) = false := by simpa using q
      rw [q']
      have notP : ∀ u us, Has es i u us → u.Parent = n → ¬ last < whenP pl (i : Int) := fun u us hu hp hl' => by
        obtain ⟨P', hP', e1, _, _, e4⟩ := b.has hu
        rw [h1'] at hP'; cases hP'
        rw [e1, e4, hp, decide_eq_true rfl, ← hwP, decide_eq_true hl'] at q'
        cases q'
      refine w_join (w_ifF rfl (w_ifF rfl (more' _ _ hil ⟨rfl, ia1 i (by omega), ?_⟩)))
      rcases hbest with ⟨e, hno⟩ | ⟨m, e, hm, hmin⟩
      · refine .inl ⟨e, fun m hm u us hu hp => ?_⟩
        by_cases z : m = i
        · subst z; exact notP u us hu hp
        · exact hno m (by omega) u us hu hp
      · refine .inr ⟨m, e, hm, fun m' hm' v vs hv hp hl' => ?_⟩
        by_cases z : m' = i
        · subst z; exact absurd hl' (notP v vs hv hp)
        · exact hmin m' (by omega) v vs hv hp hl'
  · have d : ¬ (i : Int) < (s.len : Int) := d
    obtain rfl : i = es.length := by omega
    rcases hbest with ⟨rfl, hno⟩ | ⟨m, rfl, ⟨um, usm, hum, hpm, hwm⟩, hmin⟩
    · refine w_ifT rfl ?_
      have : j = ks.length := by
        rcases Nat.lt_or_ge j ks.length with q | q
        · obtain ⟨m, u, us, e, hm, hp⟩ := w.down _ _ _ hn _ (List.getElem_mem q)
          exact absurd ((hlast j _ (by rw [List.getElem?_eq_getElem q, e])).2 (Nat.le_refl _)) (hno m hm.lt u us hm hp)
        · omega
      subst this
      rw [List.take_length] at bu
      exact y _ _ bu kp fo
    · refine w_ifF (decide_eq_false (by show ¬ (m : Int) < 0; omega)) ?_
      obtain ⟨i', hi', hji⟩ := toK hum hpm hwm
      have hlt := lt_of_get hi'
      have hjl : j < ks.length := by omega
      have hjk := List.getElem?_eq_getElem hjl
      obtain ⟨m', u', us', e', hm', hp'⟩ := w.down _ _ _ hn _ (List.getElem_mem hjl)
      have hle := hmin m' hm'.lt u' us' hm' hp' (by rw [← e']; exact (hlast j _ hjk).2 (Nat.le_refl _))
      obtain rfl : i' = j := by
        have h3 := mono_idx (b.kids _ _ _ hn) hjk hi'
        rw [e'] at h3
        rcases Nat.lt_or_ge j i' with q | q
        · exact absurd (h3.2 q) (by omega)
        · omega
      refine w_app (by_ := 8) ci_len rfl bu [(m : Int)] rfl rfl (.inl (by rw [List.length_take]; simp only [List.length_singleton]; omega)) fun s2 h2 bu2 k2 f2 d2 => ?_
      obtain ⟨Pm, hPm, _⟩ := b.has hum
      have hwPm : whenP pl (m : Int) = Pm.When := by rw [whenP_nat, hPm]; rfl
      have a2 := a.keep (kp.but k2 fo)
      refine w_deref (w_load a2.f0 (w_field rp_len a2.buf.arr hPm rfl (v' := Pm.When) (cells' := cInt .i64) (l1 := (cPl Pm).take 6) (l3 := []) rfl rfl ?_))
      refine more _ _ hjl ⟨?_, fun i'' k hk => ?_, kp.but k2 fo, fun c f => (f2 c f).elim (fo c) fun q => kp.fresh q⟩
      · rw [List.take_add_one, hi']; exact bu2
      · show Pm.When < _ ↔ _
        rw [← hwPm, mono_idx (b.kids _ _ _ hn) hi' hk]
        omega
end
end Go.Proofs.Ytiajjcboddaenaa.K
