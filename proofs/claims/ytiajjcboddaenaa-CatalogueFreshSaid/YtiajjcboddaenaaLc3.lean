/- Catalogues grown step by step; who stands under whom; what is told of an object. -/
import Derived.Test.YtiajjcboddaenaaLc2
namespace Go.Proofs.Ytiajjcboddaenaa.K
open Go
def intoV (a b : Int) : Int := if a.tmod b < 0 then a.tmod b + b else a.tmod b
theorem intoV_rng (a : Int) {b : Int} (h : 0 < b) : 0 ≤ intoV a b ∧ intoV a b < b := by
  unfold intoV
  have h1 := Int.tmod_lt_of_pos a h
  have h2 := Int.lt_tmod_of_pos a h
  split <;> omega
theorem w_into {h : H} {a b : Int} (h0 : 0 < b) (h1 : b < 2 ^ 40) {k : Int → H → Prop} (y : k (intoV a b) h) : mPure (m_law11_into a b) k h := by
  refine w_pure _ (fun h' k' z => ?_) y
  unfold m_law11_into
  refine ⟨by omega, ?_⟩
  have q1 := Int.tmod_lt_of_pos a h0
  have q2 := Int.lt_tmod_of_pos a h0
  have e : iRem .i64 a b = a.tmod b := rfl
  rw [e]
  unfold intoV at z
  refine w_if' (fun c => ?_) fun c => ?_
  · rw [if_pos c] at z
    rw [iAdd_eq (by omega) (by omega)]; exact z
  · rw [if_neg c] at z; exact z
theorem Below.uniq {es : List En} {n : Nat} {l l' : List Int} (a : Below es n l) (b : Below es n l') : l = l' := a.pre.inj b.pre
open Classical in
noncomputable def belowOf (es : List En) (n : Nat) : List Int := if h : ∃ l, Below es n l then h.choose else []
theorem Below.eq {es : List En} {n : Nat} {l : List Int} (b : Below es n l) : belowOf es n = l := by
  unfold belowOf
  rw [dif_pos ⟨l, b⟩]
  exact (Exists.choose_spec (⟨l, b⟩ : ∃ l, Below es n l)).uniq b
noncomputable def dropE (es : List En) (i : Int) : List En := match atE es i with
  | none => es
  | some _ => cutE (belowOf es i.toNat) es
noncomputable def stepE (n : Int) (es : List En) (st : S_law11_Step) : List En :=
  if st.Kind = 0 then (rootOut es st.C st.Rights).2 else
  if st.Kind = 1 then (childOut es (intoV st.N n) st.C st.Rights).2 else
  if st.Kind = 4 then dropE es (intoV st.N n) else es
noncomputable def grownE (n : Nat) (sts : List S_law11_Step) : List En := sts.foldl (stepE (n : Int)) (List.replicate n none)
theorem rootOut_len (es : List En) (c v) : (rootOut es c v).2.length = es.length := by
  unfold rootOut
  split
  · split
    · rfl
    · split
      · rfl
      · unfold rootE; rw [List.length_set]
  · rfl
theorem childOut_len (es : List En) (q c v) : (childOut es q c v).2.length = es.length := by
  unfold childOut
  split
  · rfl
  · split
    · split
      · split
        · rfl
        · split
          · rfl
          · unfold childE
            split
            · simp only [List.length_set]
            · rfl
      · rfl
    · rfl
theorem dropE_len (es : List En) (i : Int) : (dropE es i).length = es.length := by
  unfold dropE
  split
  · rfl
  · exact cutE_len _ _
theorem stepE_len (n : Int) (es : List En) (st) : (stepE n es st).length = es.length := by
  unfold stepE
  split
  · exact rootOut_len _ _ _
  · split
    · exact childOut_len _ _ _ _
    · split
      · exact dropE_len _ _
      · rfl
theorem grownE_len (n : Nat) (sts) : (grownE n sts).length = n := by
  unfold grownE
  suffices ∀ (sts : List S_law11_Step) (es : List En), (sts.foldl (stepE (n : Int)) es).length = es.length by rw [this, List.length_replicate]
  intro sts
  induction sts with
  | nil => exact fun _ => rfl
  | cons a r ih => intro es; rw [List.foldl_cons, ih, stepE_len]
section
variable {h : H} {p : Nat} {knob : Int} {G : Nat → Prop} {es : List En}
/-- Drop, its outcome as a function of the entries. -/
theorem t_CDrop' (x : Cat h p knob G es) {i : Int} {K : Sl × Int → H → Prop} (no : atE es i = none → ∀ h', Keeps h h' → K (Sl.nil, 20) h')
    (y : ∀ n t ks, i = ((n : Nat) : Int) → Has es n t ks → Below es n (belowOf es n) → ∀ s' G' h', Cat h' p knob G' (dropE es i) → KChg G G' h h' → Buf S_api_Cap.cells 3 N_api_Cap h' s' ((belowOf es n).map (capAt es)) → (∀ c, s'.foot c → h c = none) → (∀ c, s'.foot c → ¬ G' c) → K (s', 0) h') : m_catalogue_Catalogue_Drop (some ⟨p, 0, none⟩) i K h := by
  refine t_CDrop x no fun n t ks l e hn bl s' G' h' c' k' bu f ap => ?_
  have el := bl.eq
  subst el
  refine y n t ks e hn bl s' G' h' ?_ k' bu f ap
  unfold dropE
  rw [e, (atE_has (i := (n : Int))).2 ⟨n, rfl, hn⟩, Int.toNat_natCast]
  exact c'
theorem t_grown {n : Nat} (h1 : 1 ≤ n) (h2 : n ≤ 256) {a1 : Int} {s : Sl} {sts : List S_law11_Step} (ar : Arr S_law11_Step.cells h s sts) (hn : sts.length ≤ 9223372036854775807) {K : Option Addr → H → Prop} (y : ∀ p knob G h', Cat h' p knob G (grownE n sts) → Keeps h h' → (∀ c, G c → h c = none) → K (some ⟨p, 0, none⟩) h') : m_law11_grown (n : Int) a1 s K h := by
  unfold m_law11_grown
  have hi := intoV_rng a1 (b := 65) (by omega)
  refine w_into (by omega) (by omega) (t_CNew (fun q => by omega) fun _ _ n' en _ _ p G h2 c2 k2 f2 => w_ifF rfl ?_)
  obtain rfl : n = n' := by omega
  have hl := ar.len
  refine w_for sts.length (fun i (z : Int) h' => z = (i : Int) ∧ ∃ G', Cat h' p (intoV a1 65) G' ((sts.take i).foldl (stepE (n : Int)) (List.replicate n none)) ∧ (∀ c, G' c → h c = none) ∧ Keeps h h') ?_ ⟨rfl, G, c2, f2, k2⟩
  rintro rec i z h' hi' ⟨rfl, G', c', g', kp⟩ more
  have ar' := ar.keep kp
  refine w_if' (fun c => ?_) fun c => ?_
  · have c : (i : Int) < (s.len : Int) := c
    have hil : i < sts.length := by omega
    have hz := List.getElem?_eq_getElem hil
    have ei : iAdd .i64 (i : Int) 1 = ((i + 1 : Nat) : Int) := (iAdd_eq (by omega) (by omega)).trans (by omega)
    have ef : ((sts.take (i + 1)).foldl (stepE (n : Int)) (List.replicate n none)) = stepE n ((sts.take i).foldl (stepE (n : Int)) (List.replicate n none)) sts[i] := by
      rw [List.take_add_one, hz, List.foldl_append]; rfl
    rw [ei]
    have next : ∀ {G'' h''}, Cat h'' p (intoV a1 65) G'' (stepE n ((sts.take i).foldl (stepE (n : Int)) (List.replicate n none)) sts[i]) → KChg G' G'' h' h'' → rec ((i + 1 : Nat) : Int) h'' := fun {G'' h''} c'' k'' =>
      more _ _ hil ⟨rfl, G'', by rw [ef]; exact c'', fun c q => (k''.foot c q).elim (g' c) kp.fresh, kp.but k''.but g'⟩
    refine w_get st_len ar' hz rfl (v' := sts[i]) rfl ?_
    generalize sts[i] = st at next
    generalize (sts.take i).foldl (stepE (n : Int)) (List.replicate n none) = es at c' next
    have wl := c'.wf.len
    unfold stepE at next
    refine w_if' (fun q0 => ?_) fun q0 => ?_
    · rw [if_pos q0] at next
      exact t_CRoot c' fun G1 h3 c3 k3 => next c3 k3
    · rw [if_neg q0] at next
      refine w_if' (fun q1 => ?_) fun q1 => ?_
      · rw [if_pos q1] at next
        exact w_into (by omega) (by omega) (t_CChild c' fun G1 h3 c3 k3 => next c3 k3)
      · rw [if_neg q1] at next
        refine w_if' (fun q4 => ?_) fun q4 => ?_
        · rw [if_pos q4] at next
          refine w_into (by omega) (by omega) (t_CDrop' c' (fun hno h3 k3 => ?_) fun n' t ks e hn' bl s' G1 h3 c3 k3 _ _ _ => next c3 k3)
          have e : dropE es (intoV st.N n) = es := by unfold dropE; rw [hno]
          rw [e] at next
          exact next (c'.keep k3) ⟨.of k3, fun c q => .inl q, fun c q => k3.fresh q⟩
        · rw [if_neg q4] at next
          exact next c' (.refl _ _)
  · have c : ¬ (i : Int) < (s.len : Int) := c
    obtain rfl : i = sts.length := by omega
    rw [List.take_length] at c'
    exact y p _ G' h' c' kp g'
theorem CWF.parDesc {es : List En} (w : CWF es) {c : Nat} {u us} (hc : Has es c u us) {j : Int} (hne : j ≠ c) : Desc (chN (nds es)) j (c : Int) ↔ 0 ≤ u.Parent ∧ Desc (chN (nds es)) j u.Parent := by
  constructor
  · intro d
    cases d with
    | refl => exact absurd rfl hne
    | snoc d hz =>
      obtain ⟨a, v, vs, rfl, ha, hk⟩ := chN_mem hz
      obtain ⟨b, v', vs', e, hb, hp⟩ := w.down _ _ _ ha _ hk
      obtain rfl : c = b := by omega
      obtain ⟨rfl, _⟩ := hc.uniq hb
      rw [hp]
      exact ⟨by omega, d⟩
  · rintro ⟨h0, d⟩
    rcases w.up _ _ _ hc with q | ⟨i, t, ks, q, hi, hm, _⟩
    · omega
    · rw [q] at d
      exact d.snoc (by rw [chN_nds hi]; exact hm)
theorem t_under (x : Cat h p knob G es) {i : Nat} {t ks} (hi : Has es i t ks) {j : Int} {K : Bool → H → Prop} (y : ∀ b, (b = true ↔ Desc (chN (nds es)) j (i : Int)) → K b h) : m_law11_under (some ⟨p, 0, none⟩) (i : Int) j K h := by
  have w := x.wf
  have wl := w.len
  unfold m_law11_under
  refine w_for 300 (fun k (z : Int × Int) h' => h = h' ∧ z.2 = (k : Int) ∧ ∃ c u us, z.1 = ((c : Nat) : Int) ∧ Has es c u us ∧ (Desc (chN (nds es)) j (i : Int) ↔ Desc (chN (nds es)) j (c : Int)) ∧ ∃ V : List Int, V.length = k ∧ V.Nodup ∧ LiveL (nds es) V ∧ ∀ v ∈ V, Desc (chN (nds es)) (c : Int) v ∧ v ≠ (c : Int)) ?_
    ⟨rfl, rfl, i, t, ks, rfl, hi, Iff.rfl, [], rfl, List.nodup_nil, fun _ q => (by cases q), fun _ q => (by cases q)⟩
  rintro rec k ⟨z, kz⟩ h' hk ⟨rfl, ek, c, u, us, ec, hc, hd, V, vl, vn, vlive, vd⟩ more
  have ek : kz = (k : Int) := ek
  have ec : z = (c : Int) := ec
  subst ek; subst ec
  have hV : V.length ≤ es.length := nodup_le _ _ vn fun z hz => by
    obtain ⟨a, v, vs, rfl, ha⟩ := hasN_nds.1 (vlive z hz)
    exact ⟨a, ha.lt, rfl⟩
  refine w_ifT (decide_eq_true (by show (k : Int) < 300; omega)) (w_if' (fun q => ?_) fun q => ?_)
  · have q : (c : Int) = j := q
    exact y true ⟨fun _ => hd.2 (q ▸ .refl), fun _ => rfl⟩
  · have q : ¬ (c : Int) = j := q
    have key := w.parDesc hc (j := j) (fun e => q e.symm)
    refine t_CAt x ?_
    have eat : atOut es (c : Int) = (u, true) := by
      unfold atOut
      rw [(atE_has (i := (c : Int))).2 ⟨c, rfl, hc⟩]
    show mIf ((!(atOut es (c : Int)).2) || decide ((atOut es (c : Int)).1.Parent < 0)) _ _ h
    rw [eat]
    by_cases hp : u.Parent < 0
    · refine w_ifT (by simp [hp]) (y false ⟨fun z => (by cases z), fun z => ?_⟩)
      have := (key.1 (hd.1 z)).1
      omega
    · refine w_ifF (by simp [hp]) ?_
      rcases w.up _ _ _ hc with e | ⟨a, v, vs, e, ha, hm, _⟩
      · omega
      · refine more _ _ (by omega) ⟨rfl, ia1 k (by omega), a, v, vs, e, ha, hd.trans ?_, (c : Int) :: V, by rw [List.length_cons, vl], List.nodup_cons.2 ⟨fun m => (vd _ m).2 rfl, vn⟩, fun v' m => ?_, fun v' m => ?_⟩
        · rw [key, e]
          exact ⟨fun z => z.2, fun z => ⟨by omega, z⟩⟩
        · rcases List.mem_cons.1 m with rfl | m
          · exact hasN_nds.2 ⟨c, u, us, rfl, hc⟩
          · exact vlive v' m
        · have hac : (c : Int) ∈ chN (nds es) (a : Int) := by rw [chN_nds ha]; exact hm
          have dac : Desc (chN (nds es)) (a : Int) (c : Int) := Desc.refl.snoc hac
          rcases List.mem_cons.1 m with rfl | m
          · exact ⟨dac, fun e => w.forest.acyc hac (e ▸ .refl)⟩
          · have := vd v' m
            exact ⟨dac.trans this.1, fun e => w.forest.acyc hac (e ▸ this.1)⟩
end
/-- How many entries of each object a cut takes. -/
theorem Below.cnt {es : List En} (w : CWF es) {n : Nat} {t ks} (hn : Has es n t ks) {l : List Int} (bl : Below es n l) : (∀ o, cnt es o = cnt (cutE l es) o + if o = t.Cap.Obj then l.length else 0) ∧ (capsG 0 es).length = (capsG 0 (cutE l es)).length + l.length := by
  obtain ⟨m, hm, hpost, hperm⟩ := bl.pre.post w.forest
  have hmem : ∀ z, z ∈ m.reverse ↔ z ∈ l := fun z => hperm.mem_iff
  have hmlen := hperm.length_eq
  have hmnd : m.reverse.Nodup := hperm.nodup_iff.2 bl.nd
  have main : ∀ j, j ≤ m.reverse.length → (∀ o, K.cnt es o = K.cnt (cutE (m.reverse.take j) es) o + if o = t.Cap.Obj then j else 0) ∧ (capsG 0 es).length = (capsG 0 (cutE (m.reverse.take j) es)).length + j := by
    intro j
    induction j with
    | zero => intro _; rw [List.take_zero, cutE_nil]; exact ⟨fun o => by simp, rfl⟩
    | succ j ih =>
      intro hj
      have hjl : j < m.reverse.length := by omega
      obtain ⟨i1, i2⟩ := ih (by omega)
      have hz := List.getElem?_eq_getElem hjl
      generalize hzz : m.reverse[j] = zm at hz
      obtain ⟨q, u, us, rfl, hu⟩ := hasN_nds.1 (bl.live _ ((hmem _).1 (List.mem_of_getElem? hz)))
      have take1 : m.reverse.take (j + 1) = m.reverse.take j ++ [(q : Int)] := by rw [List.take_add_one, hz]; rfl
      have hqS : (q : Int) ∉ m.reverse.take j := fun w => by
        have nd := hmnd
        rw [← List.take_append_drop (j + 1) m.reverse, take1] at nd
        have nd := (List.nodup_append.1 nd).1
        rw [List.nodup_append] at nd
        exact nd.2.2 _ w _ (List.mem_singleton_self _) rfl
      have hkS : ∀ k ∈ us, k ∈ m.reverse.take j := fun k hk => hpost.behind hz k (by rw [chN_nds hu]; exact hk)
      have hpS : ∀ q' : Nat, u.Parent = q' → (q' : Int) ∉ m.reverse.take j := fun q' e w' => by
        rcases w.up _ _ _ hu with z | ⟨i', v, vs, z, hi', hm', _⟩
        · omega
        · obtain rfl : q' = i' := by omega
          obtain ⟨j', hj', w''⟩ := List.mem_take_iff_getElem.1 w'
          have w3 : m.reverse[j']? = some (q' : Int) := by rw [List.getElem?_eq_getElem (by omega), w'']
          have := hpost.behind w3 (q : Int) (by rw [chN_nds hi']; exact hm')
          exact hqS (List.take_subset_take_left _ (by omega) this)
      have st := w.cutStep hu hqS hkS hpS
      have sc := st.caps
      have hob := bl.obj w hn ((hmem _).1 (List.mem_of_getElem? hz)) hu
      rw [take1]
      refine ⟨fun o => ?_, ?_⟩
      · rw [i1 o, cnt_cons sc o, hob]
        by_cases z : o = t.Cap.Obj
        · subst z; simp only [if_pos]; omega
        · have z' : ¬ t.Cap.Obj = o := fun w => z w.symm
          simp only [if_neg z, if_neg z']
      · have := sc.length_eq
        rw [List.length_cons] at this
        omega
  have := main m.reverse.length (Nat.le_refl _)
  rw [List.take_length, cutE_congr hmem es, hmlen] at this
  exact this
theorem CWF.cntObj {es : List En} (w : CWF es) {n : Nat} {t ks} (hn : Has es n t ks) (hp : t.Parent = -1) {l : List Int} (bl : Below es n l) : K.cnt es t.Cap.Obj = l.length := by
  have h1 := (bl.cnt w hn).1 t.Cap.Obj
  rw [if_pos rfl] at h1
  have h0 : K.cnt (cutE l es) t.Cap.Obj = 0 := by
    cases e : K.cnt (cutE l es) t.Cap.Obj with
    | zero => rfl
    | succ k =>
      obtain ⟨j, u, us, hj, eo⟩ := cnt_pos.1 (by omega : 0 < K.cnt (cutE l es) t.Cap.Obj)
      obtain ⟨hjl, vs, hj', _⟩ := has_cut.1 hj
      obtain ⟨r, v, ws, hr, pr, orr, d⟩ := w.rootOf hj'
      obtain rfl := w.one _ _ _ _ _ _ hn hr hp pr (orr.trans eo).symm
      exact absurd (bl.pre.mem.2 ⟨_, by simp, d⟩) hjl
  omega
theorem Below.tell {es : List En} (w : CWF es) {n : Nat} {t ks} (hn : Has es n t ks) (hp : t.Parent = -1) {l : List Int} (bl : Below es n l) {i q : Nat} {u us} (hz : l[i]? = some (q : Int)) (hu : Has es q u us) :
    (i = 0 ∧ u.Parent = -1 ∧ placeIn l u.Parent = -1) ∨ (0 < i ∧ ∃ (m a : Nat) (v : S_api_Token) (vs : List Int), m < i ∧ l[m]? = some (a : Int) ∧ Has es a v vs ∧ u.Parent = a ∧ placeIn l u.Parent = m) := by
  rcases bl.ahead w hn hz hu with ⟨rfl, rfl⟩ | ⟨h0, hm⟩
  · refine .inl ⟨?_, hp, by rw [hp]; rfl⟩
    obtain ⟨l1, e, _⟩ := bl.pre.one
    have h1 := idx_of bl.nd hz
    have h2 := idx_of bl.nd (show l[0]? = some (q : Int) by rw [e]; rfl)
    omega
  · obtain ⟨m, hm', e⟩ := List.mem_take_iff_getElem.1 hm
    have hml : l[m]? = some u.Parent := by rw [List.getElem?_eq_getElem (by omega), e]
    obtain ⟨a, v, vs, ea, ha⟩ := hasN_nds.1 (bl.live _ (List.mem_of_getElem? hml))
    refine .inr ⟨by omega, m, a, v, vs, by omega, ea ▸ hml, ha, ea, ?_⟩
    unfold placeIn
    rw [if_neg (by omega), idx_of bl.nd hml]
section
variable {h : H} {p : Nat} {knob : Int} {G : Nat → Prop} {es : List En}
theorem t_told (x : Cat h p knob G es) {o : Int} (hex : ∃ (i : Nat) (t : S_api_Token) (ks : List Int), Has es i t ks ∧ t.Cap.Obj = o) {K : Bool → H → Prop} (y : ∀ h', Keeps h h' → K true h') : m_law11_told (some ⟨p, 0, none⟩) o K h := by
  have w := x.wf
  have wl := w.len
  unfold m_law11_told
  obtain ⟨i0, t0, ks0, hi0, ho0⟩ := hex
  refine t_COf x (fun hno => absurd ho0 (hno _ _ _ hi0)) fun n t ks l hn ho hp bl s1 h1 bu k1 f1 => t_CIn (x.keep k1) ?_
  have x1 := x.keep k1
  have hcnt := w.cntObj hn hp bl
  rw [ho] at hcnt
  have ls := bu.len
  unfold ofE at ls bu
  rw [List.length_map] at ls
  have ll := bl.len
  have l0 : 0 < l.length := bl.pre.len1 (by simp)
  refine w_ifF (by rw [hcnt, ls, decide_eq_true rfl, decide_eq_false (by omega)]; rfl) ?_
  refine w_for l.length (fun i (z : Int) h' => z = (i : Int) ∧ h1 = h') ?_ ⟨rfl, rfl⟩
  rintro rec i z h' hi ⟨rfl, rfl⟩ more
  refine w_if' (fun c => ?_) fun c => y _ k1
  have c : (i : Int) < (s1.len : Int) := c
  have hil : i < l.length := by omega
  have hz := List.getElem?_eq_getElem hil
  generalize hzz : l[i] = zm at hz
  obtain ⟨q, u, us, rfl, hu⟩ := hasN_nds.1 (bl.live _ (List.mem_of_getElem? hz))
  have htk : (l.map (tokIn es l))[i]? = some ⟨u.Cap, u.Rights, placeIn l u.Parent⟩ := by rw [List.getElem?_map, hz, Option.map_some, tokIn_has hu]
  have huo : u.Cap.Obj = o := by
    rw [← ho]
    exact bl.obj w hn (List.mem_of_getElem? hz) hu
  refine w_field tok_len bu.arr htk rfl (v' := u.Cap) (cells' := S_api_Cap.cells) (l1 := []) (l3 := (cTok ⟨u.Cap, u.Rights, placeIn l u.Parent⟩).drop 3) rfl rfl (t_CFind x1 ?_)
  rw [w.find hu]
  refine t_CAt x1 ?_
  have eat : atOut es (q : Int) = (u, true) := by
    unfold atOut
    rw [(atE_has (i := (q : Int))).2 ⟨q, rfl, hu⟩]
  show mJoin _ _ h1
  have rdO : ∀ {k : Int → H → Prop}, k u.Cap.Obj h1 → mIdx s1 (i : Int) 5 (fun ad => mLoad (cInt .i64) ((ad.add 0).add 0) k) h1 := fun z => by
    refine w_idx tok_len bu.arr htk rfl fun ad _ ha => w_load (v := u.Cap.Obj) ?_ z
    rw [add_zero, add_zero]
    exact At.head (l2 := (cTok ⟨u.Cap, u.Rights, placeIn l u.Parent⟩).drop 1) ha
  have rdR : ∀ {k : Int → H → Prop}, k u.Rights h1 → mIdx s1 (i : Int) 5 (fun ad => mLoad (cInt .i64) (ad.add 3) k) h1 := fun z => w_field tok_len bu.arr htk rfl (v' := u.Rights) (cells' := cInt .i64) (l1 := (cTok ⟨u.Cap, u.Rights, placeIn l u.Parent⟩).take 3) (l3 := (cTok ⟨u.Cap, u.Rights, placeIn l u.Parent⟩).drop 4) rfl rfl z
  have rdP : ∀ {k : Int → H → Prop}, k (placeIn l u.Parent) h1 → mIdx s1 (i : Int) 5 (fun ad => mLoad (cInt .i64) (ad.add 4) k) h1 := fun z => w_field tok_len bu.arr htk rfl (v' := placeIn l u.Parent) (cells' := cInt .i64) (l1 := (cTok ⟨u.Cap, u.Rights, placeIn l u.Parent⟩).take 4) (l3 := []) rfl rfl z
  have tell := bl.tell w hn hp hz hu
  have tell1 : (decide ((i : Int) = 0) == decide (u.Parent = -1)) = true := by
    rcases tell with ⟨rfl, e, _⟩ | ⟨h0, m, a, v, vs, _, _, _, e, _⟩
    · rw [e]; rfl
    · rw [decide_eq_false (by omega), decide_eq_false (by omega)]; rfl
  have tell2 : (decide ((i : Int) = 0) == decide (placeIn l u.Parent = -1)) = true := by
    rcases tell with ⟨rfl, _, e⟩ | ⟨h0, m, a, v, vs, _, _, _, _, e⟩
    · rw [e]; rfl
    · rw [decide_eq_false (by omega), decide_eq_false (by omega)]; rfl
  have tell3 : decide ((i : Int) ≤ placeIn l u.Parent) = false := by
    rcases tell with ⟨rfl, _, e⟩ | ⟨h0, m, a, v, vs, _, _, _, _, e⟩
    · rw [e]; rfl
    · exact decide_eq_false (by omega)
  refine w_joinV false (fun j hj => w_ifF rfl (rdO ?_)) ?_
  · rw [huo, decide_eq_true rfl]; exact hj
  refine w_joinV false (fun j hj => w_ifF rfl (rdR ?_)) ?_
  · show j (!decide (u.Rights = (atOut es (q : Int)).1.Rights)) h1
    rw [eat, decide_eq_true rfl]; exact hj
  refine w_joinV false (fun j hj => w_ifF ?_ (rdP ?_)) ?_
  · show (false || !(decide ((i : Int) = 0) == decide ((atOut es (q : Int)).1.Parent = -1))) = false
    rw [eat, tell1]; rfl
  · rw [tell2]; exact hj
  refine w_joinV false (fun j hj => w_ifF rfl (rdP ?_)) ?_
  · rw [tell3]; exact hj
  refine w_ifF rfl (w_joinV () (fun j hj => w_if' (fun ci => ?_) fun _ => hj) ?_)
  · have ci : 0 < (i : Int) := ci
    show m_catalogue_Catalogue_At _ (atOut es (q : Int)).1.Parent _ h1
    rw [eat]
    rcases tell with ⟨rfl, _, _⟩ | ⟨_, m, a, v, vs, hmi, hma, hv, ea, em⟩
    · omega
    rw [ea]
    refine t_CAt x1 ?_
    have eata : atOut es (a : Int) = (v, true) := by
      unfold atOut
      rw [(atE_has (i := (a : Int))).2 ⟨a, rfl, hv⟩]
    rw [eata]
    refine rdP (w_joinV false (fun j' hj' => ?_) ?_)
    · refine w_ifF (by rw [em]; exact decide_eq_false (by omega)) (rdP ?_)
      rw [em]
      have htm : (l.map (tokIn es l))[m]? = some ⟨v.Cap, v.Rights, placeIn l v.Parent⟩ := by rw [List.getElem?_map, hma, Option.map_some, tokIn_has hv]
      refine w_field tok_len bu.arr htm rfl (v' := v.Cap) (cells' := S_api_Cap.cells) (l1 := []) (l3 := (cTok ⟨v.Cap, v.Rights, placeIn l v.Parent⟩).drop 3) rfl rfl ?_
      rw [cap_eqB, decide_eq_true rfl]
      exact hj'
    · exact w_ifF rfl hj
  · refine w_for i (fun j (z : Int) h' => z = (j : Int) ∧ h1 = h') ?_ ⟨rfl, rfl⟩
    rintro rec2 j z h' hj ⟨rfl, rfl⟩ more2
    refine w_if' (fun cj => ?_) fun cj => more _ _ hil ⟨ia1 i (by omega), rfl⟩
    have cj : (j : Int) < (i : Int) := cj
    have hjl : j < l.length := by omega
    have hzj := List.getElem?_eq_getElem hjl
    generalize hzzj : l[j] = zj at hzj
    obtain ⟨q', u', us', rfl, hu'⟩ := hasN_nds.1 (bl.live _ (List.mem_of_getElem? hzj))
    have htj : (l.map (tokIn es l))[j]? = some ⟨u'.Cap, u'.Rights, placeIn l u'.Parent⟩ := by rw [List.getElem?_map, hzj, Option.map_some, tokIn_has hu']
    refine w_idx tok_len bu.arr htj rfl fun ad _ ha => w_idx tok_len bu.arr htk rfl fun ad' _ ha' => w_load (v := u'.Cap) (cells := S_api_Cap.cells) ?_ (w_load (v := u.Cap) (cells := S_api_Cap.cells) ?_ ?_)
    · rw [add_zero]; exact At.head (l2 := (cTok ⟨u'.Cap, u'.Rights, placeIn l u'.Parent⟩).drop 3) ha
    · rw [add_zero]; exact At.head (l2 := (cTok ⟨u.Cap, u.Rights, placeIn l u.Parent⟩).drop 3) ha'
    · rw [cap_eqB]
      refine w_ifF (decide_eq_false fun e => ?_) (more2 _ _ (by omega) ⟨ia1 j (by omega), rfl⟩)
      have := w.cap _ _ _ _ _ _ hu' hu e
      subst this
      have h1 := idx_of bl.nd hz
      have h2 := idx_of bl.nd hzj
      omega
end
end Go.Proofs.Ytiajjcboddaenaa.K
