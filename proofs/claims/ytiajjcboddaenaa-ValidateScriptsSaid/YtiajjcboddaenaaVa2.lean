/- The validator: what it answers is what the catalogue says. -/
import Derived.Test.YtiajjcboddaenaaVa1
import Derived.Test.YtiajjcboddaenaaLc5
import Derived.Test.YtiajjcboddaenaaFvalidate
import Derived.Test.YtiajjcboddaenaaFref19
namespace Go.Proofs.Ytiajjcboddaenaa.K
open Go
/-- A call of a method through an interface, by the method's contract. -/
theorem invoke_of {P : Program} (s : Spec P) {t : TypeId} {v : Value} {name : String} {args : List Value} (a : Den s.A) (hm : methOf P t name = some s.f) (e : #[v] ++ args.toArray = (valsD s.A a).toArray) {k : Den s.R → HP} {h : H} (hx : s.m a k h) :
    mInvoke P (fun r => outV (valsD s.R r)) name (.iface t v) args k h := by
  obtain ⟨fn, c⟩ := s.callee
  exact ⟨t, v, s.f, fn, rfl, hm, c, by rw [e]; exact s.ok a k h hx⟩
structure Val (h : H) (v p k : Nat) (D : Nat → Prop) (es : List En) : Prop where
  ex : ∃ knob G, h v = some (.cells [Value.pointer (some ⟨p, 0, none⟩), Value.pointer (some ⟨k, 0, none⟩)].toArray 248 (0, 0)) ∧ Cat h p knob G es ∧ Cache h k es ∧ ¬ G v ∧ ¬ G k ∧ v ≠ k ∧ ∀ c, D c ↔ G c ∨ c = v ∨ c = k
section
variable {h : H} {v p k : Nat} {D : Nat → Prop} {es : List En}
theorem Val.keep {h' : H} (x : Val h v p k D es) (kk : Keeps h h') : Val h' v p k D es := by
  obtain ⟨knob, G, a, b, c, r⟩ := x.ex
  exact ⟨knob, G, kk _ _ a, b.keep kk, c.keep kk, r⟩
theorem Val.but {h' : H} {E : Nat → Prop} (x : Val h v p k D es) (kk : But E h h') (f : ∀ c, E c → ¬ D c) : Val h' v p k D es := by
  obtain ⟨knob, G, a, b, c, g1, g2, g3, d⟩ := x.ex
  exact ⟨knob, G, kk _ _ a fun e => f _ e ((d _).2 (.inr (.inl rfl))), b.but kk fun z e g => f z e ((d z).2 (.inl g)), c.but kk fun e => f _ e ((d _).2 (.inr (.inr rfl))), g1, g2, g3, d⟩
theorem Val.has (x : Val h v p k D es) {c : Nat} (f : D c) : h c ≠ none := by
  obtain ⟨knob, G, a, b, cc, _, _, _, d⟩ := x.ex
  rcases (d c).1 f with g | rfl | rfl
  · exact b.has g
  · rw [a]; exact fun z => by cases z
  · exact cc.has
theorem Val.inK (x : Val h v p k D es) : D k := by
  obtain ⟨knob, G, a, b, cc, _, _, _, d⟩ := x.ex
  exact (d k).2 (.inr (.inr rfl))
theorem Val.wf (x : Val h v p k D es) : CWF es := by obtain ⟨_, _, _, b, _⟩ := x.ex; exact b.wf
/-- Only the cache has moved. -/
theorem Val.cache {h' : H} (x : Val h v p k D es) (c' : Cache h' k es) (b : But (· = k) h h') : Val h' v p k D es := by
  obtain ⟨knob, G, a, ct, c, g1, g2, g3, d⟩ := x.ex
  exact ⟨knob, G, b _ _ a g3, ct.but b fun z e g => by (have e : z = k := e); exact g2 (e ▸ g), c', g1, g2, g3, d⟩
theorem t_Vrights (x : Val h v p k D es) {c : S_api_Cap} {K : Int × Bool → H → Prop} (no : findE es c = none → ∀ h', Val h' v p k D es → But (· = k) h h' → (∀ z, h' z = none → h z = none) → K (0, false) h')
    (hit : ∀ n t ks, Has es n t ks → t.Cap = c → ∀ h', Val h' v p k D es → But (· = k) h h' → (∀ z, h' z = none → h z = none) → K (t.Rights, true) h') : m_validate_Validator_rights (some ⟨v, 0, none⟩) c K h := by
  unfold m_validate_Validator_rights
  have x0 := x
  obtain ⟨knob, G, a, ct, ca, g1, g2, g3, d⟩ := x.ex
  have av0 : ∀ {hh : H}, hh v = some (.cells [Value.pointer (some ⟨p, 0, none⟩), Value.pointer (some ⟨k, 0, none⟩)].toArray 248 (0, 0)) → At hh ((⟨v, 0, none⟩ : Addr).add 0) (cPtr (some ⟨p, 0, none⟩)) := fun q => by
    rw [pt_add]; exact At.own (l1 := []) (l3 := [Value.pointer (some ⟨k, 0, none⟩)]) q rfl
  have av1 : ∀ {hh : H}, hh v = some (.cells [Value.pointer (some ⟨p, 0, none⟩), Value.pointer (some ⟨k, 0, none⟩)].toArray 248 (0, 0)) → At hh ((⟨v, 0, none⟩ : Addr).add 1) (cPtr (some ⟨k, 0, none⟩)) := fun q => by
    rw [pt_add]; exact At.own (l1 := [Value.pointer (some ⟨p, 0, none⟩)]) (l3 := []) q rfl
  refine w_deref (w_deref (w_load (av1 a) (w_load (av0 a) (w_box fun b h1 f1 c1 k1 => ?_))))
  have ar : Arr cPV h1 ⟨some ⟨b, 0, none⟩, 2, 2⟩ [(⟨Value.iface 325 (S_validate_lately.val (⟨some ⟨k, 0, none⟩⟩ : S_validate_lately)), rfl, rfl⟩ : PV), (⟨Value.iface 327 (S_validate_now.val (⟨some ⟨p, 0, none⟩⟩ : S_validate_now)), rfl, rfl⟩ : PV)] := ⟨rfl, Nat.le_refl _, fun _ => ⟨_, rfl, at_box c1⟩⟩
  have hbk : b ≠ k := fun e => ca.has (e ▸ f1)
  have pv_len : ∀ x : PV, (cPV x).length = 1 := fun _ => rfl
  -- two layers
  refine ⟨3, ?_⟩
  refine w_ifT rfl (w_get pv_len ar (i := 0) rfl rfl rfl ?_)
  have use1 : ∀ {K : Int × Bool → H → Prop} {h' : H}, m_validate_lately_rights (⟨some ⟨k, 0, none⟩⟩ : S_validate_lately) c K h' → mInvoke (T := Int × Bool) Try.prog (fun r => Value.tuple #[(Value.int .i64 r.1), (Value.bool r.2)]) "sesame/validate.rights" (Value.iface 325 (S_validate_lately.val (⟨some ⟨k, 0, none⟩⟩ : S_validate_lately))) [(S_api_Cap.val c)] K h' := fun hm =>
    invoke_of s_validate_lately_rights (args := [S_api_Cap.val c]) ((⟨some ⟨k, 0, none⟩⟩ : S_validate_lately), c) (by kernel_rfl) rfl hm
  have use2 : ∀ {K : Int × Bool → H → Prop} {h' : H}, m_validate_now_rights (⟨some ⟨p, 0, none⟩⟩ : S_validate_now) c K h' → mInvoke (T := Int × Bool) Try.prog (fun r => Value.tuple #[(Value.int .i64 r.1), (Value.bool r.2)]) "sesame/validate.rights" (Value.iface 327 (S_validate_now.val (⟨some ⟨p, 0, none⟩⟩ : S_validate_now))) [(S_api_Cap.val c)] K h' := fun hm =>
    invoke_of s_validate_now_rights (args := [S_api_Cap.val c]) ((⟨some ⟨p, 0, none⟩⟩ : S_validate_now), c) (by kernel_rfl) rfl hm
  refine use1 ?_
  unfold m_validate_lately_rights
  refine t_KGet (ca.keep k1) (fun h2 ca2 b2 d2 => ?_) fun n t ks ht tc h2 ca2 b2 d2 => ?_
  · -- the catalogue is asked
    have b02 : But (· = k) h h2 := (But.of k1).trans b2 fun _ q => .inl q
    have d02 : ∀ z, h2 z = none → h z = none := fun z q => k1.fresh (d2 z q)
    have x2 := x0.cache ca2 b02
    have ar2 := ar.but b2 fun _ ad had q => by cases had; exact hbk q
    have ct2 := ct.but b02 fun z e g => by (have e : z = k := e); exact g2 (e ▸ g)
    refine w_ifT rfl (w_ifT rfl (w_get pv_len ar2 (i := 1) rfl rfl rfl (use2 ?_)))
    unfold m_validate_now_rights
    refine t_CFind ct2 ?_
    cases hf : findE es c with
    | none =>
      refine w_ifT rfl (w_ifT rfl (w_ifF rfl (no hf h2 x2 b02 d02)))
    | some n =>
      obtain ⟨t, ks, ht, tc⟩ := findE_has hf
      refine w_ifF rfl (t_CAt ct2 ?_)
      rw [show atOut es (((some n).map fun n : Nat => (n : Int)).getD 0, (some n).isSome).1 = (t, true) from atOut_has ht]
      refine w_ifF rfl (.inr ⟨327, _, rfl, .inr ⟨rfl, (⟨some ⟨p, 0, none⟩⟩ : S_validate_now), rfl, w_ifT rfl (w_deref (w_load (av1 (b02 _ _ a g3)) ?_))⟩⟩)
      subst tc
      refine t_KPut ca2 ht fun h3 ca3 b3 d3 => ?_
      exact hit n t ks ht rfl h3 (x2.cache ca3 b3) (b02.trans b3 fun _ q => .inl q) fun z q => d02 z (d3 z q)
  · have b02 : But (· = k) h h2 := (But.of k1).trans b2 fun _ q => .inl q
    refine w_ifF rfl (.inr ⟨325, _, rfl, .inl ⟨by decide, w_ifF rfl ?_⟩⟩)
    exact hit n t ks ht tc h2 (x0.cache ca2 b02) b02 fun z q => k1.fresh (d2 z q)
def givenO (es : List En) (c : S_api_Cap) (need : Int) : Int := match findE es c with
  | none => 3
  | some n => if partOf need (atOut es (n : Int)).1.Rights = true then 0 else 4
theorem givenO_has {es : List En} (w : CWF es) {n t ks} (ht : Has es n t ks) (need : Int) : givenO es t.Cap need = if partOf need t.Rights = true then 0 else 4 := by
  unfold givenO
  rw [w.find ht]
  simp only
  rw [atOut_has ht]
theorem t_VGiven (x : Val h v p k D es) {c : S_api_Cap} {need : Int} {K : Int → H → Prop} (y : ∀ h', Val h' v p k D es → But (· = k) h h' → (∀ z, h' z = none → h z = none) → K (givenO es c need) h') : m_validate_Validator_Given (some ⟨v, 0, none⟩) c need K h := by
  unfold m_validate_Validator_Given
  refine t_Vrights x (fun hf h' x' b' d' => w_ifT rfl ?_) fun n t ks ht tc h' x' b' d' => w_ifF rfl ?_
  · have e : givenO es c need = 3 := by unfold givenO; rw [hf]
    rw [e] at y
    exact y h' x' b' d'
  · subst tc
    rw [givenO_has x.wf ht] at y
    refine w_pure (partOf need t.Rights) (fun _ _ z => by unfold m_mask_Has; exact w_Part z) ?_
    cases hp : partOf need t.Rights with
    | true =>
      rw [hp, if_pos rfl] at y
      exact w_ifF rfl (y h' x' b' d')
    | false =>
      rw [hp, if_neg (by decide)] at y
      exact w_ifT rfl (y h' x' b' d')
theorem t_R19Given {q ev : Nat} {G : Nat → Prop} (x : Ref h q ev G es) {c : S_api_Cap} {need : Int} {K : Int → H → Prop} (y : K (givenO es c need) h) : m_ref19_Given (some ⟨q, 0, none⟩) c need K h := by
  unfold m_ref19_Given
  refine t_RFind x ?_
  cases hf : findE es c with
  | none =>
    have e : givenO es c need = 3 := by unfold givenO; rw [hf]
    rw [e] at y
    exact w_ifT rfl y
  | some n =>
    obtain ⟨t, ks, ht, rfl⟩ := findE_has hf
    rw [givenO_has x.wf ht] at y
    refine w_ifF rfl (t_RAt x ?_)
    rw [show atOut es (((some n).map fun n : Nat => (n : Int)).getD 0, (some n).isSome).1 = (t, true) from atOut_has ht]
    refine w_RPart (x.wf.right _ _ _ ht) ?_
    cases hp : partOf need t.Rights with
    | true =>
      rw [hp, if_pos rfl] at y
      exact w_ifF rfl y
    | false =>
      rw [hp, if_neg (by decide)] at y
      exact w_ifT rfl y
def namedO (es : List En) (o need : Int) : List S_api_Cap → Int → S_api_Cap × Int
  | [], a => (⟨0, ⟨0, 0⟩⟩, a)
  | c :: r, a => if c.Obj = o then (if givenO es c need = 0 then (c, 0) else if givenO es c need = 4 then namedO es o need r 4 else namedO es o need r a) else namedO es o need r a
theorem namedO_cons (es : List En) (o need : Int) (c : S_api_Cap) (r : List S_api_Cap) (a : Int) : namedO es o need (c :: r) a = if c.Obj = o then (if givenO es c need = 0 then (c, 0) else if givenO es c need = 4 then namedO es o need r 4 else namedO es o need r a) else namedO es o need r a := rfl
theorem t_VNamed (x : Val h v p k D es) {o need : Int} {s : Sl} {L : List S_api_Cap} (ar : Arr S_api_Cap.cells h s L) (hn : L.length ≤ 9223372036854775807) (hk : L ≠ [] → ¬ s.foot k) {K : S_api_Cap × Int → H → Prop} (y : ∀ h', Val h' v p k D es → But (· = k) h h' → (∀ z, h' z = none → h z = none) → K (namedO es o need L 3) h') : m_validate_Validator_Named (some ⟨v, 0, none⟩) o need s K h := by
  unfold m_validate_Validator_Named
  have hl := ar.len
  refine w_for L.length (fun i (z : Int × Int) h' => z.2 = (i : Int) ∧ namedO es o need L 3 = namedO es o need (L.drop i) z.1 ∧ Val h' v p k D es ∧ But (· = k) h h' ∧ ∀ z, h' z = none → h z = none) ?_ ⟨rfl, rfl, x, .refl _ _, fun _ q => q⟩
  rintro rec i ⟨acc, iz⟩ h' hi ⟨ei, e, x', b', d'⟩ more
  have ei : iz = (i : Int) := ei
  subst ei
  have e : namedO es o need L 3 = namedO es o need (L.drop i) acc := e
  refine w_if' (fun c => ?_) fun c => ?_
  · have c : (i : Int) < (s.len : Int) := c
    have hil : i < L.length := by omega
    have hz := List.getElem?_eq_getElem hil
    have ed : L.drop i = L[i] :: L.drop (i + 1) := List.drop_eq_getElem_cons hil
    rw [ed] at e
    have ei : iAdd .i64 (i : Int) 1 = ((i + 1 : Nat) : Int) := (iAdd_eq (by omega) (by omega)).trans (by omega)
    generalize L[i] = cc at hz e
    refine w_get cap_len (ar.but b' fun hne ad had q => hk hne ⟨ad, had, q⟩) hz rfl (v' := cc) rfl ?_
    rw [namedO_cons] at e
    by_cases ho : cc.Obj = o
    · rw [if_pos ho] at e
      refine w_ifF (by simp [ho]) (t_VGiven x' fun h2 x2 b2 d2 => ?_)
      have b02 : But (· = k) h h2 := b'.trans b2 fun _ q => .inl q
      have d02 : ∀ z, h2 z = none → h z = none := fun z q => d' z (d2 z q)
      refine w_if' (fun q => ?_) fun q => ?_
      · rw [if_pos q] at e
        rw [e] at y
        exact y h2 x2 b02 d02
      · rw [if_neg q] at e
        refine w_if' (fun q4 => ?_) fun q4 => ?_
        · rw [if_pos q4] at e
          exact more _ _ hil ⟨ei, e, x2, b02, d02⟩
        · rw [if_neg q4] at e
          exact more _ _ hil ⟨ei, e, x2, b02, d02⟩
    · rw [if_neg ho] at e
      exact w_ifT (by simp [ho]) (more _ _ hil ⟨ei, e, x', b', d'⟩)
  · have c : ¬ (i : Int) < (s.len : Int) := c
    obtain rfl : i = L.length := by omega
    rw [List.drop_length] at e
    have e : namedO es o need L 3 = (⟨0, ⟨0, 0⟩⟩, acc) := e
    rw [e] at y
    exact y h' x' b' d'
theorem t_R19Named {q ev : Nat} {G : Nat → Prop} (x : Ref h q ev G es) {o need : Int} {s : Sl} {L : List S_api_Cap} (ar : Arr S_api_Cap.cells h s L) (hn : L.length ≤ 9223372036854775807) {K : S_api_Cap × Int → H → Prop} (y : K (namedO es o need L 3) h) : m_ref19_Named (some ⟨q, 0, none⟩) o need s K h := by
  unfold m_ref19_Named
  have hl := ar.len
  refine w_for L.length (fun i (z : Int × Int) h' => h = h' ∧ z.2 = (i : Int) ∧ namedO es o need L 3 = namedO es o need (L.drop i) z.1) ?_ ⟨rfl, rfl, rfl⟩
  rintro rec i ⟨acc, iz⟩ h' hi ⟨rfl, ei, e⟩ more
  have ei : iz = (i : Int) := ei
  subst ei
  have e : namedO es o need L 3 = namedO es o need (L.drop i) acc := e
  refine w_if' (fun c => ?_) fun c => ?_
  · have c : (i : Int) < (s.len : Int) := c
    have hil : i < L.length := by omega
    have hz := List.getElem?_eq_getElem hil
    have ed : L.drop i = L[i] :: L.drop (i + 1) := List.drop_eq_getElem_cons hil
    rw [ed] at e
    have ei : iAdd .i64 (i : Int) 1 = ((i + 1 : Nat) : Int) := (iAdd_eq (by omega) (by omega)).trans (by omega)
    generalize L[i] = cc at hz e
    refine w_field cap_len ar hz rfl (v' := cc.Obj) (cells' := cInt .i64) (l1 := []) (l3 := (S_api_Cap.cells cc).drop 1) rfl rfl ?_
    rw [namedO_cons] at e
    by_cases ho : cc.Obj = o
    · rw [if_pos ho] at e
      refine w_ifF (by simp [ho]) (w_get cap_len ar hz rfl (v' := cc) rfl (t_R19Given x ?_))
      refine w_if' (fun q => ?_) fun q => ?_
      · rw [if_pos q] at e
        rw [e] at y
        exact w_get cap_len ar hz rfl (v' := cc) rfl y
      · rw [if_neg q] at e
        refine w_if' (fun q4 => ?_) fun q4 => ?_
        · rw [if_pos q4] at e
          exact more _ _ hil ⟨rfl, ei, e⟩
        · rw [if_neg q4] at e
          exact more _ _ hil ⟨rfl, ei, e⟩
    · rw [if_neg ho] at e
      exact w_ifT (by simp [ho]) (more _ _ hil ⟨rfl, ei, e⟩)
  · have c : ¬ (i : Int) < (s.len : Int) := c
    obtain rfl : i = L.length := by omega
    rw [List.drop_length] at e
    have e : namedO es o need L 3 = (⟨0, ⟨0, 0⟩⟩, acc) := e
    rw [e] at y
    exact y
end
end Go.Proofs.Ytiajjcboddaenaa.K
