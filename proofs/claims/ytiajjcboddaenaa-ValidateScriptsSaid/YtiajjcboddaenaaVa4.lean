/- ValidateSame: two desks with caches of their own say the same. -/
import Derived.Test.YtiajjcboddaenaaVa3
namespace Go.Proofs.Ytiajjcboddaenaa.K
open Go
theorem givenO_cases (es : List En) (c : S_api_Cap) (need : Int) : givenO es c need = 0 ∨ givenO es c need = 3 ∨ givenO es c need = 4 := by
  unfold givenO
  split
  · exact .inr (.inl rfl)
  · split
    · exact .inl rfl
    · exact .inr (.inr rfl)
theorem op_len : ∀ x, (S_law19_Op.cells x).length = 7 := fun _ => rfl
def accO (b : Bool) : Int := if b = true then 4 else 3
section
variable {h : H} {d v p k q d' v' p' k' q' : Nat} {D D' : Nat → Prop} {es : List En}
/-- A slice whose elements lie in memory lies off a block that is new. -/
theorem off_new {T : Type} {cells : T → List Value} {h0 : H} {s : Sl} {L : List T} (ar : Arr cells h0 s L) {b : Nat} (hb : h0 b = none) : L ≠ [] → ¬ s.foot b := fun hne ⟨a, ha, e⟩ => by
  obtain ⟨a', ha', at'⟩ := ar.at_ hne
  rw [ha] at ha'; cases ha'
  obtain ⟨o, eo⟩ := at'.ex
  rw [e, hb] at eo; cases eo
theorem t_named {h0 : H} (kp : Keeps h0 h) (x : Desk h d v p k q D es es) (x' : Desk h d' v' p' k' q' D' es es) (ap : ∀ c, D c → ¬ D' c) (fD : ∀ c, D c → h0 c = none) (fD' : ∀ c, D' c → h0 c = none) {o : S_law19_Op} {L : List S_api_Cap} (ar : Arr S_api_Cap.cells h0 o.L L) (hn : L.length ≤ 9223372036854775807) {K : Bool → H → Prop}
    (y : ∀ hh, Desk hh d v p k q D es es → Desk hh d' v' p' k' q' D' es es → Keeps h0 hh → K true hh) : m_law19_named (some ⟨d, 0, none⟩) (some ⟨d', 0, none⟩) o K h := by
  unfold m_law19_named
  generalize eR : namedO es o.P o.N L 3 = R
  refine w_deref (w_load x.c1 ?_)
  refine w_joinP (fun (s3 : Addr × S_api_Cap × Int) hh => ∃ b, s3 = (⟨b, 0, none⟩, R.1, R.2) ∧ Desk hh d v p k q D es es ∧ Desk hh d' v' p' k' q' D' es es ∧ Keeps h0 hh ∧ h0 b = none ∧ ¬ D b ∧ ¬ D' b ∧ hh b = some (.cells (S_api_Cap.cells ⟨0, ⟨0, 0⟩⟩).toArray 39 (0, 0))) (fun j hj => ?_) ?_
  · refine t_dNamedB x (ar.keep kp) hn (off_new ar (fD _ x.inK)) fun b h1 x1 b1 d1 f1 c1 => ?_
    rw [eR]
    exact hj _ _ ⟨b, rfl, x1, x'.but b1 fun c e g => by (have e : c = k := e); exact ap _ x.inK (e ▸ g), kp.but b1 fun c e => e ▸ fD _ x.inK, kp.fresh f1, fun g => x.has g f1, fun g => x'.has g f1, c1⟩
  rintro _ h1 ⟨b, rfl, x1, x1', k1, fb, nb, nb', c1⟩
  refine w_setBox (new := S_api_Cap.cells R.1) c1 rfl fun h2 c2 b2 d2 => ?_
  have x2 := x1.but b2 fun c e g => by (have e : c = b := e); exact nb (e ▸ g)
  have x2' := x1'.but b2 fun c e g => by (have e : c = b := e); exact nb' (e ▸ g)
  have k2 : Keeps h0 h2 := k1.but b2 fun c e => e ▸ fb
  refine w_deref (w_load x2'.c1 ?_)
  refine w_joinP (fun (s3 : Addr × S_api_Cap × Int) hh => ∃ b', s3 = (⟨b', 0, none⟩, R.1, R.2) ∧ Desk hh d v p k q D es es ∧ Desk hh d' v' p' k' q' D' es es ∧ Keeps h0 hh ∧ h0 b' = none ∧ ¬ D b' ∧ ¬ D' b' ∧ b' ≠ b ∧ hh b = some (.cells (S_api_Cap.cells R.1).toArray 39 (0, 0)) ∧ hh b' = some (.cells (S_api_Cap.cells ⟨0, ⟨0, 0⟩⟩).toArray 39 (0, 0))) (fun j hj => ?_) ?_
  · refine t_dNamedB x2' (ar.keep k2) hn (off_new ar (fD' _ x'.inK)) fun b' h3 x3 b3 d3 f3 c3 => ?_
    rw [eR]
    exact hj _ _ ⟨b', rfl, x2.but b3 fun c e g => by (have e : c = k' := e); exact ap _ g (e ▸ x'.inK), x3, k2.but b3 fun c e => e ▸ fD' _ x'.inK, k2.fresh f3, fun g => x2.has g f3, fun g => x2'.has g f3, fun e => (by rw [e, c2] at f3; cases f3), b3 _ _ c2 fun e => nb' (e ▸ x'.inK), c3⟩
  rintro _ h3 ⟨b', rfl, x3, x3', k3, fb', mb, mb', hbb, c2, c3⟩
  refine w_setBox (new := S_api_Cap.cells R.1) c3 rfl fun h4 c4 b4 d4 => ?_
  have x4 := x3.but b4 fun c e g => by (have e : c = b' := e); exact mb (e ▸ g)
  have x4' := x3'.but b4 fun c e g => by (have e : c = b' := e); exact mb' (e ▸ g)
  have k4 : Keeps h0 h4 := k3.but b4 fun c e => e ▸ fb'
  have c2' := b4 _ _ c2 fun e => hbb e.symm
  refine w_load (v := R.1) (at_box c2') (w_load (v := R.1) (at_box c4) (w_ifF ?_ ?_))
  · rw [cap_eqB, decide_eq_true rfl, decide_eq_true rfl]; rfl
  have ar4 := ar.keep k4
  have hl := ar4.len
  refine w_for L.length (fun i (z : Bool × Int) hh => h4 = hh ∧ z.2 = (i : Int) ∧ R = namedO es o.P o.N (L.drop i) (accO z.1)) ?_ ⟨rfl, rfl, eR.symm⟩
  rintro rec i ⟨any, iz⟩ hh hi ⟨rfl, ei, e⟩ more
  have ei : iz = (i : Int) := ei
  subst ei
  have e : R = namedO es o.P o.N (L.drop i) (accO any) := e
  refine w_if' (fun c => ?_) fun c => ?_
  · have c : (i : Int) < (o.L.len : Int) := c
    have hil : i < L.length := by omega
    have hz := List.getElem?_eq_getElem hil
    have ed : L.drop i = L[i] :: L.drop (i + 1) := List.drop_eq_getElem_cons hil
    rw [ed] at e
    have ei : iAdd .i64 (i : Int) 1 = ((i + 1 : Nat) : Int) := (iAdd_eq (by omega) (by omega)).trans (by omega)
    generalize L[i] = cc at hz e
    rw [namedO_cons] at e
    refine w_field cap_len ar4 hz rfl (v' := cc.Obj) (cells' := cInt .i64) (l1 := []) (l3 := (S_api_Cap.cells cc).drop 1) rfl rfl ?_
    by_cases ho : cc.Obj = o.P
    · rw [if_pos ho] at e
      refine w_ifF (by simp [ho]) (w_get cap_len ar4 hz rfl (v' := cc) rfl (t_says x4 (w_if' (fun g => ?_) fun g => ?_)))
      · rw [if_pos g] at e
        refine w_num (w_joinV true (fun j hj => w_ifT (by rw [e]; rfl) (w_idx cap_len ar4 hz rfl fun ad _ had => w_load (v := R.1) (at_box c2') (w_load (v := cc) had ?_))) ?_)
        · rw [cap_eqB, e, decide_eq_true rfl]; exact hj
        · refine w_ifT rfl (w_deref (w_load x4.c1 (w_load (v := R.1) (at_box c2') (t_dGiven x4 fun h5 x5 b5 d5 => w_num ?_))))
          have : givenO es R.1 o.N = 0 := by rw [e]; exact g
          rw [this]
          exact y h5 x5 (x4'.but b5 fun c e g => by (have e : c = k := e); exact ap _ x.inK (e ▸ g)) (k4.but b5 fun c e => e ▸ fD _ x.inK)
      · rw [if_neg g] at e
        refine more _ _ hil ⟨rfl, ei, ?_⟩
        show R = namedO es o.P o.N (L.drop (i + 1)) (accO (any || decide (givenO es cc o.N = 4)))
        by_cases g4 : givenO es cc o.N = 4
        · rw [if_pos g4] at e
          rw [decide_eq_true g4, Bool.or_true]; exact e
        · rw [if_neg g4] at e
          rw [decide_eq_false g4, Bool.or_false]; exact e
    · rw [if_neg ho] at e
      exact w_ifT (by simp [ho]) (more _ _ hil ⟨rfl, ei, e⟩)
  · have c : ¬ (i : Int) < (o.L.len : Int) := c
    obtain rfl : i = L.length := by omega
    rw [List.drop_length] at e
    have e : R = (⟨0, ⟨0, 0⟩⟩, accO any) := e
    refine w_load (v := R.1) (at_box c2') ?_
    rw [e]
    refine w_ifT rfl (w_num ?_)
    cases any with
    | true => exact w_ifT rfl (y _ x4 x4' k4)
    | false => exact w_ifF rfl (w_num (y _ x4 x4' k4))
theorem t_ValidateSame {a0 : Int} {n1 n2 : S_law19_Numbers} {s : Sl} {ops : List S_law19_Op} (ar : Arr S_law19_Op.cells h s ops) (hn : ops.length ≤ 9223372036854775807) (hL : ∀ o ∈ ops, ∃ L, Arr S_api_Cap.cells h o.L L ∧ L.length ≤ 9223372036854775807) {K : Bool → H → Prop} (y : ∀ h', Keeps h h' → K true h') : m_law19_ValidateSame a0 n1 n2 s K h := by
  unfold m_law19_ValidateSame
  refine t_desk fun d v p k q D G h1 x1 _ _ k1 f1 _ => t_desk fun d' v' p' k' q' D' G' h2 x2 _ _ k2 f2 _ => ?_
  generalize List.replicate (mostOf a0) none = es at x1 x2
  refine w_joinP (fun s4 hh => s4 = false ∧ Keeps h2 hh) (fun j hj => w_ifF rfl (t_alive fun h3 k3 => hj _ _ ⟨rfl, k3⟩)) ?_
  rintro _ h3 ⟨rfl, k3⟩
  have hl := ar.len
  have f2' : ∀ c, D' c → h c = none := fun c g => k1.fresh (f2 c g)
  refine w_ifF rfl (w_for ops.length (fun i (z : Int) hh => z = (i : Int) ∧ ∃ D D' es, Desk hh d v p k q D es es ∧ Desk hh d' v' p' k' q' D' es es ∧ (∀ c, D c → ¬ D' c) ∧ (∀ c, D c → h c = none) ∧ (∀ c, D' c → h c = none) ∧ Keeps h hh) ?_ ⟨rfl, D, D', es, (x1.keep k2).keep k3, x2.keep k3, fun c g g' => x1.has g (f2 c g'), f1, f2', (k1.trans k2).trans k3⟩)
  clear f2' f1 f2 x1 x2
  rintro rec i z hh hi ⟨rfl, D, D', es, x, x', ap, fD, fD', kp⟩ more
  refine w_if' (fun c => ?_) fun c => y _ kp
  have c : (i : Int) < (s.len : Int) := c
  have hil : i < ops.length := by omega
  have hz := List.getElem?_eq_getElem hil
  have ei : iAdd .i64 (i : Int) 1 = ((i + 1 : Nat) : Int) := (iAdd_eq (by omega) (by omega)).trans (by omega)
  rw [ei]
  generalize ops[i] = o at hz
  refine w_get op_len (ar.keep kp) hz rfl (v' := o) rfl ?_
  -- both have moved alike
  have fin : ∀ {ha hb : H} {D1 D1' : Nat → Prop} {es' : List En}, Desk ha d v p k q D1 es' es' → KChg D D1 hh ha → Desk hb d' v' p' k' q' D1' es' es' → KChg D' D1' ha hb → rec ((i + 1 : Nat) : Int) hb := fun {ha hb D1 D1' es'} w1 q1 w2 q2 => by
    have ap1 := q1.apart ap fun c g => x'.has g
    have ap2 : ∀ c, D1 c → ¬ D1' c := fun c g g' => (q2.foot c g').elim (fun z => ap1 c g z) fun z => w1.has g z
    exact more _ _ hil ⟨rfl, D1, D1', es', w1.but q2.but (fun c g g' => ap1 c g' g), w2, ap2, fun c g => (q1.foot c g).elim (fD c) kp.fresh, fun c g => (q2.foot c g).elim (fD' c) fun z => kp.fresh (q1.dom c z), (kp.but q1.but fD).but q2.but fD'⟩
  have idle : ∀ {ha : H}, Desk ha d v p k q D es es → Desk ha d' v' p' k' q' D' es es → Keeps h ha → rec ((i + 1 : Nat) : Int) ha := fun w1 w2 kk => more _ _ hil ⟨rfl, D, D', es, w1, w2, ap, fD, fD', kk⟩
  refine w_if (fun _ => ?_) fun _ => w_if (fun _ => ?_) fun _ => w_if (fun _ => ?_) fun _ => w_if (fun _ => ?_) fun _ => w_if (fun _ => ?_) fun _ => idle x x' kp
  · refine w_deref (w_load x.c0 (t_dRoot x fun D1 ha w1 q1 => ?_))
    have xa := x'.but q1.but ap
    refine w_deref (w_load xa.c0 (t_dRoot xa fun D1' hb w2 q2 => fin w1 q1 w2 q2))
  · refine w_deref (w_load x.c0 (t_dChild x fun D1 ha w1 q1 => ?_))
    have xa := x'.but q1.but ap
    refine w_deref (w_load xa.c0 (t_dChild xa fun D1' hb w2 q2 => fin w1 q1 w2 q2))
  · -- drops
    have drop2 : ∀ {ha : H} {D1 : Nat → Prop} {es' : List En}, (atE es o.P = none ∧ es' = es ∨ ∃ n t ks l, o.P = ((n : Nat) : Int) ∧ Has es n t ks ∧ Below es n l ∧ es' = cutE l es) → Desk ha d v p k q D1 es' es' → KChg D D1 hh ha → mDeref (some ⟨d', 0, none⟩) (fun ad28 => mLoad cPtr (ad28.add 0) fun x29 => m_catalogue_Catalogue_Drop x29 o.P fun _ => mDeref (some ⟨d', 0, none⟩) fun ad31 => mLoad cPtr (ad31.add 1) fun x32 => m_validate_Validator_Gone x32 fun _ => rec ((i + 1 : Nat) : Int)) ha := fun {ha D1 es'} hcase w1 q1 => by
      have xa := x'.but q1.but ap
      refine w_deref (w_load xa.c0 (t_dDrop xa (fun hno hb w2 kk => ?_) fun n t ks l en hn' bl _ D2 hb w2 q2 _ _ _ => ?_))
      · rcases hcase with ⟨_, rfl⟩ | ⟨n, t, ks, l, e, hn', _⟩
        · refine w_deref (w_load w2.c1 (t_dGone w2 fun hc w3 b3 d3 => ?_))
          exact fin w1 q1 w3 ⟨((But.of kk).trans b3 fun _ z => .inl z : But (· = k') ha hc).mono fun c e => e ▸ xa.inK, fun c g => .inl g, fun c z => kk.fresh (d3 c z)⟩
        · rw [e, (atE_has (i := (n : Int))).2 ⟨n, rfl, hn'⟩] at hno; cases hno
      · rcases hcase with ⟨hno, _⟩ | ⟨n', t', ks', l', e, hn'', bl', rfl⟩
        · rw [en, (atE_has (i := (n : Int))).2 ⟨n, rfl, hn'⟩] at hno; cases hno
        · obtain rfl : n = n' := by omega
          obtain rfl := bl.uniq bl'
          refine w_deref (w_load w2.c1 (t_dGone w2 fun hc w3 b3 d3 => ?_))
          exact fin w1 q1 w3 ⟨q2.but.trans b3 fun c e => (q2.foot c (e ▸ w2.inK)), q2.foot, fun c z => q2.dom c (d3 c z)⟩
    refine w_deref (w_load x.c0 (t_dDrop x (fun hno ha w1 kk => ?_) fun n t ks l en hn' bl _ D1 ha w1 q1 _ _ _ => ?_))
    · refine w_deref (w_load w1.c1 (t_dGone w1 fun hb w2 b2 d2 => ?_))
      exact drop2 (.inl ⟨hno, rfl⟩) w2 ⟨((But.of kk).trans b2 fun _ z => .inl z : But (· = k) hh hb).mono fun c e => e ▸ x.inK, fun c g => .inl g, fun c z => kk.fresh (d2 c z)⟩
    · refine w_deref (w_load w1.c1 (t_dGone w1 fun hb w2 b2 d2 => ?_))
      exact drop2 (.inr ⟨n, t, ks, l, en, hn', bl, rfl⟩) w2 ⟨q1.but.trans b2 fun c e => (q1.foot c (e ▸ w1.inK)), q1.foot, fun c z => q1.dom c (d2 c z)⟩
  · refine w_deref (w_load x.c1 (t_dGiven x fun ha w1 b1 d1 => ?_))
    have xa := x'.but b1 fun c e g => by (have e : c = k := e); exact ap _ x.inK (e ▸ g)
    have ka : Keeps h ha := kp.but b1 fun c e => e ▸ fD _ x.inK
    refine w_deref (w_load xa.c1 (t_dGiven xa fun hb w2 b2 d2 => ?_))
    have wb := w1.but b2 fun c e g => by (have e : c = k' := e); exact ap _ g (e ▸ x'.inK)
    have kb : Keeps h hb := ka.but b2 fun c e => e ▸ fD' _ x'.inK
    refine w_joinV false (fun j hj => w_ifF (by rw [decide_eq_true rfl]; rfl) (w_num (t_says wb ?_))) (w_ifF rfl (idle wb w2 kb))
    rw [decide_eq_true rfl]; exact hj
  · obtain ⟨L, arL, hLl⟩ := hL o (List.mem_of_getElem? hz)
    exact t_named kp x x' ap fD fD' arL hLl fun ha w1 w2 kk => w_ifF rfl (idle w1 w2 kk)
end
end Go.Proofs.Ytiajjcboddaenaa.K
