/- ValidateScripts: each call of a script, beside the reference. -/
import Derived.Test.YtiajjcboddaenaaVa5
namespace Go.Proofs.Ytiajjcboddaenaa.K
open Go
def lMark (i : Nat) : S_api_Cap := ⟨-77, ⟨0, (i : Int)⟩⟩
def lMarks (n : Nat) : List S_api_Cap := (List.range n).map lMark
section
variable {h : H}
theorem t_listed {s : Sl} {L : List S_api_Cap} (ar : Arr S_api_Cap.cells h s L) (hb : L.length * 24 ≤ 140737488351232) {K : Sl → H → Prop} (y : ∀ s' h', Buf S_api_Cap.cells 3 N_api_Cap h' s' (L ++ lMarks 40) → Keeps h h' → (∀ c, s'.foot c → h c = none) → K s' h') : m_law19_listed s K h := by
  unfold m_law19_listed
  refine w_append (by_ := 24) cap_len cap_plain rfl (Buf.nil (e := N_api_Cap)) ar (.inr ⟨rfl, by omega⟩) fun s1 h1 bu b1 f1 d1 => ?_
  have k1 : Keeps h h1 := b1.keeps fun b ⟨_, q, _⟩ => by cases q
  have fr1 : ∀ c, s1.foot c → h c = none := fun c q => (f1 c q).elim (fun ⟨_, q, _⟩ => by cases q) id
  rw [List.nil_append] at bu
  refine w_for 40 (fun i (z : Sl × Int) h' => z.2 = (i : Int) ∧ Buf S_api_Cap.cells 3 N_api_Cap h' z.1 (L ++ lMarks i) ∧ Keeps h h' ∧ ∀ c, z.1.foot c → h c = none) ?_ ⟨rfl, by rw [show lMarks 0 = [] from rfl, List.append_nil]; exact bu, k1, fr1⟩
  rintro rec i ⟨ou, iz⟩ h' hi ⟨ei, bu, kp, fr⟩ more
  have ei : iz = (i : Int) := ei
  subst ei
  have bu : Buf S_api_Cap.cells 3 N_api_Cap h' ou (L ++ lMarks i) := bu
  refine w_if' (fun c => ?_) fun c => ?_
  · have c : (i : Int) < 40 := c
    have ew : IntKind.wrap .u64 (i : Int) = (i : Int) := u_wrap (by omega)
    refine w_app (by_ := 24) cap_len rfl bu [lMark i] (by rw [ew]; rfl) rfl (.inl (by simp only [lMarks, List.length_append, List.length_map, List.length_range, List.length_singleton]; omega)) fun s2 h2 bu2 b2 f2 d2 => ?_
    refine more _ _ (by omega) ⟨ia1 i (by omega), ?_, kp.but b2 fr, fun c q => (f2 c q).elim (fr c) fun z => kp.fresh z⟩
    have : L ++ lMarks (i + 1) = L ++ lMarks i ++ [lMark i] := by unfold lMarks; rw [List.range_succ, List.map_append, List.append_assoc]; rfl
    rw [this]; exact bu2
  · have c : ¬ (i : Int) < 40 := c
    obtain rfl : i = 40 := by omega
    exact y _ _ bu kp fr
theorem t_caps19 {a b : Sl} {xs : List S_api_Cap} (x : Arr S_api_Cap.cells h a xs) (x' : Arr S_api_Cap.cells h b xs) (hn : xs.length ≤ 2 ^ 60) {K : Bool → H → Prop} (y : K true h) : m_law19_caps a b K h := by
  unfold m_law19_caps
  have h1 := x.len
  have h2 := x'.len
  refine w_ifF (by rw [h1, h2]; simp) (w_for xs.length (fun i (z : Int) h' => z = (i : Int) ∧ h = h') ?_ ⟨rfl, rfl⟩)
  rintro rec i z h' hi ⟨rfl, rfl⟩ more
  refine w_if' (fun c => ?_) fun c => y
  have c : (i : Int) < (a.len : Int) := c
  have hil : i < xs.length := by omega
  have hz := List.getElem?_eq_getElem hil
  refine w_idx cap_len x hz rfl fun ad _ ha => w_idx cap_len x' hz rfl fun ad' _ ha' => w_load ha (w_load ha' ?_)
  rw [cap_eqB]
  exact w_ifF (by simp) (more _ _ hil ⟨ia1 i (by omega), rfl⟩)
variable {d v p k q ev : Nat} {D G' : Nat → Prop} {es : List En}
theorem t_dstep (x : Desk h d v p k q D es es) (rf : Ref h q ev G' es) (ap : ∀ c, D c → ¬ G' c) {o : S_law19_Op} (he : o.Kind = 1 ∨ o.Kind = 2 → ev < 9223372036854775807) {L : List S_api_Cap} (ar : Arr S_api_Cap.cells h o.L L) (hb : L.length * 24 ≤ 140737488351232) (hk : L ≠ [] → ¬ o.L.foot k) {K : Bool → H → Prop}
    (y : ∀ h' es' ev' D' G1, ev' ≤ ev + 1 → Desk h' d v p k q D' es' es' → Ref h' q ev' G1 es' → (∀ c, D' c → ¬ G1 c) → KChg (fun c => D c ∨ G' c) (fun c => D' c ∨ G1 c) h h' → K true h') : m_law19_Desk_step (some ⟨d, 0, none⟩) o K h := by
  unfold m_law19_Desk_step
  have hasG : ∀ c, G' c → h c ≠ none := fun c g => rf.has g
  have fin : ∀ {ha hb : H} {D1 G1 : Nat → Prop} {es' : List En} {ev' : Nat}, ev' ≤ ev + 1 → Desk ha d v p k q D1 es' es' → KChg D D1 h ha → Ref hb q ev' G1 es' → KChg G' G1 ha hb → K true hb := fun {ha hb D1 G1 es' ev'} e1 w1 q1 w2 q2 => by
    have ap1 := q1.apart ap hasG
    have ap2 : ∀ c, D1 c → ¬ G1 c := fun c g g' => (q2.foot c g').elim (ap1 c g) fun z => w1.has g z
    exact y hb es' ev' D1 G1 e1 (w1.but q2.but fun c g g' => ap1 c g' g) w2 ap2 (q1.both q2)
  -- only the cache has moved, and new blocks
  have still : ∀ {hh : H}, Desk hh d v p k q D es es → But (· = k) h hh → (∀ z, hh z = none → h z = none) → K true hh := fun {hh} w b dd =>
    fin (ha := hh) (hb := hh) (Nat.le_succ _) w ⟨b.mono fun c e => e ▸ x.inK, fun c g => .inl g, dd⟩ (rf.but b fun c e g => ap _ x.inK (by (have e : c = k := e); exact e ▸ g)) (.refl _ _)
  have refK : ∀ {hh : H}, But (· = k) h hh → Ref hh q ev G' es := fun b => rf.but b fun c e g => ap _ x.inK (by (have e : c = k := e); exact e ▸ g)
  refine w_if' (fun k1 => ?_) fun _ => w_if' (fun k2 => ?_) fun _ => w_if (fun _ => ?_) fun _ => w_if (fun _ => ?_) fun _ => w_if (fun _ => ?_) fun _ => ?_
  · refine w_deref (w_load x.c0 (t_dRoot x fun D1 ha w1 q1 => w_deref (w_load w1.c2 (t_RRoot (rf.but q1.but ap) (he (.inl k1)) fun G1 hb ev' e1 w2 q2 => w_ifT (decide_eq_true rfl) (w_num ?_)))))
    rw [decide_eq_true rfl]
    exact fin e1 w1 q1 w2 q2
  · refine w_deref (w_load x.c0 (t_dChild x fun D1 ha w1 q1 => w_deref (w_load w1.c2 (t_RChild (rf.but q1.but ap) (he (.inr k2)) fun G1 hb ev' e1 w2 q2 => w_ifT (decide_eq_true rfl) (w_num ?_)))))
    rw [decide_eq_true rfl]
    exact fin e1 w1 q1 w2 q2
  · refine w_deref (w_load x.c0 (t_dDrop x (fun hno ha w1 kk => ?_) fun n t ks l en hn bl s1 D1 ha w1 q1 bu1 fr1 ap1 => ?_))
    · refine w_deref (w_load w1.c2 (t_RDrop (rf.keep kk) (fun _ => ?_) fun n t ks l e hn _ => ?_))
      · refine w_deref (w_load w1.c1 (t_dGone w1 fun hb w2 b2 d2 => t_caps19 Arr.nil Arr.nil (by simp) (w_ifT rfl (w_num ?_))))
        rw [decide_eq_true rfl]
        exact still w2 ((But.of kk).trans b2 fun _ z => .inl z) fun z q => kk.fresh (d2 z q)
      · rw [e, (atE_has (i := (n : Int))).2 ⟨n, rfl, hn⟩] at hno; cases hno
    · refine w_deref (w_load w1.c2 (t_RDrop (rf.but q1.but ap) (fun hno => ?_) fun n' t' ks' l' e' hn' bl' s2 G1 hb w2 q2 bu2 fr2 ap2 => ?_))
      · rw [en, (atE_has (i := (n : Int))).2 ⟨n, rfl, hn⟩] at hno; cases hno
      · obtain rfl : n = n' := by omega
        obtain rfl := bl.uniq bl'
        have apb := q1.apart ap hasG
        have w1b := w1.but q2.but fun c g g' => apb c g' g
        have apc : ∀ c, D1 c → ¬ G1 c := fun c g g' => (q2.foot c g').elim (apb c g) fun z => w1.has g z
        refine w_deref (w_load w1b.c1 (t_dGone w1b fun hc w3 b3 d3 => ?_))
        have hkD : D1 k := w1.inK
        have bu1' := (bu1.but q2.but fun ad had g => hasG _ g (fr1 _ ⟨ad, had, rfl⟩)).but b3 fun ad had e => ap1 _ ⟨ad, had, rfl⟩ (by (have e : ad.block = k := e); exact e ▸ hkD)
        have bu2' := bu2.but b3 fun ad had e => w1.has hkD (by (have e : ad.block = k := e); exact e ▸ fr2 _ ⟨ad, had, rfl⟩)
        have ll := bl.len
        have wl := x.wf.len
        refine t_caps19 bu1'.arr bu2'.arr (by rw [List.length_map]; omega) (w_ifT rfl (w_num ?_))
        rw [decide_eq_true rfl]
        have w2' := w2.but b3 fun c e g => by (have e : c = k := e); exact apc _ hkD (e ▸ g)
        refine y hc _ ev D1 G1 (Nat.le_succ _) w3 w2' apc ⟨(q1.both q2).but.trans b3 fun c e => (q1.both q2).foot c (.inl (e ▸ hkD)), (q1.both q2).foot, fun z q => (q1.both q2).dom z (d3 z q)⟩
  · refine w_deref (w_deref (w_load x.c1 ?_))
    refine w_joinP (fun (s : Int × Option Addr) hh => s = (givenO es o.C o.N, some ⟨q, 0, none⟩) ∧ Desk hh d v p k q D es es ∧ But (· = k) h hh ∧ ∀ z, hh z = none → h z = none) (fun j hj => w_both (t_dGiven x fun ha w1 b1 d1 => w_num (w_load w1.c2 (hj _ _ ⟨rfl, w1, b1, d1⟩))) (w_load x.c2 (t_dGiven x fun ha w1 b1 d1 => w_num (hj _ _ ⟨rfl, w1, b1, d1⟩)))) ?_
    rintro _ ha ⟨rfl, w1, b1, d1⟩
    refine t_R19Given (refK b1) ?_
    rw [decide_eq_true rfl]
    exact still w1 b1 d1
  · -- a name
    generalize eR : namedO es o.P o.N L 3 = R
    refine t_listed ar hb fun s1 h1 bu1 k1 f1 => w_deref ?_
    have x1 := x.keep k1
    have hlL := ar.len
    refine w_take (n := L.length) bu1.arr (by simp) rfl (by rw [hlL]) fun s2 ar2 fo2 _ => ?_
    rw [List.take_left] at ar2
    have hnL : L.length ≤ 9223372036854775807 := by omega
    refine w_load x1.c1 ?_
    have nk1 : ¬ s1.foot k := fun f => x.has x.inK (f1 _ f)
    refine w_joinP (fun (s3 : Addr × S_api_Cap × Int) hh => ∃ b, s3 = (⟨b, 0, none⟩, R.1, R.2) ∧ Desk hh d v p k q D es es ∧ But (· = k) h hh ∧ (∀ z, hh z = none → h z = none) ∧ h b = none ∧ ¬ s1.foot b ∧ Buf S_api_Cap.cells 3 N_api_Cap hh s1 (L ++ lMarks 40) ∧ hh b = some (.cells (S_api_Cap.cells ⟨0, ⟨0, 0⟩⟩).toArray 39 (0, 0))) (fun j hj => t_dNamedB x1 ar2 hnL (fun _ f => nk1 (fo2 _ f)) fun b h2 x2 b2 d2 f2 c2 => ?_) ?_
    · rw [eR]
      exact hj _ _ ⟨b, rfl, x2, (But.of k1).trans b2 fun _ z => .inl z, fun z q => k1.fresh (d2 z q), k1.fresh f2, fun f => bu1.has f f2, bu1.but b2 fun ad had e => nk1 ⟨ad, had, e⟩, c2⟩
    rintro _ h2 ⟨b, rfl, x2, b2, d2, fb, nsb, bu2, c2⟩
    have hbk : b ≠ k := fun e => x.has x.inK (e ▸ fb)
    refine w_setBox (new := S_api_Cap.cells R.1) c2 rfl fun h3 c3 b3 d3 => ?_
    have nDb : ¬ D b := fun g => x.has g fb
    have x3 := x2.but b3 fun c e g => by (have e : c = b := e); exact nDb (e ▸ g)
    have b03 : But (· = k) h h3 := b2.trans b3 fun c e => .inr (by (have e : c = b := e); exact e ▸ fb)
    have d03 : ∀ z, h3 z = none → h z = none := fun z q => d2 z (d3 z q)
    have bu3 := bu2.but b3 fun ad had e => nsb ⟨ad, had, e⟩
    refine w_deref (w_load x3.c2 ?_)
    have arL : ∀ {hh : H}, But (· = k) h hh → Arr S_api_Cap.cells hh o.L L := fun bb => ar.but bb fun hne ad had e => hk hne ⟨ad, had, e⟩
    have r3 := refK b03
    refine w_joinP (fun (s3 : Addr × S_api_Cap × Int) hh => ∃ b', s3 = (⟨b', 0, none⟩, R.1, R.2) ∧ Keeps h3 hh ∧ h3 b' = none ∧ hh b' = some (.cells (S_api_Cap.cells ⟨0, ⟨0, 0⟩⟩).toArray 39 (0, 0))) (fun j hj => w_both (t_R19Named r3 (arL b03) hnL ?_) (w_box fun b' h4 f4 c4 k4 => t_R19Named (r3.keep k4) ((arL b03).keep k4) hnL ?_)) ?_
    · rw [eR]
      exact w_box fun b' h4 f4 c4 k4 => hj _ _ ⟨b', rfl, k4, f4, c4⟩
    · rw [eR]
      exact hj _ _ ⟨b', rfl, k4, f4, c4⟩
    rintro _ h4 ⟨b', rfl, k4, f4, c4⟩
    refine w_setBox (new := S_api_Cap.cells R.1) c4 rfl fun h5 c5 b5 d5 => ?_
    have k5 : Keeps h3 h5 := k4.but b5 fun c e => by (have e : c = b' := e); exact e ▸ f4
    refine w_load (v := R.1) (at_box (k5 _ _ c3)) (w_load (v := R.1) (at_box c5) ?_)
    refine w_joinV true (fun j hj => w_ifT (by rw [cap_eqB]; exact decide_eq_true rfl) (w_num (by rw [decide_eq_true rfl]; exact hj))) ?_
    have b05 : But (· = k) h h5 := b03.trans (.of k5 : But (· = k) h3 h5) fun _ z => .inl z
    have d05 : ∀ z, h5 z = none → h z = none := fun z q => d03 z (k5.fresh q)
    have bu5 := bu3.keep k5
    refine w_joinP (fun s66 hh => s66 = true ∧ Keeps h5 hh) (fun j hj => w_ifT rfl (t_listed (arL b05) hb fun r7 h6 bu6 k6 f6 => t_caps19 (bu5.keep k6).arr bu6.arr (by simp only [lMarks, List.length_append, List.length_map, List.length_range]; omega) (hj _ _ ⟨rfl, k6⟩))) ?_
    rintro _ h6 ⟨rfl, k6⟩
    have bu6 := bu5.keep k6
    have l6 := bu6.len
    refine w_for (L ++ lMarks 40).length (fun i (z : Int) hh => z = (i : Int) ∧ (∃ A, Buf S_api_Cap.cells 3 N_api_Cap hh s1 A ∧ A.length = (L ++ lMarks 40).length) ∧ But s1.foot h6 hh ∧ ∀ z, hh z = none → h6 z = none) ?_ ⟨rfl, ⟨_, bu6, rfl⟩, .refl _ _, fun _ q => q⟩
    rintro rec i z hh hi ⟨rfl, ⟨A, bA, lA⟩, bb, db⟩ more
    have hlim : (L ++ lMarks 40).length ≤ 2 ^ 60 := by simp only [lMarks, List.length_append, List.length_map, List.length_range]; omega
    refine w_if' (fun c => ?_) fun c => ?_
    · have c : (i : Int) < (s1.len : Int) := c
      have hil : i < (L ++ lMarks 40).length := by omega
      refine w_put cap_len bA (i := i) (by omega) rfl ⟨-1, ⟨0, 0⟩⟩ rfl fun ha ba ka da => ?_
      exact more _ _ hil ⟨ia1 i (by omega), ⟨_, ba, by rw [List.length_set]; exact lA⟩, bb.trans ka fun _ z => .inl z, fun z q => db z (da z q)⟩
    · have x6 := (x3.keep k5).keep k6
      have xh := x6.but bb fun c f g => x.has g (f1 c f)
      refine still xh ((b05.trans (.of k6 : But (· = k) h5 h6) fun _ z => .inl z).trans bb fun c f => .inr (f1 c f)) fun z q => d05 z (k6.fresh (db z q))
  · exact w_deref (w_load x.c1 (t_dGone x fun hb w2 b2 d2 => still w2 b2 d2))
end
end Go.Proofs.Ytiajjcboddaenaa.K
