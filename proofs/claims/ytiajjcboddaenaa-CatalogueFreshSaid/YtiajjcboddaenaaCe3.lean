/- The reference catalogue: walks, drops, tokens of an object. -/
import Derived.Test.YtiajjcboddaenaaCe2
namespace Go.Proofs.Ytiajjcboddaenaa.K
open Go
theorem PreL.len1 {ch : Int → List Int} {a l : List Int} (x : PreL ch a l) (h : a ≠ []) : 1 ≤ l.length := by
  have := x.le
  cases a with
  | nil => exact absurd rfl h
  | cons b r => rw [List.length_cons] at this; omega
theorem PreL.one {ch : Int → List Int} {n : Int} {l : List Int} (x : PreL ch [n] l) : ∃ l1, l = n :: l1 ∧ PreL ch (ch n) l1 := by
  cases x with
  | cons a b => cases b; exact ⟨_, by rw [List.append_nil], a⟩
section
variable {h : H} {p : Nat} {ev : Nat} {G : Nat → Prop} {es : List En}
theorem t_RDownN : ∀ (N : Nat) {h : H} (_ : Ref h p ev G es) {n : Nat} {l : List Int} (_ : PreL (chN (nds es)) [(n : Int)] l) (_ : LiveL (nds es) l) (_ : l.length ≤ 256) (_ : l.length ≤ N) {K : Sl → H → Prop} (_ : ∀ s' h', Buf (cInt .i64) 1 N_int h' s' l → Keeps h h' → (∀ c, s'.foot c → h c = none) → K s' h'), m_ref11_Catalogue_Down_n N (some ⟨p, 0, none⟩) (n : Int) K h := by
  intro N
  induction N with
  | zero =>
    intro h x n l hl _ _ hN K y
    have := hl.len1 (by simp)
    omega
  | succ N ih =>
    intro h x n l hl live h256 hN K y
    obtain ⟨l1, rfl, hl1⟩ := hl.one
    obtain ⟨i, t, ks, e, hn⟩ := hasN_nds.1 (live _ (List.mem_cons_self ..))
    obtain rfl : n = i := by omega
    rw [chN_nds hn] at hl1
    show m_ref11_Catalogue_Down_s (m_ref11_Catalogue_Down_n N) _ _ K h
    unfold m_ref11_Catalogue_Down_s
    refine w_box fun b1 h1 f1 c1 k1 => t_Rchildren (x.keep k1) hn fun s2 h2 bu2 k2 f2 => ?_
    have hkl := hl1.le
    have hk256 := x.wf.kids_le hn
    have hw256 := x.wf.len
    rw [List.length_cons] at h256 hN
    refine w_for ks.length (fun j (z : Sl × Int) h' => z.2 = (j : Int) ∧ ∃ D E, l1 = D ++ E ∧ PreL (chN (nds es)) (ks.drop j) E ∧ Buf (cInt .i64) 1 N_int h' z.1 ((n : Int) :: D) ∧ Keeps h h' ∧ (∀ c, z.1.foot c → h c = none) ∧ Buf (cInt .i64) 1 N_int h' s2 ks ∧ ∀ c, z.1.foot c → ¬ s2.foot c) ?_ ?_
    rotate_left
    · refine ⟨rfl, [], l1, rfl, hl1, (Buf.one ci_len (x := (n : Int)) c1).keep k2, k1.trans k2, fun c ⟨a, q, r⟩ => by (cases q; subst r; exact f1), bu2, fun c ⟨a, q, r⟩ f => ?_⟩
      cases q; subst r
      have := f2 _ f
      rw [c1] at this; cases this
    rintro rec j ⟨out, jz⟩ h' hj ⟨ej, D, E, rfl, hE, bu, kp, fo, b2, ap⟩ more
    have ej : jz = (j : Int) := ej
    subst ej
    have bu : Buf (cInt .i64) 1 N_int h' out ((n : Int) :: D) := bu
    have l2 := b2.len
    have lD := bu.len
    rw [List.length_append] at h256 hN
    refine w_if' (fun c => ?_) fun c => ?_
    · have c : (j : Int) < (s2.len : Int) := c
      have hjl : j < ks.length := by omega
      have hk := List.getElem?_eq_getElem hjl
      have ed : ks.drop j = ks[j] :: ks.drop (j + 1) := List.drop_eq_getElem_cons hjl
      rw [ed] at hE
      generalize hz : ks[j] = z at hE hk
      obtain ⟨m1, L1, rfl, p1, p2⟩ : ∃ m1 L1, E = z :: (m1 ++ L1) ∧ PreL (chN (nds es)) (chN (nds es) z) m1 ∧ PreL (chN (nds es)) (ks.drop (j + 1)) L1 := by
        cases hE with
        | cons a b => exact ⟨_, _, rfl, a, b⟩
      obtain ⟨m, u, us, rfl, hm⟩ := hasN_nds.1 (live z (by simp))
      simp only [List.length_cons, List.length_append] at h256 hN
      refine w_get ci_len b2.arr hk rfl (v' := (m : Int)) rfl ?_
      have p1' : PreL (chN (nds es)) [(m : Int)] ((m : Int) :: m1) := by
        have := PreL.cons p1 PreL.nil
        rwa [List.append_nil] at this
      refine ih (x.keep kp) p1' (fun w hw => live w ?_) (by simp only [List.length_cons]; omega) (by simp only [List.length_cons]; omega) fun s3 h3 bu3 k3 f3 => ?_
      · rcases List.mem_cons.1 hw with q | q
        · rw [q]; simp
        · simp [q]
      refine w_append (by_ := 8) ci_len ci_plain rfl (bu.keep k3) bu3.arr (.inl (by simp only [List.length_cons]; omega)) fun s4 h4 bu4 k4 f4 d4 => ?_
      refine more _ _ hjl ⟨ia1 j (by omega), D ++ (m : Int) :: m1, L1, by simp, p2, bu4, (kp.trans k3).but k4 fo, fun c f => (f4 c f).elim (fo c) fun q => kp.fresh (k3.fresh q), (b2.keep k3).but k4 fun a ha f => ap _ f ⟨a, ha, rfl⟩, fun c f g => ?_⟩
      rcases f4 c f with q | q
      · exact ap c q g
      · exact (b2.keep k3).has g q
    · have c : ¬ (j : Int) < (s2.len : Int) := c
      obtain rfl : j = ks.length := by omega
      rw [List.drop_length] at hE
      cases hE
      rw [List.append_nil] at y
      exact y _ _ bu kp fo
theorem t_RDown (x : Ref h p ev G es) {n : Nat} {l : List Int} (b : Below es n l) {K : Sl → H → Prop} (y : ∀ s' h', Buf (cInt .i64) 1 N_int h' s' l → Keeps h h' → (∀ c, s'.foot c → h c = none) → K s' h') : m_ref11_Catalogue_Down (some ⟨p, 0, none⟩) (n : Int) K h :=
  ⟨l.length, t_RDownN l.length x b.pre b.live (by have := b.len; have := x.wf.len; omega) (Nat.le_refl _) y⟩
def plDead : S_ref11_Place := ⟨false, ⟨0, ⟨0, 0⟩⟩, 0, 0, 0⟩
def killP (S : List Int) (pl : List S_ref11_Place) : List S_ref11_Place := pl.mapIdx fun i q => if (i : Int) ∈ S then plDead else q
theorem killP_get (S : List Int) (pl : List S_ref11_Place) (i : Nat) : (killP S pl)[i]? = (pl[i]?).map fun q => if (i : Int) ∈ S then plDead else q := by
  unfold killP; rw [List.getElem?_mapIdx]
theorem killP_len (S : List Int) (pl : List S_ref11_Place) : (killP S pl).length = pl.length := by unfold killP; rw [List.length_mapIdx]
theorem killP_nil (pl : List S_ref11_Place) : killP [] pl = pl := by
  apply List.ext_getElem?
  intro i
  rw [killP_get]
  cases pl[i]? with
  | none => rfl
  | some q => simp
theorem killP_set {S : List Int} {pl : List S_ref11_Place} {m : Nat} : (killP S pl).set m plDead = killP (S ++ [(m : Int)]) pl := by
  apply List.ext_getElem?
  intro i
  rw [List.getElem?_set, killP_get, killP_get, killP_len]
  by_cases e : m = i
  · subst e
    rw [if_pos rfl]
    by_cases q : m < pl.length
    · rw [if_pos q, List.getElem?_eq_getElem q]; simp
    · rw [if_neg q, List.getElem?_eq_none (by omega)]; rfl
  · rw [if_neg e]
    have hi : ((i : Int) ∈ S ++ [(m : Int)]) ↔ (i : Int) ∈ S := by
      rw [List.mem_append, List.mem_singleton]
      constructor
      · rintro (a | a)
        · exact a
        · exact absurd (by omega) e
      · exact .inl
    simp only [hi]
theorem RefRel.cut {pl} (x : RefRel es pl ev) (w : CWF es) (S : List Int) : RefRel (cutE S es) (killP S pl) ev := by
  have wh : ∀ {i : Nat}, (i : Int) ∉ S → whenP (killP S pl) (i : Int) = whenP pl (i : Int) := fun {i} hi => by
    rw [whenP_nat, whenP_nat, killP_get]
    cases pl[i]? with
    | none => rfl
    | some q => rw [Option.map_some, if_neg hi]
  refine ⟨by rw [killP_len, cutE_len]; exact x.len, fun i q e h1 h2 => ?_, fun i t vs h => ?_, fun i t vs h => ?_⟩
  · rw [killP_get] at h1
    rw [cutE_get] at h2
    cases e1 : pl[i]? with
    | none => rw [e1] at h1; cases h1
    | some q' =>
      cases e2 : es[i]? with
      | none => rw [e2] at h2; cases h2
      | some e' =>
        rw [e1] at h1; rw [e2] at h2
        have ok := x.ent _ _ _ e1 e2
        by_cases z : (i : Int) ∈ S
        · rw [Option.map_some, if_pos z] at h1 h2
          cases h1; cases h2; rfl
        · rw [Option.map_some, if_neg z] at h1 h2
          cases h1; cases h2
          cases e' with
          | none => exact ok
          | some v => exact ok
  · obtain ⟨hS, ks, h', rfl⟩ := has_cut.1 h
    rw [wh hS]; exact x.when _ _ _ h'
  · obtain ⟨hS, ks, h', rfl⟩ := has_cut.1 h
    refine (List.Pairwise.sublist List.filter_sublist (x.kids _ _ _ h')).imp_of_mem fun {a b} ha hb hab => ?_
    obtain ⟨ha1, ha2⟩ := List.mem_filter.1 ha
    obtain ⟨hb1, hb2⟩ := List.mem_filter.1 hb
    obtain ⟨j, u, us, rfl, _⟩ := w.down _ _ _ h' _ ha1
    obtain ⟨j', u', us', rfl, _⟩ := w.down _ _ _ h' _ hb1
    rw [wh (by simpa using ha2), wh (by simpa using hb2)]; exact hab
theorem t_RDrop (x : Ref h p ev G es) {i : Int} {K : Sl × Int → H → Prop} (no : atE es i = none → K (Sl.nil, 20) h)
    (y : ∀ n t ks l, i = ((n : Nat) : Int) → Has es n t ks → Below es n l → ∀ s' G' h', Ref h' p ev G' (cutE l es) → KChg G G' h h' → Buf S_api_Cap.cells 3 N_api_Cap h' s' (l.map (capAt es)) → (∀ c, s'.foot c → h c = none) → (∀ c, s'.foot c → ¬ G' c) → K (s', 0) h') : m_ref11_Catalogue_Drop (some ⟨p, 0, none⟩) i K h := by
  unfold m_ref11_Catalogue_Drop
  refine t_Ris x ?_
  cases hi : atE es i with
  | none => exact w_ifT rfl (no hi)
  | some v =>
    obtain ⟨t, ks⟩ := v
    obtain ⟨n, rfl, hn⟩ := atE_has.1 hi
    have wf := x.wf
    have wl := wf.len
    obtain ⟨l, bl⟩ := wf.ex hn
    have ll := bl.len
    refine w_ifF rfl (t_RDown x bl fun s2 h2 bu2 k2 f2 => ?_)
    obtain ⟨s, pl, a, b, g⟩ := x.ex
    have a2 := a.keep k2
    refine w_for l.length (fun j (z : Sl × Int) h' => z.2 = (j : Int) ∧ RefAt h' p s (killP (l.take j) pl) ev ∧ Buf S_api_Cap.cells 3 N_api_Cap h' z.1 ((l.take j).map (capAt es)) ∧ Buf (cInt .i64) 1 N_int h' s2 l ∧ KChg (fun c => c = p ∨ s.foot c) (fun c => c = p ∨ s.foot c) h h' ∧ ∀ c, z.1.foot c → h c = none) ?_ ?_
    rotate_left
    · refine ⟨rfl, ?_, Buf.nil, bu2, ⟨.of k2, fun _ f => .inl f, fun c q => k2.fresh q⟩, fun c ⟨_, q, _⟩ => by cases q⟩
      rw [List.take_zero, killP_nil]; exact a2
    rintro rec j ⟨out, jz⟩ h' hj ⟨ej, a', bu, b2, kc, fo⟩ more
    have ej : jz = (j : Int) := ej
    subst ej
    have bu : Buf S_api_Cap.cells 3 N_api_Cap h' out ((l.take j).map (capAt es)) := bu
    have l2 := b2.len
    refine w_if' (fun c => ?_) fun c => ?_
    · have c : (j : Int) < (s2.len : Int) := c
      have hjl : j < l.length := by omega
      have hz := List.getElem?_eq_getElem hjl
      generalize hzz : l[j] = zm at hz
      obtain ⟨q, u, us, rfl, hu⟩ := hasN_nds.1 (bl.live _ (List.mem_of_getElem? hz))
      have hqS : (q : Int) ∉ l.take j := fun w => by
        have nd := bl.nd
        have take1 : l.take (j + 1) = l.take j ++ [(q : Int)] := by rw [List.take_add_one, hz]; rfl
        rw [← List.take_append_drop (j + 1) l, take1] at nd
        have nd := (List.nodup_append.1 nd).1
        rw [List.nodup_append] at nd
        exact nd.2.2 _ w _ (List.mem_singleton_self _) rfl
      obtain ⟨P, hP, _, eP, _⟩ := b.has hu
      have hP' : (killP (l.take j) pl)[q]? = some P := by rw [killP_get, hP, Option.map_some, if_neg hqS]
      refine w_deref (w_idx ci_len b2.arr hz rfl fun ad _ had => w_load a'.f0 (w_load (v := (q : Int)) had ?_))
      refine w_field rp_len a'.buf.arr hP' rfl (v' := P.Cap) (cells' := S_api_Cap.cells) (l1 := (cPl P).take 1) (l3 := (cPl P).drop 4) rfl rfl ?_
      rw [eP]
      refine w_app (by_ := 24) cap_len rfl bu [u.Cap] rfl rfl (.inl (by simp only [List.length_map, List.length_take, List.length_singleton]; omega)) fun s3 h3 bu3 k3 f3 d3 => ?_
      have oF : ∀ c, out.foot c → c ≠ p ∧ ¬ s.foot c := fun c f => ⟨fun e => by rw [e] at f; exact (bu.typed f).ne (Typed.of a'.cell) (by decide) rfl, fun e => (bu.typed f).ne (a'.buf.typed e) (by decide) rfl⟩
      have a3 := a'.but k3 oF
      have b3 := b2.but k3 fun ad' ha f => (bu.typed f).ne (b2.typed ⟨ad', ha, rfl⟩) (by decide) rfl
      refine w_deref (w_idx ci_len b3.arr hz rfl fun ad2 _ had2 => w_load a3.f0 (w_load (v := (q : Int)) had2 ?_))
      refine w_put rp_len a3.buf (i := q) (by rw [killP_len, b.len]; exact hu.lt) rfl plDead rfl fun h4 bu4 k4 d4 => ?_
      rw [killP_set] at bu4
      have take1 : l.take (j + 1) = l.take j ++ [(q : Int)] := by rw [List.take_add_one, hz]; rfl
      rw [← take1] at bu4
      have offp : ∀ c, s.foot c → c ≠ p := fun c f e => by subst e; exact a3.apart f
      refine more _ _ hjl ⟨ia1 j (by omega), ⟨k4 _ _ a3.cell a3.apart, bu4⟩, ?_, b3.but k4 fun ad' ha f => (b3.typed ⟨ad', ha, rfl⟩).ne (a3.buf.typed f) (by decide) rfl, ?_, fun c f => (f3 c f).elim (fo c) fun q => kc.dom c q⟩
      · have e1 : (l.take (j + 1)).map (capAt es) = (l.take j).map (capAt es) ++ [u.Cap] := by
          rw [take1, List.map_append, ← capAt_has hu]; rfl
        rw [e1]
        exact bu3.but k4 fun ad' ha f => (bu3.typed ⟨ad', ha, rfl⟩).ne (a3.buf.typed f) (by decide) rfl
      · refine ⟨(kc.but.trans k3 fun c f => .inr (fo c f)).trans k4 fun c f => .inl (.inr f), fun _ f => .inl f, fun c q => kc.dom c (d3 c (d4 c q))⟩
    · have c : ¬ (j : Int) < (s2.len : Int) := c
      obtain rfl : j = l.length := by omega
      rw [List.take_length] at a' bu
      have wf' : CWF (cutE l es) := wf.cut fun i u us hi hm k hk => bl.closed hi hm hk
      refine y n t ks l rfl hn bl out _ h' ⟨⟨s, _, a', b.cut wf l, fun _ => Iff.rfl⟩, wf'⟩ ⟨kc.but.mono fun c f => (g c).2 f, fun c f => .inl ((g c).2 f), kc.dom⟩ bu fo fun c f e => ?_
      have := fo c f
      rcases e with e | e
      · rw [e, a.cell] at this; cases this
      · exact a.buf.has e this
theorem t_ROf (x : Ref h p ev G es) {o : Int} {K : Sl → H → Prop} (no : (∀ i t ks, Has es i t ks → t.Cap.Obj ≠ o) → ∀ h', Keeps h h' → K Sl.nil h')
    (y : ∀ n t ks l, Has es n t ks → t.Cap.Obj = o → t.Parent = -1 → Below es n l → ∀ s' h', Buf cTok 5 N_api_Token h' s' (ofE es l) → Keeps h h' → (∀ c, s'.foot c → h c = none) → K s' h') : m_ref11_Catalogue_Of (some ⟨p, 0, none⟩) o K h := by
  have wf := x.wf
  have wl := wf.len
  obtain ⟨s, pl, a, b, g⟩ := x.ex
  have hl := a.buf.len
  have hb := b.len
  unfold m_ref11_Catalogue_Of
  -- either no root has been met, or the one
  refine w_for es.length (fun i (z : Sl × Int) h' => z.2 = (i : Int) ∧ Keeps h h' ∧ ((z.1 = Sl.nil ∧ ∀ j, j < i → ∀ t ks, Has es j t ks → t.Cap.Obj = o → t.Parent ≠ -1) ∨ ∃ n t ks l, n < i ∧ Has es n t ks ∧ t.Cap.Obj = o ∧ t.Parent = -1 ∧ Below es n l ∧ Buf cTok 5 N_api_Token h' z.1 (ofE es l) ∧ ∀ c, z.1.foot c → h c = none)) ?_ ⟨rfl, .refl _, .inl ⟨rfl, fun j hj => absurd hj (Nat.not_lt_zero _)⟩⟩
  rintro rec i ⟨out, iz⟩ h' hi ⟨ei, kp, hst⟩ more
  have ei : iz = (i : Int) := ei
  subst ei
  have hst : (out = Sl.nil ∧ ∀ j, j < i → ∀ t ks, Has es j t ks → t.Cap.Obj = o → t.Parent ≠ -1) ∨ ∃ n t ks l, n < i ∧ Has es n t ks ∧ t.Cap.Obj = o ∧ t.Parent = -1 ∧ Below es n l ∧ Buf cTok 5 N_api_Token h' out (ofE es l) ∧ ∀ c, out.foot c → h c = none := hst
  have a' := a.keep kp
  have x' := x.keep kp
  refine w_deref (w_load a'.f0 (w_if' (fun d => ?_) fun d => ?_))
  · have d : (i : Int) < (s.len : Int) := d
    have hil : i < es.length := by omega
    obtain ⟨P, e, h1, h2, ok⟩ := b.place hil
    refine w_deref (w_load a'.f0 (w_field rp_len a'.buf.arr h1 rfl (v' := P.Live) (cells' := cBool) (l1 := []) (l3 := (cPl P).drop 1) rfl rfl ?_))
    refine w_joinV (!P.Live || !decide (P.Cap.Obj = o)) (fun J hJ => ?_) ?_
    · refine w_if (fun e => ?_) fun e => ?_
      · rw [e, Bool.true_or] at hJ; exact hJ
      · refine w_deref (w_load a'.f0 (w_idx rp_len a'.buf.arr h1 rfl fun ad _ ha => w_load (v := P.Cap.Obj) (cells := cInt .i64) ?_ ?_))
        · rw [show (ad.add 1).add 0 = ad.add 1 from add_zero _]
          exact At.head (l2 := (cPl P).drop 2) (At.sub (l1 := (cPl P).take 1) (l3 := []) (by rw [List.append_nil]; exact ha) rfl)
        · rw [e, Bool.false_or] at hJ; exact hJ
    refine w_joinV ((!P.Live || !decide (P.Cap.Obj = o)) || decide (0 ≤ P.Parent)) (fun J hJ => ?_) ?_
    · refine w_if (fun e => ?_) fun e => ?_
      · rw [e, Bool.true_or] at hJ; exact hJ
      · refine w_deref (w_load a'.f0 (w_field rp_len a'.buf.arr h1 rfl (v' := P.Parent) (cells' := cInt .i64) (l1 := (cPl P).take 5) (l3 := (cPl P).drop 6) rfl rfl ?_))
        rw [e, Bool.false_or] at hJ; exact hJ
    refine w_if (fun e => ?_) fun e => ?_
    · refine more _ _ hil ⟨ia1 i (by omega), kp, ?_⟩
      rcases hst with ⟨rfl, hno⟩ | ⟨n, t, ks, l, hni, r⟩
      · refine .inl ⟨rfl, fun j hj t ks ht ho hp => ?_⟩
        by_cases z : j = i
        · subst z
          obtain ⟨P', hP', e1, e2, _, e4⟩ := b.has ht
          rw [h1] at hP'; cases hP'
          rw [e1, e2, ho, e4, hp] at e
          simp at e
        · exact hno j (by omega) t ks ht ho hp
      · exact .inr ⟨n, t, ks, l, by omega, r⟩
    · -- a root
      rw [Bool.or_eq_false_iff, Bool.or_eq_false_iff] at e
      obtain ⟨⟨e1, e2⟩, e3⟩ := e
      have hlive : P.Live = true := by simpa using e1
      have hobj : P.Cap.Obj = o := by simpa using e2
      have hpar : ¬ 0 ≤ P.Parent := of_decide_eq_false e3
      obtain ⟨t, ks, ht, q1, q2, q3⟩ := b.live h1 hlive
      have hto : t.Cap.Obj = o := by rw [← q1]; exact hobj
      have htp : t.Parent = -1 := by
        rcases wf.up _ _ _ ht with z | ⟨j, _, _, z, _⟩
        · exact z
        · omega
      have hnil : out = Sl.nil := by
        rcases hst with ⟨q, _⟩ | ⟨n, t', ks', l, hni, hn, ho, hp, _⟩
        · exact q
        · have := wf.one _ _ _ _ _ _ hn ht hp htp (ho.trans hto.symm)
          omega
      subst hnil
      obtain ⟨l, bl⟩ := wf.ex ht
      have ll := bl.len
      refine t_RDown x' bl fun s2 hh2 bu2 k2 f2 => ?_
      refine w_for l.length (fun j (z : Sl × Int) h'' => z.2 = (j : Int) ∧ Keeps h h'' ∧ Buf (cInt .i64) 1 N_int h'' s2 l ∧ Buf cTok 5 N_api_Token h'' z.1 ((l.take j).map (tokIn es l)) ∧ ∀ c, z.1.foot c → h c = none) ?_ ⟨rfl, kp.trans k2, bu2, Buf.nil, fun c ⟨_, q, _⟩ => by cases q⟩
      rintro rec2 j ⟨ou, jz⟩ h3 hj ⟨ej, kp3, b2, bu3, fo3⟩ more2
      have ej : jz = (j : Int) := ej
      subst ej
      have bu3 : Buf cTok 5 N_api_Token h3 ou ((l.take j).map (tokIn es l)) := bu3
      have l2 := b2.len
      have a3 := a.keep kp3
      refine w_if' (fun c => ?_) fun c => ?_
      · have c : (j : Int) < (s2.len : Int) := c
        have hjl : j < l.length := by omega
        have hz := List.getElem?_eq_getElem hjl
        generalize hzz : l[j] = zm at hz
        obtain ⟨q, u, us, rfl, hu⟩ := hasN_nds.1 (bl.live _ (List.mem_of_getElem? hz))
        refine w_get ci_len b2.arr hz rfl (v' := (q : Int)) rfl (t_RAt (x.keep kp3) ?_)
        have eat : atOut es (q : Int) = (u, true) := by
          unfold atOut
          rw [(atE_has (i := (q : Int))).2 ⟨q, rfl, hu⟩]
        rw [eat]
        obtain ⟨Pq, hPq, _, _, _, ePq⟩ := b.has hu
        -- the place of the parent in the list
        have hahead := bl.ahead wf ht hz hu
        refine w_for j (fun m (z : Int × Int × Int × Int × Int × Int) h4 => h3 = h4 ∧ z = ((m : Int), u.Cap.Obj, u.Cap.Pass.Hi, u.Cap.Pass.Lo, u.Rights, if u.Parent ∈ l.take m then placeIn l u.Parent else u.Parent)) ?_ ⟨rfl, by rw [List.take_zero, if_neg (by simp)]; rfl⟩
        rintro rec3 m z h4 hm ⟨rfl, rfl⟩ more3
        refine w_if' (fun c => ?_) fun c => ?_
        · have c : (m : Int) < (j : Int) := c
          have hmj : m < j := by omega
          have hml : m < l.length := by omega
          have hzm := List.getElem?_eq_getElem hml
          generalize hzzm : l[m] = zm' at hzm
          refine w_idx ci_len b2.arr hzm rfl fun ad1 _ had1 => w_deref (w_idx ci_len b2.arr hz rfl fun ad2 _ had2 => w_load (v := zm') had1 (w_load a3.f0 (w_load (v := (q : Int)) had2 ?_)))
          refine w_field rp_len a3.buf.arr hPq rfl (v' := Pq.Parent) (cells' := cInt .i64) (l1 := (cPl Pq).take 5) (l3 := (cPl Pq).drop 6) rfl rfl ?_
          rw [ePq]
          obtain ⟨qm, _, _, eqm, _⟩ := hasN_nds.1 (bl.live _ (List.mem_of_getElem? hzm))
          have take1 : l.take (m + 1) = l.take m ++ [zm'] := by rw [List.take_add_one, hzm]; rfl
          refine w_if' (fun e => ?_) fun e => ?_
          · refine more3 _ _ hmj ⟨rfl, ?_⟩
            show (iAdd .i64 (m : Int) 1, _, _, _, _, _) = _
            have hmem : u.Parent ∈ l.take m ++ [zm'] := by rw [← e]; simp
            have hpl : placeIn l u.Parent = (m : Int) := by
              unfold placeIn
              rw [if_neg (by omega), ← e, idx_of bl.nd hzm]
            rw [ia1 m (by omega), take1, if_pos hmem, hpl]
          · refine more3 _ _ hmj ⟨rfl, ?_⟩
            show (iAdd .i64 (m : Int) 1, _, _, _, _, _) = _
            have e' : ¬ u.Parent = zm' := fun z => e z.symm
            rw [ia1 m (by omega), take1]
            simp only [List.mem_append, List.mem_singleton, e', or_false]
        · have c : ¬ (m : Int) < (j : Int) := c
          obtain rfl : m = j := by omega
          have epar : (if u.Parent ∈ l.take m then placeIn l u.Parent else u.Parent) = placeIn l u.Parent := by
            rcases hahead with ⟨rfl, rfl⟩ | ⟨_, q2⟩
            · have : u.Parent = -1 := htp
              rw [this]
              split
              · rfl
              · rfl
            · rw [if_pos q2]
          refine w_app (by_ := 40) tok_len rfl bu3 [tokIn es l (q : Int)] ?_ rfl (.inl (by simp only [List.length_map, List.length_take, List.length_singleton]; omega)) fun s5 h5 bu5 k5 f5 d5 => ?_
          · rw [tokIn_has hu, epar]; rfl
          refine more2 _ _ hjl ⟨ia1 m (by omega), kp3.but k5 fo3, b2.but k5 fun ad' ha f => (bu3.typed f).ne (b2.typed ⟨ad', ha, rfl⟩) (by decide) rfl, ?_, fun c f => (f5 c f).elim (fo3 c) fun q => kp3.fresh q⟩
          rw [List.take_add_one, hz, List.map_append]
          exact bu5
      · have c : ¬ (j : Int) < (s2.len : Int) := c
        obtain rfl : j = l.length := by omega
        rw [List.take_length] at bu3
        exact more _ _ hil ⟨ia1 i (by omega), kp3, .inr ⟨i, t, ks, l, by omega, ht, hto, htp, bl, bu3, fo3⟩⟩
  · have d : ¬ (i : Int) < (s.len : Int) := d
    obtain rfl : i = es.length := by omega
    rcases hst with ⟨rfl, hno⟩ | ⟨n, t, ks, l, hni, hn, ho, hp, bl, bu, fo⟩
    · refine no (fun j t ks ht ho => ?_) h' kp
      obtain ⟨r, v, vs, hr, hp, hob, _⟩ := wf.rootOf ht
      exact hno r hr.lt v vs hr (hob.trans ho) hp
    · exact y n t ks l hn ho hp bl out h' bu kp fo
end
end Go.Proofs.Ytiajjcboddaenaa.K
