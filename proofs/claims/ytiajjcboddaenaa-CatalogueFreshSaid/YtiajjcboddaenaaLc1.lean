/- The catalogue beside its reference: a step, the whole, all. -/
import Derived.Test.YtiajjcboddaenaaCe3
import Derived.Test.YtiajjcboddaenaaFlaw11
import Derived.Test.YtiajjcboddaenaaFlaw11x2
namespace Go.Proofs.Ytiajjcboddaenaa.K
open Go
deriving instance DecidableEq for S_api_Token
section
variable {h : H}
theorem Arr.nil {T : Type} {cells : T → List Value} : Arr cells h Sl.nil ([] : List T) := (Buf.nil (sz := 0) (e := 0)).arr
theorem tok_eqB (x y : S_api_Token) : (((decide (x.Cap.Obj = y.Cap.Obj)) && (((decide (x.Cap.Pass.Hi = y.Cap.Pass.Hi)) && ((decide (x.Cap.Pass.Lo = y.Cap.Pass.Lo)) && true)) && true)) && ((decide (x.Rights = y.Rights)) && ((decide (x.Parent = y.Parent)) && true))) = decide (x = y) := by
  rw [cap_eqB]
  obtain ⟨c, r, p⟩ := x
  obtain ⟨c', r', p'⟩ := y
  rw [Bool.eq_iff_iff]
  simp only [Bool.and_eq_true, Bool.and_true, decide_eq_true_eq, S_api_Token.mk.injEq]
theorem t_sameCaps {a b : Sl} {xs : List S_api_Cap} (x : Arr S_api_Cap.cells h a xs) (x' : Arr S_api_Cap.cells h b xs) (hn : xs.length ≤ 2 ^ 40) {K : Bool → H → Prop} (y : K true h) : m_law11_sameCaps a b K h := by
  unfold m_law11_sameCaps
  have h1 := x.len
  have h2 := x'.len
  refine w_ifF (by rw [h1, h2]; simp) (w_for xs.length (fun i (z : Int) h' => z = (i : Int) ∧ h = h') ?_ ⟨rfl, rfl⟩)
  rintro rec i z h' hi ⟨rfl, rfl⟩ more
  refine w_if' (fun c => ?_) fun c => y
  have c : (i : Int) < (a.len : Int) := c
  have hil : i < xs.length := by omega
  have hz := List.getElem?_eq_getElem hil
  refine w_idx cap_len x hz rfl fun ad _ ha => w_idx cap_len x' hz rfl fun ad' _ ha' => w_load ha (w_load ha' ?_)
  rw [cap_eqB]
  exact w_ifF (by simp) (more _ _ hil ⟨ia1 i (by omega), rfl⟩)
theorem t_sameTokens {a b : Sl} {xs : List S_api_Token} (x : Arr cTok h a xs) (x' : Arr cTok h b xs) (hn : xs.length ≤ 2 ^ 40) {K : Bool → H → Prop} (y : K true h) : m_law11_sameTokens a b K h := by
  unfold m_law11_sameTokens
  have h1 := x.len
  have h2 := x'.len
  refine w_ifF (by rw [h1, h2]; simp) (w_for xs.length (fun i (z : Int) h' => z = (i : Int) ∧ h = h') ?_ ⟨rfl, rfl⟩)
  rintro rec i z h' hi ⟨rfl, rfl⟩ more
  refine w_if' (fun c => ?_) fun c => y
  have c : (i : Int) < (a.len : Int) := c
  have hil : i < xs.length := by omega
  have hz := List.getElem?_eq_getElem hil
  refine w_idx tok_len x hz rfl fun ad _ ha => w_idx tok_len x' hz rfl fun ad' _ ha' => w_load ha (w_load ha' ?_)
  rw [tok_eqB]
  exact w_ifF (by simp) (more _ _ hil ⟨ia1 i (by omega), rfl⟩)
end
theorem KChg.apart {G G1 G' : Nat → Prop} {h h1 : H} (k : KChg G G1 h h1) (ap : ∀ c, G c → ¬ G' c) (has : ∀ c, G' c → h c ≠ none) : ∀ c, G1 c → ¬ G' c := fun c f g => (k.foot c f).elim (fun q => ap c q g) fun q => has c g q
theorem KChg.both {G G1 G' G1' : Nat → Prop} {h h1 h2 : H} (k : KChg G G1 h h1) (k' : KChg G' G1' h1 h2) : KChg (fun c => G c ∨ G' c) (fun c => G1 c ∨ G1' c) h h2 :=
  ⟨(k.but.mono fun _ q => .inl q).trans k'.but fun c q => .inl (.inr q), fun c q => by
    rcases q with q | q
    · exact (k.foot c q).imp .inl id
    · exact (k'.foot c q).elim (fun q => .inl (.inr q)) fun q => .inr (k.dom c q), fun c q => k.dom c (k'.dom c q)⟩
/-- The two of a pair hold the same entries. -/
structure PairAt (h : H) (p r : Nat) (ev : Nat) (D : Nat → Prop) (es : List En) : Prop where
  ex : ∃ knob G G', Cat h p knob G es ∧ Ref h r ev G' es ∧ (∀ c, G c → ¬ G' c) ∧ ∀ c, D c ↔ G c ∨ G' c
section
variable {h : H} {p r : Nat} {ev : Nat} {D : Nat → Prop} {es : List En}
theorem PairAt.keep {h' : H} (x : PairAt h p r ev D es) (k : Keeps h h') : PairAt h' p r ev D es := by
  obtain ⟨knob, G, G', a, b, c⟩ := x.ex
  exact ⟨knob, G, G', a.keep k, b.keep k, c⟩
theorem PairAt.but {h' : H} {E : Nat → Prop} (x : PairAt h p r ev D es) (k : But E h h') (f : ∀ c, E c → ¬ D c) : PairAt h' p r ev D es := by
  obtain ⟨knob, G, G', a, b, c, d⟩ := x.ex
  exact ⟨knob, G, G', a.but k fun c e g => f c e ((d c).2 (.inl g)), b.but k fun c e g => f c e ((d c).2 (.inr g)), c, d⟩
theorem PairAt.has (x : PairAt h p r ev D es) {c : Nat} (f : D c) : h c ≠ none := by
  obtain ⟨knob, G, G', a, b, _, d⟩ := x.ex
  exact ((d c).1 f).elim a.has b.has
theorem t_step (x : PairAt h p r ev D es) {st : S_law11_Step} (he : st.Kind = 0 ∨ st.Kind = 1 → ev < 9223372036854775807) {K : Bool → H → Prop} (y : ∀ h' es' ev' D', ev' ≤ ev + 1 ∧ (st.Kind ≠ 0 ∧ st.Kind ≠ 1 → ev' = ev) → PairAt h' p r ev' D' es' → KChg D D' h h' → es'.length = es.length → K true h') : m_law11_Pair_step (⟨some ⟨p, 0, none⟩, some ⟨r, 0, none⟩⟩ : S_law11_Pair) st K h := by
  obtain ⟨knob, G, G', a, b, ap, d⟩ := x.ex
  have hasG' : ∀ c, G' c → h c ≠ none := fun c q => b.has q
  -- what a pair of calls leaves
  have fin : ∀ {h1 h2 : H} {G1 G1' : Nat → Prop} {es' : List En} {ev' : Nat}, ev' ≤ ev + 1 ∧ (st.Kind ≠ 0 ∧ st.Kind ≠ 1 → ev' = ev) → es'.length = es.length → KChg G G1 h h1 → KChg G' G1' h1 h2 → Cat h1 p knob G1 es' → Ref h2 r ev' G1' es' → K true h2 := fun {h1 h2 G1 G1' es' ev'} e1 el k1 k2 c1 c2 => by
    have ap1 := k1.apart ap hasG'
    have ap2 : ∀ c, G1 c → ¬ G1' c := fun c q q' => by
      rcases k2.foot c q' with z | z
      · exact ap1 c q z
      · exact c1.has q z
    have kb := k1.both k2
    refine y h2 es' ev' (fun c => G1 c ∨ G1' c) e1 ⟨knob, G1, G1', c1.but k2.but (fun c q q' => ap1 c q' q), c2, ap2, fun _ => Iff.rfl⟩ ⟨kb.but.mono fun c q => (d c).2 q, fun c q => (kb.foot c q).imp (d c).2 id, kb.dom⟩ el
  have idle : K true h := fin (h1 := h) ⟨by omega, fun _ => rfl⟩ rfl (.refl _ _) (.refl _ _) a b
  have lenR : ∀ c v, (rootOut es c v).2.length = es.length := fun c v => by
    unfold rootOut
    split
    · split
      · rfl
      · split
        · rfl
        · unfold rootE; rw [List.length_set]
    · rfl
  have lenC : ∀ q c v, (childOut es q c v).2.length = es.length := fun q c v => by
    unfold childOut
    split
    · rfl
    · split
      · split
        · split
          · rfl
          · split
            · rfl
            · unfold childE
              split
              · simp only [List.length_set]
              · rfl
        · rfl
      · rfl
  unfold m_law11_Pair_step
  refine w_if (fun k0 => ?_) fun _ => w_if (fun k1' => ?_) fun _ => w_if (fun _ => ?_) fun _ => w_if (fun _ => ?_) fun _ => w_if (fun _ => ?_) fun _ => w_if (fun _ => ?_) fun _ => w_if (fun _ => ?_) fun _ => idle
  · refine t_CRoot a fun G1 h1 c1 k1 => t_RRoot (b.but k1.but fun c q q' => ap c q q') (he (.inl (of_decide_eq_true k0))) fun G1' h2 ev' e1 c2 k2 => ?_
    rw [decide_eq_true rfl, decide_eq_true rfl]
    exact fin ⟨e1, fun z => absurd (of_decide_eq_true k0) z.1⟩ (lenR _ _) k1 k2 c1 c2
  · refine t_CChild a fun G1 h1 c1 k1 => t_RChild (b.but k1.but fun c q q' => ap c q q') (he (.inr (of_decide_eq_true k1'))) fun G1' h2 ev' e1 c2 k2 => ?_
    rw [decide_eq_true rfl, decide_eq_true rfl]
    exact fin ⟨e1, fun z => absurd (of_decide_eq_true k1') z.2⟩ (lenC _ _ _) k1 k2 c1 c2
  · refine t_CFind a (t_RFind b ?_)
    dsimp only
    rw [decide_eq_true rfl, Bool.beq_eq_decide_eq, decide_eq_true rfl]
    exact idle
  · refine t_CAt a (t_RAt b ?_)
    rw [tok_eqB, decide_eq_true rfl, Bool.beq_eq_decide_eq, decide_eq_true rfl]
    exact idle
  · refine t_CDrop a (fun hno h1 k1 => t_RDrop (b.keep k1) (fun _ => t_sameCaps Arr.nil Arr.nil (by simp) ?_) fun n t ks l e hn _ => ?_) fun n t ks l e hn bl s1 G1 h1 c1 k1 bu1 f1 ap1 => t_RDrop (b.but k1.but fun c q q' => ap c q q') (fun hno => ?_) fun n' t' ks' l' e' hn' bl' s2 G2 h2 c2 k2 bu2 f2 ap2 => ?_
    · exact fin ⟨by omega, fun _ => rfl⟩ rfl ⟨.of k1, fun c q => .inl q, fun c q => k1.fresh q⟩ (.refl _ _) (a.keep k1) (b.keep k1)
    · rw [e, (atE_has (i := (n : Int))).2 ⟨n, rfl, hn⟩] at hno; cases hno
    · rw [e, (atE_has (i := (n : Int))).2 ⟨n, rfl, hn⟩] at hno; cases hno
    · obtain rfl : n = n' := by omega
      obtain rfl := bl.pre.inj bl'.pre
      have hl := bl.len
      have wl := a.wf.len
      refine t_sameCaps (bu1.but k2.but fun ad ha q => ?_).arr bu2.arr (by rw [List.length_map]; omega) ?_
      · exact hasG' _ q (f1 _ ⟨ad, ha, rfl⟩)
      · rw [decide_eq_true rfl]
        exact fin ⟨by omega, fun _ => rfl⟩ (cutE_len _ _) k1 k2 c1 c2
  · have wl := a.wf.len
    refine t_COf a (fun hno h1 k1 => t_ROf (b.keep k1) (fun _ h2 k2 => t_sameTokens Arr.nil Arr.nil (by simp) ?_) fun n t ks l hn ho _ _ => absurd ho (hno _ _ _ hn)) fun n t ks l hn ho hp bl s1 h1 bu1 k1 f1 => t_ROf (b.keep k1) (fun hno => absurd ho (hno _ _ _ hn)) fun n' t' ks' l' hn' ho' hp' bl' s2 h2 bu2 k2 f2 => ?_
    · have k := k1.trans k2
      exact fin ⟨by omega, fun _ => rfl⟩ rfl ⟨.of k, fun c q => .inl q, fun c q => k.fresh q⟩ (.refl _ _) (a.keep k) (b.keep k)
    · obtain rfl := a.wf.one _ _ _ _ _ _ hn hn' hp hp' (ho.trans ho'.symm)
      obtain rfl := bl.pre.inj bl'.pre
      have hl := bl.len
      refine t_sameTokens (bu1.keep k2).arr bu2.arr (by unfold ofE; rw [List.length_map]; omega) ?_
      have k := k1.trans k2
      exact fin ⟨by omega, fun _ => rfl⟩ rfl ⟨.of k, fun c q => .inl q, fun c q => k.fresh q⟩ (.refl _ _) (a.keep k) (b.keep k)
  · refine t_CCount a (t_RCount b (w_ifT (decide_eq_true rfl) (t_CIn a (t_RIn b ?_))))
    rw [decide_eq_true rfl]
    exact idle
theorem t_whole (x : PairAt h p r ev D es) {K : Bool → H → Prop} (y : ∀ h' es' D', PairAt h' p r ev D' es' → KChg D D' h h' → K true h') : m_law11_Pair_whole (⟨some ⟨p, 0, none⟩, some ⟨r, 0, none⟩⟩ : S_law11_Pair) K h := by
  unfold m_law11_Pair_whole
  refine w_for es.length (fun i (z : Int) h' => z = (i : Int) ∧ ∃ es' D', PairAt h' p r ev D' es' ∧ es'.length = es.length ∧ KChg D D' h h') ?_ ⟨rfl, es, D, x, rfl, .refl _ _⟩
  rintro rec i z h' hi ⟨rfl, es', D', x', el, kc⟩ more
  obtain ⟨knob, G, G', a, b, ap, d⟩ := x'.ex
  obtain ⟨s, pl, ra, rb, _⟩ := b.ex
  have hl := ra.buf.len
  have hb := rb.len
  have wl := b.wf.len
  refine w_deref (w_load ra.f0 (w_if' (fun c => ?_) fun c => y _ _ _ x' kc))
  have c : (i : Int) < (s.len : Int) := c
  refine t_RAt b (t_step x' (fun z => by dsimp only at z; omega) fun h1 es1 ev1 D1 e1 x1 k1 l1 => ?_)
  obtain rfl := e1.2 ⟨by dsimp only; decide, by dsimp only; decide⟩
  refine w_joinP (fun s8 hh => s8 = false ∧ ∃ es2 D2, PairAt hh p r ev1 D2 es2 ∧ es2.length = es.length ∧ KChg D D2 h hh) (fun j hj => w_ifF rfl (t_step x1 (fun z => by dsimp only at z; omega) fun h2 es2 ev2 D2 e2 x2 k2 l2 => ?_)) ?_
  · obtain rfl := e2.2 ⟨by dsimp only; decide, by dsimp only; decide⟩
    exact hj _ _ ⟨rfl, es2, D2, x2, l2.trans (l1.trans el), (kc.trans k1).trans k2⟩
  rintro _ h2 ⟨rfl, es2, D2, x2, l2, k2⟩
  refine w_joinP (fun s11 hh => s11 = false ∧ ∃ es3 D3, PairAt hh p r ev1 D3 es3 ∧ es3.length = es.length ∧ KChg D D3 h hh) (fun j hj => w_ifF rfl (t_step x2 (fun z => by dsimp only at z; omega) fun h3 es3 ev3 D3 e3 x3 k3 l3 => ?_)) ?_
  · obtain rfl := e3.2 ⟨by dsimp only; decide, by dsimp only; decide⟩
    exact hj _ _ ⟨rfl, es3, D3, x3, l3.trans l2, k2.trans k3⟩
  rintro _ h3 ⟨rfl, es3, D3, x3, l3, k3⟩
  refine w_joinP (fun s14 hh => s14 = false ∧ ∃ es4 D4, PairAt hh p r ev1 D4 es4 ∧ es4.length = es.length ∧ KChg D D4 h hh) (fun j hj => w_ifF rfl (t_step x3 (fun z => by dsimp only at z; omega) fun h4 es4 ev4 D4 e4 x4 k4 l4 => ?_)) ?_
  · obtain rfl := e4.2 ⟨by dsimp only; decide, by dsimp only; decide⟩
    exact hj _ _ ⟨rfl, es4, D4, x4, l4.trans l3, k3.trans k4⟩
  rintro _ h4 ⟨rfl, es4, D4, x4, l4, k4⟩
  exact w_ifF rfl (more _ _ (by omega) ⟨ia1 i (by omega), es4, D4, x4, l4, k4⟩)
end
end Go.Proofs.Ytiajjcboddaenaa.K
