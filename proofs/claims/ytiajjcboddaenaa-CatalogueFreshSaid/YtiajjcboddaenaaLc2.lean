/- The catalogue beside its reference: the known one, all. -/
import Derived.Test.YtiajjcboddaenaaLc1
namespace Go.Proofs.Ytiajjcboddaenaa.K
open Go
def knownE1 : List En := [some (⟨⟨7, ⟨0, 1⟩⟩, 31, -1⟩, []), none, none]
def knownE2 : List En := [some (⟨⟨7, ⟨0, 1⟩⟩, 31, -1⟩, [1]), some (⟨⟨7, ⟨0, 2⟩⟩, 3, 0⟩, []), none]
theorem known_r : rootOut (List.replicate 3 none) ⟨7, ⟨0, 1⟩⟩ 31 = ((0, 0), knownE1) := by kernel_rfl
theorem known_c : childOut knownE1 0 ⟨7, ⟨0, 2⟩⟩ 3 = ((1, 0), knownE2) := by kernel_rfl
theorem known_at : atOut knownE2 1 = (⟨⟨7, ⟨0, 2⟩⟩, 3, 0⟩, true) := by kernel_rfl
theorem known_in : cnt knownE2 7 = 2 := by kernel_rfl
theorem known_b : PreL (chN (nds knownE2)) [0] [0, 1] := by
  have e0 : chN (nds knownE2) 0 = [1] := by kernel_rfl
  have e1 : chN (nds knownE2) 1 = [] := by kernel_rfl
  have p1 : PreL (chN (nds knownE2)) [1] ((1 : Int) :: ([] ++ [])) := .cons (by rw [e1]; exact .nil) .nil
  have p0 : PreL (chN (nds knownE2)) [0] ((0 : Int) :: ([1] ++ [])) := .cons (by rw [e0]; exact p1) .nil
  exact p0
section
variable {h : H}
theorem t_known {K : Bool → H → Prop} (y : ∀ h', Keeps h h' → K true h') : m_law11_known K h := by
  unfold m_law11_known
  refine t_CNew (fun q => by omega) fun _ _ n en _ _ p G h1 c1 k1 f1 => w_ifF rfl ?_
  obtain rfl : n = 3 := by omega
  refine t_CRoot c1 ?_
  rw [known_r]
  refine fun G2 h2 c2 k2 => t_CChild c2 ?_
  rw [known_c]
  refine fun G3 h3 c3 k3 => t_CAt c3 ?_
  rw [known_at]
  have k13 := k2.trans k3
  have fG : ∀ {G' : Nat → Prop} {h' : H}, KChg G G' h1 h' → Keeps h h' := fun k => k1.but k.but f1
  refine w_joinV false (fun j hj => w_ifF rfl (t_CIn c3 ?_)) ?_
  · rw [known_in]; exact hj
  refine w_ifF rfl (t_CDrop c3 (fun q => by cases q) fun n t ks l e hn bl s' G4 h4 c4 k4 bu4 f4 ap4 => ?_)
  have e : (0 : Int) = (n : Int) := e
  obtain rfl : n = 0 := by omega
  have el : l = [0, 1] := bl.pre.inj known_b
  subst el
  have bu4 : Buf S_api_Cap.cells 3 N_api_Cap h4 s' [⟨7, ⟨0, 1⟩⟩, ⟨7, ⟨0, 2⟩⟩] := bu4
  have k14 := k13.trans k4
  refine w_joinP (fun s11 hh => s11 = true ∧ Keeps h4 hh) (fun j hj => w_ifT rfl (w_box fun b h5 f5 c5 k5 => ?_)) ?_
  · have b5 : Buf S_api_Cap.cells 3 N_api_Cap h5 ⟨some ⟨b, 0, none⟩, 2, 2⟩ [⟨7, ⟨0, 1⟩⟩, ⟨7, ⟨0, 2⟩⟩] := ⟨rfl, Nat.le_refl _, .inr ⟨b, [], (0, 0), rfl, c5, rfl, thawed0 _⟩⟩
    exact t_sameCaps (bu4.keep k5).arr b5.arr (by simp) (hj _ _ ⟨rfl, k5⟩)
  rintro _ h5 ⟨rfl, k5⟩
  refine w_ifT rfl (t_CCount (c4.keep k5) ?_)
  have e0 : (capsG 0 (cutE [0, 1] knownE2)).length = 0 := by kernel_rfl
  rw [e0]
  exact y _ ((fG k14).trans k5)
/-- A pair, or none of the two. -/
structure OP (h : H) (P R : Option Addr) (ev : Nat) (D : Nat → Prop) : Prop where
  ex : (P = none ∧ R = none ∧ ∀ c, ¬ D c) ∨ ∃ p r ev' es, P = some ⟨p, 0, none⟩ ∧ R = some ⟨r, 0, none⟩ ∧ ev' ≤ ev ∧ PairAt h p r ev' D es
theorem OP.keep {h' : H} {P R : Option Addr} {ev : Nat} {D : Nat → Prop} (x : OP h P R ev D) (k : Keeps h h') : OP h' P R ev D :=
  ⟨x.ex.imp id fun ⟨p, r, ev', es, a, b, c, d⟩ => ⟨p, r, ev', es, a, b, c, d.keep k⟩⟩
theorem OP.but {h' : H} {P R : Option Addr} {ev : Nat} {D E : Nat → Prop} (x : OP h P R ev D) (k : But E h h') (f : ∀ c, E c → ¬ D c) : OP h' P R ev D :=
  ⟨x.ex.imp id fun ⟨p, r, ev', es, a, b, c, d⟩ => ⟨p, r, ev', es, a, b, c, d.but k f⟩⟩
theorem OP.has {P R : Option Addr} {ev : Nat} {D : Nat → Prop} (x : OP h P R ev D) {c : Nat} (f : D c) : h c ≠ none := by
  rcases x.ex with ⟨_, _, q⟩ | ⟨p, r, ev', es, _, _, _, d⟩
  · exact absurd f (q c)
  · exact d.has f
theorem OP.le {P R : Option Addr} {ev ev' : Nat} {D : Nat → Prop} (x : OP h P R ev D) (e : ev ≤ ev') : OP h P R ev' D :=
  ⟨x.ex.imp id fun ⟨p, r, e', es, a, b, c, d⟩ => ⟨p, r, e', es, a, b, Nat.le_trans c e, d⟩⟩
theorem t_new2 {a b : Int} {k : Option Addr × Int → Option Addr × Int → H → Prop} (y : ∀ P R e D h', OP h' P R 0 D → P.isNone = R.isNone → P.isNone = (!decide (e = 0)) → Keeps h h' → (∀ c, D c → h c = none) → k (P, e) (R, e) h') :
    m_catalogue_New a b (fun r1 => m_ref11_New a b (fun r2 => k r1 r2)) h := by
  have bad : (a < 1 ∨ 256 < a ∨ b < 0 ∨ 64 < b) → k (none, 16) (none, 16) h := fun q => y none none 16 (fun _ => False) h ⟨.inl ⟨rfl, rfl, fun _ q => q⟩⟩ rfl rfl (.refl _) fun _ q => q.elim
  refine t_CNew (fun q => t_RNew (fun _ => bad q) fun _ _ n e _ _ => by omega) fun _ _ n e _ _ p G h1 c1 k1 f1 => t_RNew (fun q => by omega) fun _ _ n' e' _ _ r G' h2 c2 k2 f2 => ?_
  obtain rfl : n = n' := by omega
  refine y _ _ 0 (fun c => G c ∨ G' c) h2 ⟨.inr ⟨p, r, 0, _, rfl, rfl, Nat.le_refl _, ⟨b, G, G', c1.keep k2, c2, fun c q q' => c1.has q (f2 c q'), fun _ => Iff.rfl⟩⟩⟩ rfl rfl (k1.trans k2) fun c q => q.elim (f1 c) fun q => k1.fresh (f2 c q)
theorem st_len : ∀ x, (S_law11_Step.cells x).length = 7 := fun _ => rfl
theorem t_CatalogueAll {sz : S_law11_Sizes} {s : Sl} {sts : List S_law11_Step} (ar : Arr S_law11_Step.cells h s sts) (hn : sts.length ≤ 9223372036854775807) {K : Bool → H → Prop} (y : ∀ h', Keeps h h' → K true h') : m_law11_CatalogueAll sz s K h := by
  unfold m_law11_CatalogueAll
  refine t_new2 fun P1 R1 e1 D1 h1 o1 n1 m1 k1 f1 => t_new2 fun P2 R2 e2 D2 h2 o2 n2 m2 k2 f2 => t_known fun h3 k3 => ?_
  refine w_ifF ?_ ?_
  · rw [m1, m2]; simp
  have k03 := (k1.trans k2).trans k3
  have hl := ar.len
  refine w_for sts.length (fun i (z : Int) h' => z = (i : Int) ∧ ∃ D1' D2', OP h' P1 R1 i D1' ∧ OP h' P2 R2 i D2' ∧ (∀ c, D1' c → ¬ D2' c) ∧ (∀ c, D1' c → h c = none) ∧ (∀ c, D2' c → h c = none) ∧ Keeps h h') ?_ ⟨rfl, D1, D2, (o1.keep k2).keep k3, o2.keep k3, fun c q q' => o1.has q (f2 c q'), f1, fun c q => k1.fresh (f2 c q), k03⟩
  rintro rec i z h' hi ⟨rfl, E1, E2, p1, p2, ap, g1, g2, kp⟩ more
  refine w_if' (fun c => ?_) fun c => ?_
  · have c : (i : Int) < (s.len : Int) := c
    have hil : i < sts.length := by omega
    have hz := List.getElem?_eq_getElem hil
    have ar' := ar.keep kp
    have ei : iAdd .i64 (i : Int) 1 = ((i + 1 : Nat) : Int) := (iAdd_eq (by omega) (by omega)).trans (by omega)
    refine w_joinP (fun s8 hh => s8 = true ∧ ∃ D1' D2', OP hh P1 R1 (i + 1) D1' ∧ OP hh P2 R2 (i + 1) D2' ∧ (∀ c, D1' c → ¬ D2' c) ∧ (∀ c, D1' c → h c = none) ∧ (∀ c, D2' c → h c = none) ∧ Keeps h hh) (fun j hj => ?_) ?_
    · have rd : ∀ {k : Bool → H → Prop}, k (sts[i]).Second h' → mIdx s (i : Int) 7 (fun ad => mLoad cBool (ad.add 0) k) h' := fun z => w_field st_len ar' hz rfl (v' := (sts[i]).Second) (cells' := cBool) (l1 := []) (l3 := (S_law11_Step.cells sts[i]).drop 1) rfl rfl z
      have idle : j true h' := hj _ _ ⟨rfl, E1, E2, p1.le (by omega), p2.le (by omega), ap, g1, g2, kp⟩
      refine rd (w_if (fun q => ?_) fun q => rd (w_if (fun q => ?_) fun _ => idle))
      · -- the second pair
        rcases p2.ex with ⟨rfl, rfl, _⟩ | ⟨p, r, ev, es, rfl, rfl, le, x2⟩
        · simp at q
        refine w_get st_len ar' hz rfl (v' := sts[i]) rfl (t_step x2 (fun _ => by omega) fun h4 es4 ev4 D4 e4 x4 c4 _ => ?_)
        have k4 : Keeps h h4 := kp.but c4.but g2
        have ap4 : ∀ c, D4 c → ¬ E1 c := c4.apart (fun c q q' => ap c q' q) fun c q => p1.has q
        refine hj _ _ ⟨rfl, E1, D4, (p1.but c4.but fun c q q' => ap c q' q).le (by omega), ⟨.inr ⟨p, r, ev4, es4, rfl, rfl, by omega, x4⟩⟩, fun c q q' => ap4 c q' q, g1, fun c q => (c4.foot c q).elim (g2 c) fun z => kp.fresh z, k4⟩
      · rcases p1.ex with ⟨rfl, rfl, _⟩ | ⟨p, r, ev, es, rfl, rfl, le, x1⟩
        · simp at q
        refine w_get st_len ar' hz rfl (v' := sts[i]) rfl (t_step x1 (fun _ => by omega) fun h4 es4 ev4 D4 e4 x4 c4 _ => ?_)
        have k4 : Keeps h h4 := kp.but c4.but g1
        have ap4 : ∀ c, D4 c → ¬ E2 c := c4.apart ap fun c q => p2.has q
        refine hj _ _ ⟨rfl, D4, E2, ⟨.inr ⟨p, r, ev4, es4, rfl, rfl, by omega, x4⟩⟩, (p2.but c4.but ap).le (by omega), ap4, fun c q => (c4.foot c q).elim (g1 c) fun z => kp.fresh z, g2, k4⟩
    · rintro _ h4 ⟨rfl, D1', D2', q⟩
      exact w_ifF rfl (more _ _ hil ⟨ei, D1', D2', q⟩)
  · have c : ¬ (i : Int) < (s.len : Int) := c
    obtain rfl : i = sts.length := by omega
    refine w_joinP (fun s21 hh => s21 = true ∧ ∃ D2', OP hh P2 R2 sts.length D2' ∧ (∀ c, D2' c → h c = none) ∧ Keeps h hh) (fun j hj => w_if (fun q => hj _ _ ⟨rfl, E2, p2, g2, kp⟩) fun q => ?_) ?_
    · rcases p1.ex with ⟨rfl, rfl, _⟩ | ⟨p, r, ev, es, rfl, rfl, le, x1⟩
      · cases q
      refine t_whole x1 fun h4 es4 D4 x4 c4 => hj _ _ ⟨rfl, E2, p2.but c4.but ap, g2, kp.but c4.but g1⟩
    · rintro _ h4 ⟨rfl, F2, q2, r2, k4⟩
      refine w_ifT rfl (w_if (fun _ => y _ k4) fun q => ?_)
      rcases q2.ex with ⟨rfl, rfl, _⟩ | ⟨p, r, ev, es, rfl, rfl, le, x2⟩
      · cases q
      exact t_whole x2 fun h5 es5 D5 x5 c5 => y _ (k4.but c5.but r2)
end
end Go.Proofs.Ytiajjcboddaenaa.K
