/- The walk that computes is sound: plans, code, functions. -/
import Derived.Test.YtlnlmideghepnaaQ5
namespace Go.Proofs.Ytlnlmideghepnaa.K
open Go

def Same (s s' : SV) : Prop := ∃ v, s.is v ∧ s'.is v
theorem is_eq {s : SV} {v x : Value} {l : List Bx} {β : Nat → Nat} (h : s.is v) (r : Rel l β x s) : x = v := by
  cases s <;> first | (exact r.trans (Eq.symm h)) | exact h.elim
inductive SameL : List SV → List SV → Prop
  | nil : SameL [] []
  | cons {a b : SV} {l m : List SV} : Same a b → SameL l m → SameL (a :: l) (b :: m)
theorem decs_same : ∀ {A : List Ty} {l : List SV} {a : Den A}, decs A l = some a → SameL l (svsD A a) := by
  have one : ∀ {τ : Ty} {s : SV} {a : τ.T}, τ.dec s = some a → Same s (τ.sv a) := fun {τ s a} e => ⟨_, τ.law _ _ e, τ.svl a⟩
  intro A
  induction A with
  | nil =>
    intro l a e
    cases l with
    | nil => exact .nil
    | cons => cases e
  | cons t r ih =>
    intro l a e
    cases r with
    | nil =>
      match l, e with
      | [x], e => exact .cons (one e) .nil
      | x :: y :: r, e => cases e
    | cons u r =>
      match l, e with
      | x :: xs, e =>
        have e : (match t.dec x, decs (u :: r) xs with | some p, some q => some (p, q) | _, _ => none) = some a := e
        split at e
        · rename_i p q h1 h2
          cases e
          exact .cons (one h1) (ih h2)
        · cases e
theorem slotI_ok {st' : St} : ∀ {its : List It} {ss : List SV}, SameL (getI st' its) ss → ∀ (t : T) (u : Nat), (slotI its ss t).get u = .no ∨ Same (st'.σ u) ((slotI its ss t).get u) ∨ (slotI its ss t).get u = t.get u := by
  intro its
  induction its with
  | nil => intro ss _ t u; cases ss <;> exact .inr (.inr rfl)
  | cons i r ih =>
    intro ss h t u
    cases i with
    | slot a τ =>
      match ss, h with
      | s :: ss, .cons h1 h2 =>
        show (slotI r ss (T.set deep t a s)).get u = _ ∨ Same _ ((slotI r ss (T.set deep t a s)).get u) ∨ (slotI r ss (T.set deep t a s)).get u = t.get u
        rcases ih h2 (T.set deep t a s) u with q | q | q
        · exact .inl q
        · exact .inr (.inl q)
        · rw [q]
          rcases T.get_set deep t a s u with g | ⟨rfl, g⟩ | ⟨_, g⟩
          · exact .inl g
          · rw [g]; exact .inr (.inl h1)
          · exact .inr (.inr g)
    | cell a b τ =>
      match ss, h with
      | s :: ss, .cons _ h2 => exact ih h2 t u
theorem cellI_ok {st' : St} : ∀ {its : List It} {ss : List SV}, SameL (getI st' its) ss → ∀ {i j : Nat} {v : Value}, cellI its ss i j = some v → ∃ e, findB st'.bx i = some e ∧ e.cells[j]? = some (some v) := by
  intro its
  induction its with
  | nil => intro ss _ i j v h; cases ss <;> cases h
  | cons x r ih =>
    intro ss h i j v hv
    cases x with
    | slot t τ =>
      match ss, h with
      | s :: ss, .cons _ h2 => exact ih h2 hv
    | cell a b τ =>
      match ss, h with
      | s :: ss, .cons h1 h2 =>
        replace hv : (bif Nat.beq i a && Nat.beq j b then valOf? s else cellI r ss i j) = some v := hv
        cases hb : Nat.beq i a && Nat.beq j b <;> rw [hb] at hv
        · exact ih h2 hv
        · rw [Bool.and_eq_true, Nat.beq_eq, Nat.beq_eq] at hb
          obtain ⟨rfl, rfl⟩ := hb
          obtain ⟨w, a1, a2⟩ := h1
          have hw : v = w := by
            replace hv : valOf? s = some v := hv
            cases s <;> first | (cases hv; exact (Eq.symm a2)) | cases hv
          subst hw
          revert a1
          cases hf : findB st'.bx i with
          | none => exact fun a1 => a1.elim
          | some e =>
            simp only
            intro a1
            refine ⟨e, rfl, ?_⟩
            revert a1
            cases hc : e.cells[j]? with
            | none => exact fun a1 => a1.elim
            | some o => cases o with
              | none => exact fun a1 => a1.elim
              | some w => intro a1; have a1 : v = w := a1; rw [a1]
theorem encB_keys (its : List It) (M : List Nat) (ss : List SV) : ∀ l, (encB its M ss l).map Bx.key = l.map Bx.key := by
  intro l
  induction l with
  | nil => rfl
  | cons e r ih =>
    simp only [encB, List.map_cons, ih]
    cases memB M e.key <;> rfl
theorem encB_mem {its : List It} {M : List Nat} {ss : List SV} : ∀ {l : List Bx} {x : Bx}, x ∈ encB its M ss l → ∃ e, e ∈ l ∧ x = (match memB M e.key with | true => freshB its ss e true | false => e) := by
  intro l
  induction l with
  | nil => intro x h; cases h
  | cons e r ih =>
    intro x h
    rcases List.mem_cons.1 h with rfl | h
    · exact ⟨e, List.mem_cons_self .., rfl⟩
    · obtain ⟨e', h1, h2⟩ := ih h
      exact ⟨e', List.mem_cons_of_mem _ h1, h2⟩
theorem encB_has {its : List It} {M : List Nat} {ss : List SV} : ∀ {l : List Bx} {e : Bx}, e ∈ l → (match memB M e.key with | true => freshB its ss e true | false => e) ∈ encB its M ss l := by
  intro l
  induction l with
  | nil => intro x h; cases h
  | cons y r ih =>
    intro e h
    rcases List.mem_cons.1 h with rfl | h
    · exact List.mem_cons_self ..
    · exact List.mem_cons_of_mem _ (ih h)
theorem clean_keys : ∀ l, (clean l).map Bx.key = l.map Bx.key := by
  intro l
  induction l with
  | nil => rfl
  | cons e r ih => simp only [clean, List.map_cons, ih]
theorem clean_mem : ∀ {l : List Bx} {x : Bx}, x ∈ clean l → ∃ e, e ∈ l ∧ x = ⟨e.key, e.ty, e.cells, false⟩ := by
  intro l
  induction l with
  | nil => intro x h; cases h
  | cons e r ih =>
    intro x h
    rcases List.mem_cons.1 h with rfl | h
    · exact ⟨e, List.mem_cons_self .., rfl⟩
    · obtain ⟨e', h1, h2⟩ := ih h
      exact ⟨e', List.mem_cons_of_mem _ h1, h2⟩
theorem clean_has : ∀ {l : List Bx} {e : Bx}, e ∈ l → (⟨e.key, e.ty, e.cells, false⟩ : Bx) ∈ clean l := by
  intro l
  induction l with
  | nil => intro x h; cases h
  | cons y r ih =>
    intro e h
    rcases List.mem_cons.1 h with rfl | h
    · exact List.mem_cons_self ..
    · exact List.mem_cons_of_mem _ (ih h)
theorem backB_keys (l : List Bx) : ∀ m, (backB l m).map Bx.key = m.map Bx.key := by
  intro m
  induction m with
  | nil => rfl
  | cons e r ih => simp only [backB, List.map_cons, ih]
theorem backB_mem {l : List Bx} : ∀ {m : List Bx} {x : Bx}, x ∈ backB l m → ∃ e, e ∈ m ∧ x.key = e.key ∧ x.ty = e.ty ∧ x.cells = e.cells := by
  intro m
  induction m with
  | nil => intro x h; cases h
  | cons e r ih =>
    intro x h
    rcases List.mem_cons.1 h with rfl | h
    · exact ⟨e, List.mem_cons_self .., rfl, rfl, rfl⟩
    · obtain ⟨e', h1, h2⟩ := ih h
      exact ⟨e', List.mem_cons_of_mem _ h1, h2⟩
theorem backB_has {l : List Bx} : ∀ {m : List Bx} {e : Bx}, e ∈ m → ∃ x, x ∈ backB l m ∧ x.key = e.key ∧ x.ty = e.ty ∧ x.cells = e.cells ∧ (x.dirty = false → e.dirty = false ∧ ∀ y, findB l e.key = some y → y.dirty = false) := by
  intro m
  induction m with
  | nil => intro x h; cases h
  | cons y r ih =>
    intro e h
    rcases List.mem_cons.1 h with rfl | h
    · refine ⟨_, List.mem_cons_self .., rfl, rfl, rfl, fun d => ?_⟩
      rw [Bool.or_eq_false_iff] at d
      refine ⟨d.1, fun y hy => ?_⟩
      have := d.2
      rw [hy] at this
      exact this
    · obtain ⟨x, h1, h2⟩ := ih h
      exact ⟨x, List.mem_cons_of_mem _ h1, h2⟩
theorem stayed_spec {M : List Nat} {l' : List Bx} : ∀ {l : List Bx}, stayed M l' l = true → ∀ e, e ∈ l → memB M e.key = true ∨ ∃ x, findB l' e.key = some x ∧ x.dirty = false := by
  intro l
  induction l with
  | nil => intro _ e h; cases h
  | cons y r ih =>
    intro h e he
    simp only [stayed, Bool.and_eq_true, Bool.or_eq_true] at h
    rcases List.mem_cons.1 he with rfl | he
    · refine h.1.imp id fun q => ?_
      cases hf : findB l' e.key with
      | none => rw [hf] at q; cases q
      | some x => rw [hf] at q; exact ⟨x, rfl, by simpa using q⟩
    · exact ih h.2 e he

section meets
variable {β : Nat → Nat} {st : St} {ρ : Env} {L : H}
/-- Only the marks differ. -/
theorem Ok.marks {bx' : List Bx} (k : Ok β st ρ L) (hk : bx'.map Bx.key = st.bx.map Bx.key) (hm : ∀ x, x ∈ bx' → ∃ e, e ∈ st.bx ∧ x.key = e.key ∧ x.ty = e.ty ∧ x.cells = e.cells) : Ok β ⟨st.tr, bx'⟩ ρ L := by
  have ik : ∀ i, InK bx' i ↔ InK st.bx i := fun i => ink_keys hk
  refine ⟨fun t => ?_, fun x hx => ?_, fun i j hi hj => k.inj i j ((ik i).1 hi) ((ik j).1 hj), by show (bx'.map Bx.key).Nodup; rw [hk]; exact k.nd⟩
  · have := k.slots t
    revert this
    show Rel st.bx β (ρ t) (st.σ t) → Rel bx' β (ρ t) (st.σ t)
    cases st.σ t with
    | box j off => exact fun q m => q ((ik j).1 m)
    | lit j n => exact fun q m => q ((ik j).1 m)
    | _ => exact id
  · obtain ⟨e, he, h1, h2, h3⟩ := hm x hx
    obtain ⟨c, hc, kn⟩ := k.boxes e he
    exact ⟨c, by rw [h1, h2]; exact hc, by rw [h3]; exact kn⟩
theorem Ok.inS (k : Ok β st ρ L) : Ok β (K.inS st) ρ L := k.marks (clean_keys _) fun x hx => by
  obtain ⟨e, he, rfl⟩ := clean_mem hx
  exact ⟨e, he, rfl, rfl, rfl⟩
theorem Ok.backS {st0 : St} (k : Ok β st ρ L) : Ok β (K.backS st0 st) ρ L := k.marks (backB_keys _ _) fun _ hx => backB_mem hx
theorem ink_clean {l : List Bx} {i : Nat} : InK (clean l) i ↔ InK l i := ink_keys (clean_keys l)
theorem Tr.back {β' : Nat → Nat} {st' : St} (nd : (st.bx.map Bx.key).Nodup) (t : Tr β (K.inS st) β' st') : Tr β st β' (K.backS st st') := ⟨fun i h => t.agree i (ink_clean.2 h), fun e he => by
  obtain ⟨e', h1, h2, h3, h4, h5⟩ := t.has _ (clean_has he)
  obtain ⟨x, g1, g2, g3, g4, g5⟩ := backB_has (l := st.bx) h1
  refine ⟨x, g1, g2.trans h2, g3.trans h3, by rw [g4]; exact h4, fun d => ?_⟩
  obtain ⟨d1, d2⟩ := g5 d
  have h2 : e'.key = e.key := h2
  exact ⟨d2 e (by rw [h2]; exact findB_mem nd he), g4.trans (h5 d1).2⟩⟩
/-- Where ways meet, the state is as it is told behind. -/
theorem meet_ok {β' : Nat → Nat} {st' : St} {ρ' : Env} {L' : H} {its : List It} {D : Nat → Bool} {M : List Nat} {s : DenI its} (ok : Ok β st ρ L) (ok' : Ok β' st' ρ' L') (ag : ∀ i, InK st.bx i → β' i = β i)
    (has : ∀ e, e ∈ st.bx → ∃ e', e' ∈ st'.bx ∧ e'.key = e.key ∧ e'.ty = e.ty ∧ e'.cells.length = e.cells.length ∧ (e'.dirty = false → e'.cells = e.cells)) (agD : Agree D ρ ρ')
    (hs : decs (tysI its) (getI st' its) = some s) (hst : stayed M st'.bx st.bx = true) : Ok β' (encS its D M s st) ρ' L' ∧ Tr β st β' (encS its D M s st) := by
  have sm := decs_same hs
  have ik : ∀ i, InK (encB its M (svsD (tysI its) s) st.bx) i ↔ InK st.bx i := fun i => ink_keys (encB_keys _ _ _ _)
  have ik' : ∀ i, InK st.bx i → InK st'.bx i := fun i ⟨e, he, hk⟩ => by
    obtain ⟨e', h1, h2, _⟩ := has e he
    exact ⟨e', h1, h2.trans hk⟩
  refine ⟨⟨fun u => ?_, fun x hx => ?_, fun i j hi hj => ok'.inj i j (ik' i ((ik i).1 hi)) (ik' j ((ik j).1 hj)), by show ((encB _ _ _ _).map Bx.key).Nodup; rw [encB_keys]; exact ok.nd⟩, ⟨ag, fun e he => ?_⟩⟩
  · show Rel (encB _ _ _ _) β' (ρ' u) ((slotI its (svsD (tysI its) s) (st.tr.keep D)).get u)
    rcases slotI_ok sm (st.tr.keep D) u with q | ⟨v, q1, q2⟩ | q
    · rw [q]; trivial
    · have : ρ' u = v := is_eq q1 (ok'.slots u)
      rw [this]; exact q2.rel _ _
    · rw [q, T.get_keep]
      cases hD : D u with
      | true => rw [if_pos rfl]; trivial
      | false =>
        rw [if_neg Bool.false_ne_true, agD u hD]
        have := ok.slots u
        revert this
        show Rel st.bx β (ρ u) (st.σ u) → Rel _ β' (ρ u) (st.σ u)
        cases st.σ u with
        | box j off => intro q m; rw [ag j ((ik j).1 m)]; exact q ((ik j).1 m)
        | lit j n => intro q m; rw [ag j ((ik j).1 m)]; exact q ((ik j).1 m)
        | _ => exact id
  · obtain ⟨e, he, rfl⟩ := encB_mem hx
    obtain ⟨e', h1, h2, h3, h4, h5⟩ := has e he
    obtain ⟨c, hc, kn⟩ := ok'.boxes e' h1
    cases hM : memB M e.key with
    | true =>
      refine ⟨c, by show L' (β' e.key) = some (.cells c e.ty (0, 0)); rw [← h2, ← h3]; exact hc, ?_, fun j v hj => ?_⟩
      · show c.size = ((List.range e.cells.length).map _).length
        rw [List.length_map, List.length_range, ← h4]; exact kn.1
      · replace hj : ((List.range e.cells.length).map fun j => cellI its (svsD (tysI its) s) e.key j)[j]? = some (some v) := hj
        rw [List.getElem?_map] at hj
        cases hr : (List.range e.cells.length)[j]? with
        | none => rw [hr] at hj; cases hj
        | some q =>
          rw [hr] at hj
          have hq : q = j := by
            rw [List.getElem?_range] at hr
            · exact (Option.some.inj hr).symm
            · have := lt_of_get hr
              simpa using this
          subst hq
          replace hj : some (cellI its (svsD (tysI its) s) e.key q) = some (some v) := hj
          obtain ⟨e2, f1, f2⟩ := cellI_ok sm (Option.some.inj hj)
          obtain ⟨f3, f4⟩ := findB_some f1
          have : e2 = e' := key_uniq ok'.nd f3 h1 (f4.trans h2.symm)
          subst this
          exact kn.2 _ _ f2
    | false =>
      show BoxOk β' L' e
      rcases stayed_spec hst e he with q | ⟨x, q1, q2⟩
      · rw [hM] at q; cases q
      · obtain ⟨f3, f4⟩ := findB_some q1
        have : x = e' := key_uniq ok'.nd f3 h1 (f4.trans h2.symm)
        subst this
        refine ⟨c, by rw [← h2, ← h3]; exact hc, by rw [← h5 q2]; exact kn⟩
  · refine ⟨_, encB_has he, ?_⟩
    cases hM : memB M e.key with
    | true => exact ⟨rfl, rfl, by show ((List.range e.cells.length).map _).length = _; rw [List.length_map, List.length_range], fun d => by cases d⟩
    | false => exact ⟨rfl, rfl, rfl, fun d => ⟨d, rfl⟩⟩
theorem Tr.cleaned {β' : Nat → Nat} {st' : St} (t : Tr β (K.inS st) β' st') : ∀ e, e ∈ st.bx → ∃ e', e' ∈ st'.bx ∧ e'.key = e.key ∧ e'.ty = e.ty ∧ e'.cells.length = e.cells.length ∧ (e'.dirty = false → e'.cells = e.cells) := fun e he => by
  obtain ⟨e', h1, h2, h3, h4, h5⟩ := t.has _ (clean_has he)
  exact ⟨e', h1, h2, h3, h4, fun d => (h5 d).2⟩
theorem Tr.cleaned' {β' : Nat → Nat} {st' : St} (t : Tr β st β' st') : ∀ e, e ∈ st.bx → ∃ e', e' ∈ st'.bx ∧ e'.key = e.key ∧ e'.ty = e.ty ∧ e'.cells.length = e.cells.length ∧ (e'.dirty = false → e'.cells = e.cells) := fun e he => by
  obtain ⟨e', h1, h2, h3, h4, h5⟩ := t.has _ he
  exact ⟨e', h1, h2, h3, h4, fun d => (h5 d).2⟩
theorem stayed_clean (M : List Nat) (nd : (st.bx.map Bx.key).Nodup) : stayed M (clean st.bx) (clean st.bx) = true := by
  have nd' : ((clean st.bx).map Bx.key).Nodup := by rw [clean_keys]; exact nd
  have key : ∀ l, (∀ e, e ∈ l → e ∈ clean st.bx) → stayed M (clean st.bx) l = true := by
    intro l
    induction l with
    | nil => intro _; rfl
    | cons e r ih =>
      intro h
      have he := h e (List.mem_cons_self ..)
      have h1 := findB_mem nd' he
      obtain ⟨x, _, hx⟩ := clean_mem he
      have hd : e.dirty = false := by rw [hx]
      simp only [stayed, h1, hd, ih fun e he => h e (List.mem_cons_of_mem _ he)]
      simp
  exact key _ fun e he => he
end meets

theorem tr_bx {β β' : Nat → Nat} {st : St} {σ' : T} (ag : ∀ i, InK st.bx i → β' i = β i) : Tr β st β' ⟨σ', st.bx⟩ := ⟨ag, fun e he => ⟨e, he, rfl, rfl, rfl, fun d => ⟨d, rfl⟩⟩⟩
theorem meet_elim {its : List It} {M : List Nat} {l : List Bx} {j : DenI its → HP} {st' : St} {h : H} (x : meet its M l j st' h) : ∃ s, decs (tysI its) (getI st' its) = some s ∧ stayed M st'.bx l = true ∧ j s h := by
  unfold meet at x
  cases h1 : decs (tysI its) (getI st' its) with
  | none => rw [h1] at x; exact x.elim
  | some s =>
    rw [h1] at x
    cases h2 : stayed M st'.bx l with
    | false => rw [h2] at x; exact x.elim
    | true => rw [h2] at x; exact ⟨s, rfl, rfl, x⟩
section plans
variable {P : Program} {X : Cx P} {ops : Array Oper} {next : Post}
theorem same_eq {a b : Wh} (h : a.same b = true) : a = b := by
  unfold Wh.same at h
  split at h
  · rw [Bool.and_eq_true] at h; rw [eq_of_beq h.2]
  · rw [Bool.and_eq_true, Nat.beq_eq] at h
    rw [h.1, Array.toList_inj.1 (eq_of_beq h.2)]
  · cases h
theorem dstIn_and {D D' : Nat → Bool} {o : Oper} (h : dstIn D o = true) (h' : dstIn D' o = true) : dstIn (fun t => D t && D' t) o = true := by
  unfold dstIn at *
  split <;> rename_i hd
  · rw [hd] at h h'; simp only at h h' ⊢; rw [h, h']; rfl
  · rfl
theorem dIn_and {D D' : Nat → Bool} {i : Nat} (h : dIn ops D i = true) (h' : dIn ops D' i = true) : dIn ops (fun t => D t && D' t) i = true := by
  unfold dIn at *
  split <;> rename_i hd
  · rw [hd] at h h'; exact dstIn_and h h'
  · rfl
theorem inD_and {D D' : Nat → Bool} : ∀ {p : Plan}, inD ops D p = true → inD ops D' p = true → inD ops (fun t => D t && D' t) p = true := by
  intro p
  induction p with
  | nil => exact fun _ _ => rfl
  | run l p ih =>
    intro h h'
    simp only [inD, Bool.and_eq_true, List.all_eq_true] at h h' ⊢
    exact ⟨fun x hx => dIn_and (h.1 x hx) (h'.1 x hx), ih h.2 h'.2⟩
  | split g p q ihp ihq =>
    intro h h'
    simp only [inD, Bool.and_eq_true] at h h' ⊢
    exact ⟨ihp h.1 h'.1, ihq h.2 h'.2⟩
  | join its D M p q ihp ihq =>
    intro h h'
    simp only [inD, Bool.and_eq_true] at h h' ⊢
    exact ⟨ihp h.1 h'.1, ihq h.2 h'.2⟩
  | sel g d D p p' q ihp ihp' ihq =>
    intro h h'
    simp only [inD, Bool.and_eq_true] at h h' ⊢
    exact ⟨⟨ihp h.1.1 h'.1.1, ihp' h.1.2 h'.1.2⟩, ihq h.2 h'.2⟩
  | both i j p q ihp ihq =>
    intro h h'
    simp only [inD, Bool.and_eq_true] at h h' ⊢
    exact ⟨⟨⟨dIn_and h.1.1.1 h'.1.1.1, dIn_and h.1.1.2 h'.1.1.2⟩, ihp h.1.2 h'.1.2⟩, ihq h.2 h'.2⟩
  | alt i p q ihp ihq =>
    intro h h'
    simp only [inD, Bool.and_eq_true] at h h' ⊢
    exact ⟨⟨dIn_and h.1.1 h'.1.1, ihp h.1.2 h'.1.2⟩, ihq h.2 h'.2⟩
theorem wpL_sound {D : Nat → Bool} : ∀ (l : List Nat) {w : Wh} {st : St} {k : Wh → St → HP} {h : H} {β : Nat → Nat} {ρ : Env} {L : H}, wpL X ops l w st k h → Ok β st ρ L → (l.all fun n => dIn ops D (n / 4)) = true →
    (∀ w' st' β' ρ' L' h', Tr β st β' st' → Ok β' st' ρ' L' → Agree D ρ ρ' → k w' st' h' → Goal P ops next w' ρ' L' h') → Goal P ops next w ρ L h := by
  intro l
  induction l with
  | nil => exact fun x ok _ hn => hn _ _ _ _ _ _ (Tr.refl _ _) ok (Agree.refl _ _) x
  | cons n r ih =>
    intro w st k h β ρ L x ok hd hn
    rw [List.all_cons, Bool.and_eq_true] at hd
    simp only [wpL] at x
    cases hm : may P ops w (n / 4) (n % 4) with
    | false => rw [hm] at x; exact x.elim
    | true =>
      rw [hm] at x
      exact opS_goal hm x ok hd.1 fun β' st' ρ' L' h' t ok' a kk => ih kk ok' hd.2 fun w2 st2 β2 ρ2 L2 h2 t2 ok2 a2 k2 => hn _ _ _ _ _ _ (t.trans t2) ok2 (a.trans a2) k2
theorem opP_opS {st st' : St} {i how : Nat} {k : St → HP} {h : H} (x : opP X ops st i how = some st') (kk : k st' h) : opS X ops st i how k h := by
  unfold opP at x
  unfold opS
  cases hi : ops.toList[i]? with
  | none => rw [hi] at x; cases x
  | some o =>
    rw [hi] at x
    simp only at x ⊢
    cases hw : wantS ops st o with
    | none => rw [hw] at x; cases x
    | some b =>
      rw [hw] at x
      cases b with
      | true =>
        simp only at x ⊢
        cases he : effOf P X st o with
        | ret s => rw [he] at x; cases x; exact kk
        | own s =>
          rw [he] at x
          match how, x with
          | 0, x => cases x
          | n + 1, x => cases x; exact kk
        | _ => rw [he] at x; cases x
      | false =>
        simp only at x ⊢
        match how, x with
        | 0, x => cases x; exact kk
        | 1, x => cases x
        | 2, x => cases x
        | 3, x => cases x; exact kk
        | n + 4, x => cases x
theorem opP_bx {st st' : St} {i how : Nat} (x : opP X ops st i how = some st') : st'.bx = st.bx := by
  unfold opP at x
  cases hi : ops.toList[i]? with
  | none => rw [hi] at x; cases x
  | some o =>
    rw [hi] at x
    simp only at x
    cases hw : wantS ops st o with
    | none => rw [hw] at x; cases x
    | some b =>
      rw [hw] at x
      cases b with
      | true =>
        simp only at x
        cases he : effOf P X st o with
        | ret s => rw [he] at x; cases x; exact put_bx ..
        | own s =>
          rw [he] at x
          match how, x with
          | 0, x => cases x
          | n + 1, x => cases x; exact put_bx ..
        | _ => rw [he] at x; cases x
      | false =>
        simp only at x
        match how, x with
        | 0, x => cases x; exact put_bx ..
        | 1, x => cases x
        | 2, x => cases x
        | 3, x => cases x; exact put_bx ..
        | n + 4, x => cases x
theorem prL_wpL : ∀ (l : List Nat) {w w' : Wh} {st st' : St} {k : Wh → St → HP} {h : H}, prL X ops l w st = some (w', st') → k w' st' h → wpL X ops l w st k h ∧ st'.bx = st.bx := by
  intro l
  induction l with
  | nil => intro w w' st st' k h x kk; cases x; exact ⟨kk, rfl⟩
  | cons n r ih =>
    intro w w' st st' k h x kk
    simp only [prL] at x
    simp only [wpL]
    cases hm : may P ops w (n / 4) (n % 4) with
    | false => rw [hm] at x; cases x
    | true =>
      rw [hm] at x
      simp only at x ⊢
      cases ho : opP X ops st (n / 4) (how' w (n % 4)) with
      | none => rw [ho] at x; cases x
      | some s1 =>
        rw [ho] at x
        obtain ⟨q1, q2⟩ := ih (k := k) x kk
        exact ⟨opP_opS ho q1, q2.trans (opP_bx ho)⟩
theorem selS_spec {g d : Nat} {D : Nat → Bool} {st st' : St} {a b : St → Option (Wh × St)} {w' : Wh} (h : selS g d D st a b = some (w', st')) :
    ∃ c s1 s2 x y, st.σ g = .v (.bool c) ∧ a (st.put (some g) (.v (.bool true))) = some (w', s1) ∧ b (st.put (some g) (.v (.bool false))) = some (w', s2) ∧ s1.σ d = .v (.bool x) ∧ s2.σ d = .v (.bool y) ∧
      st' = ⟨T.set deep (st.tr.keep D) d (.v (.bool (bif c then x else y))), st.bx⟩ := by
  unfold selS at h
  split at h
  · rename_i c hc
    split at h
    · rename_i w1 s1 w2 s2 h1 h2
      split at h
      · rename_i x y hs hx hy
        have := same_eq hs
        subst this
        cases h
        exact ⟨c, s1, s2, x, y, hc, h1, h2, hx, hy, rfl⟩
      · cases h
    · cases h
  · cases h
theorem pr_wpP : ∀ (p : Plan) {w w' : Wh} {st st' : St} {k : Wh → St → HP} {h : H}, pr X ops p w st = some (w', st') → k w' st' h → wpP X ops p w st k h ∧ st'.bx = st.bx := by
  intro p
  induction p with
  | nil => intro w w' st st' k h x kk; cases x; exact ⟨kk, rfl⟩
  | run l p ih =>
    intro w w' st st' k h x kk
    simp only [pr] at x
    split at x
    · rename_i w1 s1 h1
      obtain ⟨q1, q2⟩ := ih (k := k) x kk
      obtain ⟨r1, r2⟩ := prL_wpL (k := fun w' st' => wpP X ops p w' st' k) l h1 q1
      exact ⟨r1, q2.trans r2⟩
    · cases x
  | sel g d D p p' q ihp ihp' ihq =>
    intro w w' st st' k h x kk
    simp only [pr] at x
    simp only [wpP]
    cases hi : inD ops (Nat.testBit D) p && inD ops (Nat.testBit D) p' with
    | false => rw [hi] at x; cases x
    | true =>
      rw [hi] at x
      simp only at x ⊢
      cases hs : selS g d (Nat.testBit D) st (pr X ops p w) (pr X ops p' w) with
      | none => rw [hs] at x; cases x
      | some z =>
        obtain ⟨w1, s1⟩ := z
        rw [hs] at x
        obtain ⟨q1, q2⟩ := ihq (k := k) x kk
        refine ⟨q1, q2.trans ?_⟩
        obtain ⟨c, _, _, _, _, _, _, _, _, _, rfl⟩ := selS_spec hs
        rfl
  | _ => intro w w' st st' k h x kk; cases x
theorem lit_ok {β : Nat → Nat} {st : St} {ρ : Env} {L : H} {g : Nat} {c : Bool} (ok : Ok β st ρ L) (h : st.σ g = .v (.bool c)) : Ok β (st.put (some g) (.v (.bool c))) ρ L := by
  refine ⟨fun t => ?_, ok.boxes, ok.inj, ok.nd⟩
  show Rel st.bx β (ρ t) ((T.set deep st.tr g (.v (.bool c))).get t)
  rcases T.get_set deep st.tr g (.v (.bool c)) t with q | ⟨rfl, q⟩ | ⟨_, q⟩
  · rw [q]; trivial
  · rw [q]
    have := ok.slots t
    rw [h] at this; exact this
  · rw [q]; exact ok.slots t
theorem wpP_sound : ∀ (p : Plan) {D : Nat → Bool} {w : Wh} {st : St} {k : Wh → St → HP} {h : H} {β : Nat → Nat} {ρ : Env} {L : H}, inD ops D p = true → wpP X ops p w st k h → Ok β st ρ L →
    (∀ w' st' β' ρ' L' h', Tr β st β' st' → Ok β' st' ρ' L' → Agree D ρ ρ' → k w' st' h' → Goal P ops next w' ρ' L' h') → Goal P ops next w ρ L h := by
  intro p
  induction p with
  | nil => exact fun {D w st k h β ρ L} _ x ok hn => hn _ _ _ _ _ _ (Tr.refl _ _) ok (Agree.refl _ _) x
  | run l p ih =>
    intro D w st k h β ρ L hd x ok hn
    simp only [inD, Bool.and_eq_true] at hd
    exact wpL_sound l x ok hd.1 fun w' st' β' ρ' L' h' t ok' a kk => ih hd.2 kk ok' fun w2 st2 β2 ρ2 L2 h2 t2 ok2 a2 k2 => hn _ _ _ _ _ _ (t.trans t2) ok2 (a.trans a2) k2
  | split g p q ihp ihq =>
    intro D w st k h β ρ L hd x ok hn
    simp only [inD, Bool.and_eq_true] at hd
    simp only [wpP] at x
    cases hc : st.σ g with
    | v z =>
      cases z with
      | bool c =>
        rw [hc] at x
        cases c with
        | true => exact ihp hd.1 (x.1 rfl) (lit_ok ok hc) fun w2 st2 β2 ρ2 L2 h2 t2 ok2 a2 k2 => hn _ _ _ _ _ _ ((Tr.put β st _ _).trans t2) ok2 a2 k2
        | false => exact ihq hd.2 (x.2 rfl) (lit_ok ok hc) fun w2 st2 β2 ρ2 L2 h2 t2 ok2 a2 k2 => hn _ _ _ _ _ _ ((Tr.put β st _ _).trans t2) ok2 a2 k2
      | _ => rw [hc] at x; exact x.elim
    | _ => rw [hc] at x; exact x.elim
  | join its Dm M p q ihp ihq =>
    intro D w st k h β ρ L hd x ok hn
    simp only [inD, Bool.and_eq_true] at hd
    simp only [wpP] at x
    cases hi : inD ops (Nat.testBit Dm) p with
    | false => rw [hi] at x; exact x.elim
    | true =>
      rw [hi] at x
      refine ihp (inD_and hd.1 hi) x ok.inS fun w' st' β' ρ' L' h' t ok' a kk => ?_
      have a1 : Agree D ρ ρ' := fun t ht => a t (by show (D t && _) = false; rw [ht]; rfl)
      have a2 : Agree (Nat.testBit Dm) ρ ρ' := fun t ht => a t (by show (D t && Nat.testBit Dm t) = false; rw [ht, Bool.and_false])
      cases hs : w'.same (aft p w) with
      | false => rw [hs] at kk; exact kk.elim
      | true =>
        rw [hs] at kk
        have := same_eq hs
        subst this
        obtain ⟨s, h1, h2, kk⟩ := meet_elim kk
        · obtain ⟨m1, m2⟩ := meet_ok ok ok' (fun i hi => t.agree i (ink_clean.2 hi)) t.cleaned a2 h1 h2
          exact ihq hd.2 kk m1 fun w2 st2 β2 ρ2 L2 h2 t2 ok2 a3 k2 => hn _ _ _ _ _ _ (m2.trans t2) ok2 (a1.trans a3) k2
  | sel g d Dm p p' q ihp ihp' ihq =>
    intro D w st k h β ρ L hd x ok hn
    simp only [inD, Bool.and_eq_true] at hd
    simp only [wpP] at x
    cases hi : inD ops (Nat.testBit Dm) p && inD ops (Nat.testBit Dm) p' with
    | false => rw [hi] at x; exact x.elim
    | true =>
      rw [hi] at x
      rw [Bool.and_eq_true] at hi
      simp only at x
      cases hs : selS g d (Nat.testBit Dm) st (pr X ops p w) (pr X ops p' w) with
      | none => rw [hs] at x; exact x.elim
      | some z =>
        obtain ⟨w1, s1⟩ := z
        rw [hs] at x
        simp only at x
        obtain ⟨c, sa, sb, u, v, hc, ha, hb, hu, hv, rfl⟩ := selS_spec hs
        have fin : ∀ (b : Bool), c = b → ∀ (s' : St) (z : Bool), s'.bx = st.bx → s'.σ d = .v (.bool z) → z = (bif c then u else v) → ∀ (r : Plan), (∀ {D : Nat → Bool} {w : Wh} {st : St} {k : Wh → St → HP} {h : H} {β : Nat → Nat} {ρ : Env} {L : H}, inD ops D r = true → wpP X ops r w st k h → Ok β st ρ L →
            (∀ w' st' β' ρ' L' h', Tr β st β' st' → Ok β' st' ρ' L' → Agree D ρ ρ' → k w' st' h' → Goal P ops next w' ρ' L' h') → Goal P ops next w ρ L h) → inD ops D r = true → inD ops (Nat.testBit Dm) r = true →
            wpP X ops r w (st.put (some g) (.v (.bool b))) (fun w' st' h' => w' = w1 ∧ st' = s' ∧ h' = h) h → Goal P ops next w ρ L h := fun b hcb s' z hbx hz hze r ih hr1 hr2 hw => by
          subst hcb
          refine ih (inD_and hr1 hr2) hw (lit_ok ok hc) fun w' st' β' ρ' L' h' t ok' a kk => ?_
          obtain ⟨rfl, rfl, rfl⟩ := kk
          have a1 : Agree D ρ ρ' := fun t ht => a t (by show (D t && _) = false; rw [ht]; rfl)
          have a2 : Agree (Nat.testBit Dm) ρ ρ' := fun t ht => a t (by show (D t && Nat.testBit Dm t) = false; rw [ht, Bool.and_false])
          have tt : Tr β st β' st' := (Tr.put β st _ _).trans t
          have bx' : st'.bx = st.bx := hbx
          refine ihq hd.2 x (β := β') (ρ := ρ') (L := L') ⟨fun t => ?_, ?_, ?_, ?_⟩ fun w2 st2 β2 ρ2 L2 h2 t2 ok2 a3 k2 => hn _ _ _ _ _ _ ((tr_bx tt.agree).trans t2) ok2 (a1.trans a3) k2
          · show Rel st.bx β' (ρ' t) ((T.set deep (st.tr.keep (Nat.testBit Dm)) d (.v (.bool (bif c then u else v)))).get t)
            rcases T.get_set deep (st.tr.keep (Nat.testBit Dm)) d (.v (.bool (bif c then u else v))) t with q | ⟨rfl, q⟩ | ⟨_, q⟩
            · rw [q]; trivial
            · rw [q, ← hze]
              have := ok'.slots t
              rw [hz] at this
              exact this
            · rw [q, T.get_keep]
              cases hD : Nat.testBit Dm t with
              | true => rw [if_pos rfl]; trivial
              | false =>
                rw [if_neg Bool.false_ne_true, a2 t hD]
                have := ok.slots t
                revert this
                show Rel st.bx β (ρ t) (st.σ t) → Rel st.bx β' (ρ t) (st.σ t)
                cases st.σ t with
                | box j off => intro q m; rw [tt.agree j m]; exact q m
                | lit j n => intro q m; rw [tt.agree j m]; exact q m
                | _ => exact id
          · show ∀ e, e ∈ st.bx → _; rw [← bx']; exact ok'.boxes
          · show ∀ i j, InK st.bx i → InK st.bx j → _; rw [← bx']; exact ok'.inj
          · show (st.bx.map Bx.key).Nodup; exact ok.nd
        cases hcc : c with
        | true =>
          obtain ⟨q1, q2⟩ := pr_wpP p (k := fun w' st' h' => w' = w1 ∧ st' = sa ∧ h' = h) ha ⟨rfl, rfl, rfl⟩
          exact fin true hcc sa u q2 hu (by rw [hcc]; rfl) p ihp hd.1.1 hi.1 q1
        | false =>
          obtain ⟨q1, q2⟩ := pr_wpP p' (k := fun w' st' h' => w' = w1 ∧ st' = sb ∧ h' = h) hb ⟨rfl, rfl, rfl⟩
          exact fin false hcc sb v q2 hv (by rw [hcc]; rfl) p' ihp' hd.1.2 hi.2 q1
  | both i j p q ihp ihq =>
    intro D w st k h β ρ L hd x ok hn
    simp only [inD, Bool.and_eq_true] at hd
    simp only [wpP] at x
    cases hm : may2 ops w i j with
    | false => rw [hm] at x; exact x.elim
    | true =>
      rw [hm] at x
      exact both_goal hm x.1 x.2 ok hd.1.1.1 hd.1.1.2
        (fun β' st' ρ' L' h' t ok' a kk => ihp hd.1.2 kk ok' fun w2 st2 β2 ρ2 L2 h2 t2 ok2 a2 k2 => hn _ _ _ _ _ _ (t.trans t2) ok2 (a.trans a2) k2)
        (fun β' st' ρ' L' h' t ok' a kk => ihq hd.2 kk ok' fun w2 st2 β2 ρ2 L2 h2 t2 ok2 a2 k2 => hn _ _ _ _ _ _ (t.trans t2) ok2 (a.trans a2) k2)
  | alt i p q ihp ihq =>
    intro D w st k h β ρ L hd x ok hn
    simp only [inD, Bool.and_eq_true] at hd
    simp only [wpP] at x
    cases hm : mayA ops w with
    | false => rw [hm] at x; exact x.elim
    | true =>
      rw [hm] at x
      exact alt_goal hm x.1 ok hd.1.1
        (fun β' st' ρ' L' h' t ok' a kk => ihp hd.1.2 kk ok' fun w2 st2 β2 ρ2 L2 h2 t2 ok2 a2 k2 => hn _ _ _ _ _ _ (t.trans t2) ok2 (a.trans a2) k2)
        (ihq hd.2 x.2 ok hn)
theorem inD_all : ∀ (p : Plan), inD ops (fun _ => true) p = true := by
  have one : ∀ i, dIn ops (fun _ => true) i = true := fun i => by
    unfold dIn dstIn
    split
    · split <;> rfl
    · rfl
  intro p
  induction p with
  | nil => rfl
  | run l p ih => simp only [inD, ih, Bool.and_true, List.all_eq_true]; exact fun x _ => one _
  | split g p q ihp ihq => simp only [inD, ihp, ihq]; rfl
  | join its D M p q ihp ihq => simp only [inD, ihp, ihq]; rfl
  | sel g d D p p' q ihp ihp' ihq => simp only [inD, ihp, ihp', ihq]; rfl
  | both i j p q ihp ihq => simp only [inD, ihp, ihq, one]; rfl
  | alt i p q ihp ihq => simp only [inD, ihp, ihq, one]; rfl
end plans
end Go.Proofs.Ytlnlmideghepnaa.K
