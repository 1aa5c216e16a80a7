/- The walk that computes is sound: steps, meetings. -/
import Derived.Test.YtlnlmideghepnaaQ4
namespace Go.Proofs.Ytlnlmideghepnaa.K
open Go

theorem findB_none : ∀ {l : List Bx} {i : Nat}, findB l i = none → ¬ InK l i := by
  intro l
  induction l with
  | nil => rintro i _ ⟨e, he, _⟩; cases he
  | cons x r ih =>
    intro i h ⟨e, he, hk⟩
    simp only [findB] at h
    cases hb : Nat.beq x.key i <;> rw [hb] at h
    · rcases List.mem_cons.1 he with rfl | he
      · rw [hk, Nat.beq_refl] at hb; cases hb
      · exact ih h ⟨e, he, hk⟩
    · cases h
theorem findB_mem : ∀ {l : List Bx} {e : Bx}, (l.map Bx.key).Nodup → e ∈ l → findB l e.key = some e := by
  intro l
  induction l with
  | nil => intro e _ h; cases h
  | cons x r ih =>
    intro e nd h
    simp only [List.map_cons, List.nodup_cons] at nd
    simp only [findB]
    rcases List.mem_cons.1 h with rfl | h
    · rw [Nat.beq_refl]; rfl
    · have : Nat.beq x.key e.key = false := by
        rw [← Bool.not_eq_true, Nat.beq_eq]
        exact fun q => nd.1 (by rw [q]; exact List.mem_map.2 ⟨e, h, rfl⟩)
      rw [this]; exact ih nd.2 h
theorem key_uniq {l : List Bx} (nd : (l.map Bx.key).Nodup) {e e' : Bx} (h : e ∈ l) (h' : e' ∈ l) (k : e.key = e'.key) : e = e' := by
  have h1 := findB_mem nd h
  rw [k, findB_mem nd h'] at h1
  exact (Option.some.inj h1).symm
theorem setB_keys : ∀ (l : List Bx) (i : Nat) (c : List (Option Value)), (setB l i c).map Bx.key = l.map Bx.key := by
  intro l
  induction l with
  | nil => intro i c; rfl
  | cons x r ih =>
    intro i c
    simp only [setB]
    cases Nat.beq x.key i
    · simp only [cond_false, List.map_cons, ih]
    · rfl
theorem setB_mem : ∀ {l : List Bx} {i : Nat} {c : List (Option Value)} {x : Bx}, (l.map Bx.key).Nodup → x ∈ setB l i c → (x ∈ l ∧ x.key ≠ i) ∨ ∃ e, e ∈ l ∧ e.key = i ∧ x = ⟨e.key, e.ty, c, true⟩ := by
  intro l
  induction l with
  | nil => intro i c x _ h; cases h
  | cons y r ih =>
    intro i c x nd h
    simp only [List.map_cons, List.nodup_cons] at nd
    simp only [setB] at h
    cases hb : Nat.beq y.key i <;> rw [hb] at h
    · have hne : y.key ≠ i := fun e => by rw [← Nat.beq_eq, hb] at e; cases e
      rcases List.mem_cons.1 h with rfl | h
      · exact .inl ⟨List.mem_cons_self .., hne⟩
      · rcases ih nd.2 h with ⟨h1, h2⟩ | ⟨e, h1, h2, h3⟩
        · exact .inl ⟨List.mem_cons_of_mem _ h1, h2⟩
        · exact .inr ⟨e, List.mem_cons_of_mem _ h1, h2, h3⟩
    · rw [Nat.beq_eq] at hb
      rcases List.mem_cons.1 h with rfl | h
      · exact .inr ⟨y, List.mem_cons_self .., hb, rfl⟩
      · refine .inl ⟨List.mem_cons_of_mem _ h, fun e => nd.1 ?_⟩
        rw [hb, ← e]; exact List.mem_map.2 ⟨x, h, rfl⟩
theorem setB_has : ∀ {l : List Bx} {i : Nat} {c : List (Option Value)} {e : Bx}, e ∈ l → (e ∈ setB l i c) ∨ (e.key = i ∧ ⟨e.key, e.ty, c, true⟩ ∈ setB l i c) := by
  intro l
  induction l with
  | nil => intro i c e h; cases h
  | cons y r ih =>
    intro i c e h
    simp only [setB]
    cases hb : Nat.beq y.key i
    · rcases List.mem_cons.1 h with rfl | h
      · exact .inl (List.mem_cons_self ..)
      · exact (ih h).imp (List.mem_cons_of_mem _) fun q => ⟨q.1, List.mem_cons_of_mem _ q.2⟩
    · rcases List.mem_cons.1 h with rfl | h
      · rw [Nat.beq_eq] at hb; exact .inr ⟨hb, List.mem_cons_self ..⟩
      · exact .inl (List.mem_cons_of_mem _ h)
theorem ink_keys {l l' : List Bx} (h : l'.map Bx.key = l.map Bx.key) {i : Nat} : InK l' i ↔ InK l i := by
  have key : ∀ {a b : List Bx}, a.map Bx.key = b.map Bx.key → InK a i → InK b i := fun {a b} h ⟨e, he, hk⟩ => by
    have : i ∈ b.map Bx.key := by rw [← h, ← hk]; exact List.mem_map.2 ⟨e, he, rfl⟩
    obtain ⟨e', he', hk'⟩ := List.mem_map.1 this
    exact ⟨e', he', hk'⟩
  exact ⟨key h, key h.symm⟩

/-- How a state may turn: boxes stay, those that are not marked hold what they held. -/
structure Tr (β : Nat → Nat) (st : St) (β' : Nat → Nat) (st' : St) : Prop where
  agree : ∀ i, InK st.bx i → β' i = β i
  has : ∀ e, e ∈ st.bx → ∃ e', e' ∈ st'.bx ∧ e'.key = e.key ∧ e'.ty = e.ty ∧ e'.cells.length = e.cells.length ∧ (e'.dirty = false → e.dirty = false ∧ e'.cells = e.cells)
theorem Tr.refl (β : Nat → Nat) (st : St) : Tr β st β st := ⟨fun _ _ => rfl, fun e h => ⟨e, h, rfl, rfl, rfl, fun d => ⟨d, rfl⟩⟩⟩
theorem Tr.ink {β β' : Nat → Nat} {st st' : St} (t : Tr β st β' st') {i : Nat} (h : InK st.bx i) : InK st'.bx i := by
  obtain ⟨e, he, rfl⟩ := h
  obtain ⟨e', h1, h2, _⟩ := t.has e he
  exact ⟨e', h1, h2⟩
theorem Tr.trans {β β1 β2 : Nat → Nat} {st st1 st2 : St} (x : Tr β st β1 st1) (y : Tr β1 st1 β2 st2) : Tr β st β2 st2 := ⟨fun i h => (y.agree i (x.ink h)).trans (x.agree i h), fun e h => by
  obtain ⟨e1, h1, a1, b1, c1, d1⟩ := x.has e h
  obtain ⟨e2, h2, a2, b2, c2, d2⟩ := y.has e1 h1
  refine ⟨e2, h2, a2.trans a1, b2.trans b1, c2.trans c1, fun d => ?_⟩
  obtain ⟨p, q⟩ := d2 d
  obtain ⟨p', q'⟩ := d1 p
  exact ⟨p', q.trans q'⟩⟩
theorem put_bx (st : St) (d : Option Tmp) (s : SV) : (st.put d s).bx = st.bx := by cases d <;> rfl
theorem Tr.put (β : Nat → Nat) (st : St) (d : Option Tmp) (s : SV) : Tr β st β (st.put d s) := ⟨fun _ _ => rfl, fun e h => ⟨e, by rw [put_bx]; exact h, rfl, rfl, rfl, fun d => ⟨d, rfl⟩⟩⟩
theorem put_other (ρ : Env) (d : Option Tmp) (v : Value) (t : Nat) (h : d ≠ some t) : put ρ d v t = ρ t := by
  cases d with
  | none => rfl
  | some d =>
    have : Nat.beq t d = false := by rw [← Bool.not_eq_true, Nat.beq_eq]; exact fun e => h (by rw [e])
    simp only [K.put, this, cond_false]

theorem put_self (ρ : Env) (d : Nat) (v : Value) : put ρ (some d) v d = v := by simp only [K.put, Nat.beq_refl, cond_true]
section steps
variable {P : Program} {X : Cx P} {β : Nat → Nat} {st : St} {ρ : Env} {L : H}
theorem Ok.put (k : Ok β st ρ L) {v : Value} {s : SV} (r : Rel st.bx β v s) (d : Option Tmp) : Ok β (st.put d s) (put ρ d v) L := by
  cases d with
  | none => exact k
  | some d =>
    refine ⟨fun t => ?_, k.boxes, k.inj, k.nd⟩
    show Rel st.bx β (K.put ρ (some d) v t) ((T.set deep st.tr d s).get t)
    rcases T.get_set deep st.tr d s t with q | ⟨rfl, q⟩ | ⟨h, q⟩
    · rw [q]; trivial
    · rw [q, put_self]; exact r
    · rw [q, put_other _ _ _ _ (fun e => h (Option.some.inj e).symm)]; exact k.slots t
theorem run_step {o : Oper} {e : Eff} {how : Nat} {k : St → HP} {h : H} {next : Post} (ok : Ok β st ρ L) (eo : EffOk P o β st ρ L e) (r : run how e o.dst st k h)
    (hn : ∀ β' st' ρ' L' h', Tr β st β' st' → Ok β' st' ρ' L' → (∀ t, o.dst ≠ some t → ρ' t = ρ t) → k st' h' → next ρ' L' h') : aOp P o ρ L h next noP := by
  cases e with
  | bad => exact r.elim
  | ret s =>
    obtain ⟨v, hr, y⟩ := eo
    exact y L h next noP (hn β _ _ L h (.put ..) (ok.put hr _) (fun t ht => put_other _ _ _ _ ht) r)
  | own s =>
    obtain ⟨v, hr, y⟩ := eo
    cases how with
    | zero => exact r.elim
    | succ n => exact y L h next noP (.refl L) (hn β _ _ L h (.put ..) (ok.put hr _) (fun t ht => put_other _ _ _ _ ht) r)
  | ask W w f =>
    have r' : w (fun x => k (st.put o.dst (f x))) h := by
      match how, r with
      | 0, r => exact r
      | 1, r => exact r.elim
      | n + 2, r => exact r
    obtain ⟨x, v, is, y, kx⟩ := eo _ h r'
    exact y L h next noP (hn β _ _ L h (.put ..) (ok.put (is.rel _ _) _) (fun t ht => put_other _ _ _ _ ht) kx)
  | mem W w f =>
    have r' : w (fun x => k (st.put o.dst (f x))) h := by
      match how, r with
      | 0, r => exact r.elim
      | 1, r => exact r.elim
      | n + 2, r => exact r
    refine eo _ h next r' fun x v h' kx hv => hn β _ _ L h' (.put ..) (ok.put ?_ _) (fun t ht => put_other _ _ _ _ ht) kx
    rcases hv with hv | hv
    · rw [hv]; trivial
    · exact hv.rel _ _
  | box t c lit =>
    have r' : (match o.dst with
      | none => nope
      | some d => match findB st.bx d with
        | some _ => nope
        | none => k ⟨T.set deep (st.tr.map (clr d)) d (litSV d lit), ⟨d, t, c.map some, false⟩ :: st.bx⟩ : HP) h := by
      match how, r with
      | 0, r => exact r.elim
      | 1, r => exact r.elim
      | n + 2, r => exact r
    refine eo h next fun b hb => ?_
    cases hd : o.dst with
    | none => rw [hd] at r'; exact r'.elim
    | some d =>
      rw [hd] at r'
      simp only at r'
      cases hf : findB st.bx d with
      | some e => rw [hf] at r'; exact r'.elim
      | none =>
        rw [hf] at r'
        have fr := findB_none hf
        have hne : ∀ e, e ∈ st.bx → e.key ≠ d := fun e he q => fr ⟨e, he, q⟩
        have ninb : ∀ e, e ∈ st.bx → β e.key ≠ b := fun e he q => by
          obtain ⟨c', hc, _⟩ := ok.boxes e he
          rw [q, hb] at hc; cases hc
        let β' : Nat → Nat := fun i => if i = d then b else β i
        have bold : ∀ i, i ≠ d → β' i = β i := fun i hi => if_neg hi
        have bnew : β' d = b := if_pos rfl
        refine hn β' _ _ _ h ⟨fun i ⟨e, he, hk⟩ => bold i (hk ▸ hne e he), fun e he => ⟨e, List.mem_cons_of_mem _ he, rfl, rfl, rfl, fun q => ⟨q, rfl⟩⟩⟩ ⟨fun u => ?_, fun e he => ?_, fun i j hi hj e => ?_, ?_⟩ (fun u hu => ?_) r'
        · show Rel _ β' (K.put ρ (some d) (litV b lit) u) ((T.set deep (st.tr.map (clr d)) d (litSV d lit)).get u)
          rcases T.get_set deep (st.tr.map (clr d)) d (litSV d lit) u with q | ⟨rfl, q⟩ | ⟨hne', q⟩
          · rw [q]; trivial
          · rw [q, put_self]
            cases lit with
            | none => intro _; show _ = Value.pointer (some ⟨β' u, 0, none⟩); rw [bnew]; rfl
            | some n => intro _; show _ = Value.slice (some ⟨β' u, 0, none⟩) n n; rw [bnew]; rfl
          · rw [q, put_other _ _ _ _ (fun e => hne' (Option.some.inj e).symm), T.get_map rfl]
            have := ok.slots u
            show Rel _ β' (ρ u) (clr d (st.σ u))
            revert this
            cases st.σ u with
            | box j off =>
              intro this
              show Rel _ β' (ρ u) (bif Nat.beq j d then .no else .box j off)
              cases hj : Nat.beq j d
              · rintro ⟨e, he, hk⟩
                have hjd : j ≠ d := fun q => by rw [← Nat.beq_eq, hj] at q; cases q
                rcases List.mem_cons.1 he with rfl | he
                · exact absurd hk.symm hjd
                · rw [bold j hjd]; exact this ⟨e, he, hk⟩
              · trivial
            | lit j n =>
              intro this
              show Rel _ β' (ρ u) (bif Nat.beq j d then .no else .lit j n)
              cases hj : Nat.beq j d
              · rintro ⟨e, he, hk⟩
                have hjd : j ≠ d := fun q => by rw [← Nat.beq_eq, hj] at q; cases q
                rcases List.mem_cons.1 he with rfl | he
                · exact absurd hk.symm hjd
                · rw [bold j hjd]; exact this ⟨e, he, hk⟩
              · trivial
            | _ => exact id
        · rcases List.mem_cons.1 he with rfl | he
          · refine ⟨c.toArray, ?_, by simp, fun j v hj => ?_⟩
            · show upd L b _ (β' d) = _; rw [bnew]; exact upd_same _ _ _
            · have hj : (c.map some)[j]? = some (some v) := hj
              rw [List.getElem?_map] at hj
              cases hc : c[j]? with
              | none => rw [hc] at hj; cases hj
              | some w => rw [hc] at hj; cases hj; rw [List.getElem?_toArray]; exact hc
          · obtain ⟨c', hc, kn⟩ := ok.boxes e he
            refine ⟨c', ?_, kn⟩
            rw [bold _ (hne e he), upd_ne _ _ (ninb e he)]; exact hc
        · obtain ⟨e1, he1, rfl⟩ := hi
          obtain ⟨e2, he2, rfl⟩ := hj
          rcases List.mem_cons.1 he1 with rfl | he1 <;> rcases List.mem_cons.1 he2 with rfl | he2
          · rfl
          · rw [bold _ (hne e2 he2)] at e
            exact absurd (e.symm.trans bnew) (ninb e2 he2)
          · rw [bold _ (hne e1 he1)] at e
            exact absurd (e.trans bnew) (ninb e1 he1)
          · rw [bold _ (hne e1 he1), bold _ (hne e2 he2)] at e
            exact ok.inj _ _ ⟨e1, he1, rfl⟩ ⟨e2, he2, rfl⟩ e
        · refine List.nodup_cons.2 ⟨fun hm => ?_, ok.nd⟩
          obtain ⟨e, he, hk⟩ := List.mem_map.1 hm
          exact hne e he hk
        · exact put_other _ _ _ _ (fun e => hu (hd.trans e))
  | set i c =>
    have r' : k ⟨(st.put o.dst .no).tr, setB st.bx i c⟩ h := by
      match how, r with
      | 0, r => exact r.elim
      | 1, r => exact r.elim
      | 2, r => exact r.elim
      | 3, r => exact r
      | n + 4, r => exact r.elim
    obtain ⟨e0, c', hf, hl, kn, y⟩ := eo
    obtain ⟨h0, hk0⟩ := findB_some hf
    have ik : ∀ j, InK (setB st.bx i c) j ↔ InK st.bx j := fun j => ink_keys (setB_keys _ _ _)
    refine y h next (hn β _ _ _ h ⟨fun _ _ => rfl, fun e he => ?_⟩ ⟨fun u => ?_, fun e he => ?_, fun a b ha hb => ok.inj a b ((ik a).1 ha) ((ik b).1 hb), by rw [setB_keys]; exact ok.nd⟩ (fun t ht => put_other _ _ _ _ ht) r')
    · rcases setB_has (i := i) (c := c) he with q | ⟨q1, q2⟩
      · exact ⟨e, q, rfl, rfl, rfl, fun d => ⟨d, rfl⟩⟩
      · have : e = e0 := key_uniq ok.nd he h0 (q1.trans hk0.symm)
        subst this
        exact ⟨_, q2, rfl, rfl, hl, fun d => by cases d⟩
    · have hs : Rel (setB st.bx i c) β (ρ u) (st.σ u) := by
        have := ok.slots u
        revert this
        cases st.σ u with
        | box j off => exact fun q m => q ((ik j).1 m)
        | lit j n => exact fun q m => q ((ik j).1 m)
        | _ => exact id
      cases hd : o.dst with
      | none => exact hs
      | some d =>
        show Rel _ β (K.put ρ (some d) undef u) ((T.set deep st.tr d .no).get u)
        rcases T.get_set deep st.tr d .no u with q | ⟨rfl, q⟩ | ⟨h, q⟩
        · rw [q]; trivial
        · rw [q]; trivial
        · rw [q, put_other _ _ _ _ (fun e => h (Option.some.inj e).symm)]; exact hs
    · rcases setB_mem ok.nd he with ⟨h1, h2⟩ | ⟨e1, h1, h2, rfl⟩
      · obtain ⟨c2, hc2, kn2⟩ := ok.boxes e h1
        refine ⟨c2, ?_, kn2⟩
        rw [upd_ne]; exact hc2
        exact fun q => h2 (ok.inj _ _ ⟨e, h1, rfl⟩ ⟨e0, h0, hk0⟩ q)
      · have : e1 = e0 := key_uniq ok.nd h1 h0 (h2.trans hk0.symm)
        subst this
        refine ⟨c', ?_, kn⟩
        show upd L (β i) _ (β e1.key) = _
        rw [h2]; exact upd_same _ _ _
/-- What hangs on the temporaries alone. -/
theorem run_y {o : Oper} {e : Eff} {k : St → HP} {h : H} (ok : Ok β st ρ L) (eo : EffOk P o β st ρ L e) (r : run 0 e o.dst st k h) : ∃ v st', YE P o ρ v ∧ Tr β st β st' ∧ Ok β st' (put ρ o.dst v) L ∧ k st' h := by
  cases e with
  | ret s =>
    obtain ⟨v, hr, y⟩ := eo
    exact ⟨v, _, y, .put .., ok.put hr _, r⟩
  | ask W w f =>
    obtain ⟨x, v, is, y, kx⟩ := eo _ h (show w (fun x => k (st.put o.dst (f x))) h from r)
    exact ⟨v, _, y, .put .., ok.put (is.rel _ _) _, kx⟩
  | _ => exact r.elim
theorem run_r {o : Oper} {e : Eff} {k : St → HP} {h : H} (ok : Ok β st ρ L) (eo : EffOk P o β st ρ L e) (r : run 1 e o.dst st k h) : ∃ v st', YR P o ρ L v ∧ Tr β st β st' ∧ Ok β st' (put ρ o.dst v) L ∧ k st' h := by
  cases e with
  | ret s =>
    obtain ⟨v, hr, y⟩ := eo
    exact ⟨v, _, fun L' h' next C _ => y L' h' next C, .put .., ok.put hr _, r⟩
  | own s =>
    obtain ⟨v, hr, y⟩ := eo
    exact ⟨v, _, y, .put .., ok.put hr _, r⟩
  | _ => exact r.elim
theorem want_ok {ops : Array Oper} {o : Oper} {b : Bool} (ok : Ok β st ρ L) (h : wantS ops st o = some b) : Region.wanted o (yld ops ρ) = b := by
  unfold wantS at h
  unfold Region.wanted
  split at h
  · rename_i hg; cases h; rw [hg]
  · rename_i j w hg
    rw [hg]
    simp only
    split at h
    · rename_i oj hj
      rw [Array.getElem?_toList] at hj
      split at h
      · rename_i d hd
        have hs := ok.slots d
        have hy : yld ops ρ j = match ρ d with | .bool b => some b | _ => none := by
          unfold yld; simp only [hj, Option.bind_some, hd]; rfl
        split at h
        · rename_i c hc
          rw [hc] at hs
          have hs : ρ d = _ := hs
          rw [hy, hs]
          cases h
          cases c <;> cases w <;> rfl
        · rename_i c hc
          rw [hc] at hs
          have hs : ρ d = _ := hs
          rw [hy, hs]
          cases h
          rfl
        · cases h
      · cases h
    · cases h
variable {ops : Array Oper} {next : Post}
theorem agree_of {D : Nat → Bool} {o : Oper} {ρ' : Env} (hd : dstIn D o = true) (h : ∀ t, o.dst ≠ some t → ρ' t = ρ t) : Agree D ρ ρ' := fun t ht => h t fun e => by
  unfold dstIn at hd; rw [e] at hd; simp only at hd; rw [hd] at ht; cases ht
theorem t1n {i fuel : Nat} {listed : Array Bool} {oi : Oper} {h : H} (hi' : ops.toList[i]? = some oi) (hr : Region.ready .any ops listed = [i]) (hw : Region.wanted oi (yld ops ρ) = false)
    (x : bAny P ops next noP fuel (listed.setIfInBounds i true) (put ρ oi.dst undef) L h) : bAny P ops next noP (fuel + 1) listed ρ L h := fun bd ap => by
  have hi := at_list hi'
  refine ⟨fun h0 => (by rw [hr] at h0; cases h0), ?_⟩
  rw [hr]
  intro j hj
  obtain rfl := List.mem_singleton.1 hj
  unfold aOpI
  simp only [hi]
  rw [if_neg (by rw [hw]; exact Bool.false_ne_true)]
  exact x bd ap
theorem opS_goal {D : Nat → Bool} {w : Wh} {i how : Nat} {k : St → HP} {h : H} (hm : may P ops w i how = true) (x : opS X ops st i (how' w how) k h) (ok : Ok β st ρ L) (hd : dIn ops D i = true)
    (hn : ∀ β' st' ρ' L' h', Tr β st β' st' → Ok β' st' ρ' L' → Agree D ρ ρ' → k st' h' → Goal P ops next (adv w i) ρ' L' h') : Goal P ops next w ρ L h := by
  unfold opS at x
  cases hi : ops.toList[i]? with
  | none => rw [hi] at x; exact x.elim
  | some o =>
    rw [hi] at x
    simp only at x
    have hd : dstIn D o = true := by unfold dIn at hd; rw [hi] at hd; exact hd
    cases hw : wantS ops st o with
    | none => rw [hw] at x; exact x.elim
    | some bw =>
    rw [hw] at x
    cases bw with
    | true =>
      simp only at x
      have hw := want_ok ok hw
      have eo := effOf_ok (P := P) (X := X) ok o
      generalize effOf P X st o = e at x eo
      cases w with
      | seq l =>
        cases l with
        | nil => cases hm
        | cons j r =>
          have : i = j := by rwa [may, Nat.beq_eq] at hm
          subst this
          exact sg hi hw (run_step ok eo x fun β' st' ρ' L' h' t o' a kk => hn β' st' ρ' L' h' t o' (agree_of hd a) kk)
      | any listed fuel =>
        cases fuel with
        | zero => cases hm
        | succ f =>
          match how, hm, x with
          | 3, hm, x =>
            have hr : Region.ready .any ops listed = [i] := eq_of_beq hm
            exact t1 i hi hr hw (run_step ok eo x fun β' st' ρ' L' h' t o' a kk => hn β' st' ρ' L' h' t o' (agree_of hd a) kk)
          | 0, hm, x =>
            simp only [may, Bool.and_eq_true] at hm
            obtain ⟨v, st', y, t, o', kk⟩ := run_y ok eo x
            exact tyy i _ v hi rfl hm.1.1.2 hm.1.2 hm.2 hw y (hn β st' _ L h t o' (agree_of hd fun t ht => put_other _ _ _ _ ht) kk)
          | 1, hm, x =>
            simp only [may, Bool.and_eq_true] at hm
            obtain ⟨v, st', y, t, o', kk⟩ := run_r ok eo x
            exact trr i _ v hi rfl hm.1.1.2 hm.1.2 hm.2 hw y (hn β st' _ L h t o' (agree_of hd fun t ht => put_other _ _ _ _ ht) kk)
          | 2, hm, x =>
            simp only [may, Bool.and_eq_true] at hm
            exact tq i hi hm.1.1.2 hm.1.2 hm.2 hw (run_step ok eo x fun β' st' ρ' L' h' t o' a kk => hn β' st' ρ' L' h' t o' (agree_of hd a) kk)
          | n + 4, hm, x =>
            simp only [may, Bool.and_eq_true] at hm
            have := Nat.le_of_ble_eq_true hm.1.1.1
            omega
      | part listed fuel c => cases hm
    | false =>
      simp only at x
      have hw := want_ok ok hw
      have ok' : Ok β (st.put o.dst (.v undef)) (put ρ o.dst undef) L := ok.put (v := undef) (s := .v undef) rfl _
      have ag : Agree D ρ (put ρ o.dst undef) := agree_of hd fun t ht => put_other _ _ _ _ ht
      have fin : k (st.put o.dst (.v undef)) h := by
        revert x
        generalize how' w how = q
        intro x
        match q, x with
        | 0, x => exact x
        | 1, x => exact x.elim
        | 2, x => exact x.elim
        | 3, x => exact x
        | n + 4, x => exact x.elim
      have g := hn β _ _ L h (.put ..) ok' ag fin
      cases w with
      | seq l =>
        cases l with
        | nil => cases hm
        | cons j r =>
          have : i = j := by rwa [may, Nat.beq_eq] at hm
          subst this
          exact sn hi hw g
      | any listed fuel =>
        cases fuel with
        | zero => cases hm
        | succ f =>
          match how, hm, x with
          | 3, hm, x =>
            have hr : Region.ready .any ops listed = [i] := eq_of_beq hm
            exact t1n hi hr hw g
          | 0, hm, x =>
            simp only [may, Bool.and_eq_true] at hm
            exact tnn i _ hi rfl hm.1.1.2 hm.1.2 hm.2 hw g
          | 1, hm, x => exact x.elim
          | 2, hm, x => exact x.elim
          | n + 4, hm, x => exact x.elim
      | part listed fuel c => cases hm
/-- One that is ready, the walk of which is told. -/
theorem one_goal {D : Nat → Bool} {f i : Nat} {listed : Array Bool} {k : St → HP} {h : H} (ok : Ok β st ρ L) (x : opS X ops st i 3 k h) (hd : dIn ops D i = true) (hn : ∀ β' st' ρ' L' h', Tr β st β' st' → Ok β' st' ρ' L' → Agree D ρ ρ' → k st' h' → bAny P ops next noP f (listed.setIfInBounds i true) ρ' L' h') (bd : Bdd (un L h)) (ap : Apart L h) :
    aOpI P ops noP i (aAny P ops next noP f (listed.setIfInBounds i true)) ρ L h := by
  unfold opS at x
  cases hi : ops.toList[i]? with
  | none => rw [hi] at x; exact x.elim
  | some o =>
    rw [hi] at x
    simp only at x
    have hd : dstIn D o = true := by unfold dIn at hd; rw [hi] at hd; exact hd
    have hi' := at_list hi
    unfold aOpI
    simp only [hi']
    cases hw : wantS ops st o with
    | none => rw [hw] at x; exact x.elim
    | some bw =>
    rw [hw] at x
    cases bw with
    | true =>
      simp only at x
      have hw := want_ok ok hw
      have eo := effOf_ok (P := P) (X := X) ok o
      generalize effOf P X st o = e at x eo
      rw [if_pos hw]
      exact aOp_inv bd ap (run_step (next := bAny P ops next noP f (listed.setIfInBounds i true)) ok eo x fun β' st' ρ' L' h' t o' a kk => hn β' st' ρ' L' h' t o' (agree_of hd a) kk)
    | false =>
      simp only at x
      have hw := want_ok ok hw
      rw [if_neg (by rw [hw]; exact Bool.false_ne_true)]
      exact hn β _ _ L h (.put ..) (ok.put (v := undef) (s := .v undef) rfl _) (agree_of hd fun t ht => put_other _ _ _ _ ht) x bd ap
/-- Two that are ready. -/
theorem both_goal {D : Nat → Bool} {w : Wh} {i j : Nat} {k1 k2 : St → HP} {h : H} (hm : may2 ops w i j = true) (x1 : opS X ops st i 3 k1 h) (x2 : opS X ops st j 3 k2 h) (ok : Ok β st ρ L) (hd1 : dIn ops D i = true) (hd2 : dIn ops D j = true)
    (hn1 : ∀ β' st' ρ' L' h', Tr β st β' st' → Ok β' st' ρ' L' → Agree D ρ ρ' → k1 st' h' → Goal P ops next (adv w i) ρ' L' h')
    (hn2 : ∀ β' st' ρ' L' h', Tr β st β' st' → Ok β' st' ρ' L' → Agree D ρ ρ' → k2 st' h' → Goal P ops next (adv w j) ρ' L' h') : Goal P ops next w ρ L h := by
  cases w with
  | seq l => cases hm
  | any listed fuel =>
    cases fuel with
    | zero => cases hm
    | succ f =>
      have hr : Region.ready .any ops listed = [i, j] := eq_of_beq hm
      refine fun bd ap => ⟨fun h0 => (by rw [hr] at h0; cases h0), ?_⟩
      rw [hr]
      intro q hq
      rcases List.mem_cons.1 hq with rfl | hq
      · exact one_goal ok x1 hd1 hn1 bd ap
      · rw [List.mem_singleton] at hq
        subst hq
        exact one_goal ok x2 hd2 hn2 bd ap
  | part listed f c =>
    have hr : (Region.ready .any ops listed).filter (fun x => !memB c x) = [i, j] := eq_of_beq hm
    intro bd ap q hq hc
    have hq : q ∈ (Region.ready .any ops listed).filter (fun x => !memB c x) := List.mem_filter.2 ⟨hq, by rw [hc]; rfl⟩
    rw [hr] at hq
    rcases List.mem_cons.1 hq with rfl | hq
    · exact one_goal ok x1 hd1 hn1 bd ap
    · rw [List.mem_singleton] at hq
      subst hq
      exact one_goal ok x2 hd2 hn2 bd ap
/-- One that is ready, and the others. -/
theorem alt_goal {D : Nat → Bool} {w : Wh} {i : Nat} {k1 : St → HP} {h : H} (hm : mayA ops w = true) (x1 : opS X ops st i 3 k1 h) (ok : Ok β st ρ L) (hd1 : dIn ops D i = true)
    (hn1 : ∀ β' st' ρ' L' h', Tr β st β' st' → Ok β' st' ρ' L' → Agree D ρ ρ' → k1 st' h' → Goal P ops next (adv w i) ρ' L' h') (g : Goal P ops next (skip w i) ρ L h) : Goal P ops next w ρ L h := by
  cases w with
  | seq l => cases hm
  | any listed fuel =>
    cases fuel with
    | zero => cases hm
    | succ f =>
      have hr : (!(Region.ready .any ops listed).isEmpty) = true := hm
      refine fun bd ap => ⟨fun h0 => (by rw [h0] at hr; cases hr), fun q hq => ?_⟩
      by_cases e : q = i
      · subst e; exact one_goal ok x1 hd1 hn1 bd ap
      · exact g bd ap q hq (by simp only [memB, List.any_cons, List.any_nil, Bool.or_false]; exact Bool.eq_false_iff.2 fun z => e (by rw [Nat.beq_eq] at z; exact z))
  | part listed f c =>
    intro bd ap q hq hc
    by_cases e : q = i
    · subst e; exact one_goal ok x1 hd1 hn1 bd ap
    · refine g bd ap q hq ?_
      simp only [memB, List.any_cons] at hc ⊢
      rw [hc, Bool.or_false]
      exact Bool.eq_false_iff.2 fun z => e (by rw [Nat.beq_eq] at z; exact z)
end steps
end Go.Proofs.Ytlnlmideghepnaa.K
