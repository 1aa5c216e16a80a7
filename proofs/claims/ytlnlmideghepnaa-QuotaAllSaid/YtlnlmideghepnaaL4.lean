/- Runs over maps: each entry once, in any order. -/
import Derived.Test.YtlnlmideghepnaaL3
namespace Go.Proofs.Ytlnlmideghepnaa.K
open Go

section
variable {K V : Type}
def entOf (kc : K → Value) (vc : V → Value) (t : Nat × K × V) : MapEntry := ⟨kc t.2.1, vc t.2.2, t.1⟩
theorem typed (kc : K → Value) (vc : V → Value) : ∀ (es : List MapEntry) (l : List (K × V)), es.map (fun e => (e.key, e.val)) = l.map (fun p => (kc p.1, vc p.2)) → ∃ te : List (Nat × K × V), es = te.map (entOf kc vc) ∧ l = te.map (·.2) := by
  intro es
  induction es with
  | nil =>
    intro l h
    cases l with
    | nil => exact ⟨[], rfl, rfl⟩
    | cons => cases h
  | cons e r ih =>
    intro l h
    cases l with
    | nil => cases h
    | cons p q =>
      rw [List.map_cons, List.map_cons] at h
      injection h with h1 h2
      obtain ⟨te, rfl, rfl⟩ := ih q h2
      refine ⟨(e.born, p) :: te, ?_, rfl⟩
      rw [List.map_cons]
      congr 1
      obtain ⟨ek, ev_, eb⟩ := e
      cases (Prod.mk.inj h1).1
      cases (Prod.mk.inj h1).2
      rfl
/-- A run over a map: what it has not seen yet; where it stands. -/
structure IterOf (kc : K → Value) (vc : V → Value) (h : H) (it : Addr) (b : Nat) (l rest : List (K × V)) (at_ : Option (K × V)) : Prop where
  ex : ∃ (te : List (Nat × K × V)) (cl : Nat) (seen : Array Nat), it.off = 0 ∧ h it.block = some (.mapIter (some b) cl seen cl) ∧ h b = some (.map (te.map (entOf kc vc)).toArray cl) ∧ l = te.map (·.2) ∧ (te.map (·.1)).Nodup ∧ (∀ t ∈ te, t.1 < cl) ∧
    rest = (te.filter fun t => !seen.contains t.1).map (·.2) ∧ ∀ p, at_ = some p → ∃ t ∈ te, t.2 = p ∧ seen.back? = some t.1
variable {kc : K → Value} {vc : V → Value} {h : H} {b : Nat} {l rest : List (K × V)}
theorem IterOf.but {it : Addr} {o : Option (K × V)} {F : Nat → Prop} {h' : H} (x : IterOf kc vc h it b l rest o) (k : But F h h') (f1 : ¬ F it.block) (f2 : ¬ F b) : IterOf kc vc h' it b l rest o := by
  obtain ⟨te, cl, seen, h0, h1, h2, r⟩ := x.ex
  exact ⟨te, cl, seen, h0, k _ _ h1 f1, k _ _ h2 f2, r⟩
theorem IterOf.keep {it : Addr} {o : Option (K × V)} {h' : H} (x : IterOf kc vc h it b l rest o) (k : Keeps h h') : IterOf kc vc h' it b l rest o := by
  obtain ⟨te, cl, seen, h0, h1, h2, r⟩ := x.ex
  exact ⟨te, cl, seen, h0, k _ _ h1, k _ _ h2, r⟩
/-- for k, v := range m: its beginning. -/
theorem w_range (x : MapOf kc vc h b l) {kk : Addr → H → Prop} (y : ∀ it h', h it.block = none → IterOf kc vc h' it b l l none → Keeps h h' → kk it h') : mRange (some b) kk h := by
  obtain ⟨es, cl, e, hm, hn, hb⟩ := x.ex
  refine ⟨es, cl, e, fun c hc => ?_⟩
  obtain ⟨te, h1, h2⟩ := typed kc vc es.toList l hm
  have hne : b ≠ c := fun q => by subst q; rw [hc] at e; cases e
  refine y _ _ hc ⟨te, cl, #[], rfl, upd_same _ _ _, ?_, h2, ?_, ?_, ?_, fun p q => by cases q⟩ (.new hc)
  · rw [upd_ne _ _ hne, e, ← h1]
  · rw [h1, List.map_map] at hn; exact hn
  · intro t ht
    rw [h1, List.map_map] at hb
    exact hb t.1 (List.mem_map.2 ⟨t, ht, rfl⟩)
  · rw [h2]; congr 1; symm; rw [List.filter_eq_self]; intro t _; simp
theorem filt {t : Nat × K × V} {P : Nat × K × V → Bool} (hP : P t = true) : ∀ te : List (Nat × K × V), (te.map (·.1)).Nodup → t ∈ te → (te.filter P).Perm (t :: te.filter fun u => P u && u.1 != t.1) := by
  intro te
  induction te with
  | nil => intro _ h; cases h
  | cons a r ih =>
    intro hn ht
    rw [List.map_cons, List.nodup_cons] at hn
    rcases List.mem_cons.1 ht with rfl | ht
    · rw [List.filter_cons_of_pos hP, List.filter_cons_of_neg (by simp)]
      refine List.Perm.cons _ (List.Perm.of_eq (List.filter_congr fun u hu => ?_))
      have : u.1 ≠ t.1 := fun e => hn.1 (List.mem_map.2 ⟨u, hu, e⟩)
      simp [this]
    · have hne : a.1 ≠ t.1 := fun e => hn.1 (List.mem_map.2 ⟨t, ht, e.symm⟩)
      have := ih hn.2 ht
      by_cases pa : P a = true
      · rw [List.filter_cons_of_pos pa, List.filter_cons_of_pos (by simp [pa, hne])]
        exact (this.cons a).trans (List.Perm.swap _ _ _)
      · rw [List.filter_cons_of_neg pa, List.filter_cons_of_neg (by simp [pa])]
        exact this
/-- .. its next step. -/
theorem w_next {it : Addr} {o : Option (K × V)} (x : IterOf kc vc h it b l rest o) (hb : it.block ≠ b) {kk : Bool × List Value → H → Prop} (over : rest = [] → kk (false, []) h)
    (more : ∀ p rest' h', rest.Perm (p :: rest') → IterOf kc vc h' it b l rest' (some p) → But (· = it.block) h h' → (∀ c, h' c = none → h c = none) → kk (true, [kc p.1, vc p.2]) h') : mNext it kk h := by
  obtain ⟨te, cl, seen, h0, h1, h2, h3, h4, h5, h6, _⟩ := x.ex
  refine ⟨h0, some b, cl, seen, cl, h1, _, cl, h2, ?_, fun hov => ?_, fun e he hs => ?_⟩
  · cases te with
    | nil => simp
    | cons t r =>
      have := h5 t (List.mem_cons_self ..)
      have hf : ((List.map (entOf kc vc) (t :: r)).toArray.all fun x => decide (x.born ≥ cl)) = false := by
        rw [Array.all_eq_false]
        refine ⟨0, by simp, ?_⟩
        simp [entOf]; exact this
      rw [hf, Bool.and_false]
  · refine over ?_
    rw [h6, List.map_eq_nil_iff, List.filter_eq_nil_iff]
    intro t ht hc
    have hlt := h5 t ht
    rw [Array.isEmpty_iff] at hov
    have : entOf kc vc t ∈ ((List.map (entOf kc vc) te).toArray.filter fun e => !seen.contains e.born).filter (·.born < cl) := by
      simp only [Array.mem_filter, List.mem_toArray]
      exact ⟨⟨List.mem_map.2 ⟨t, ht, rfl⟩, hc⟩, decide_eq_true hlt⟩
    rw [hov] at this
    simp at this
  · have he : e ∈ te.map (entOf kc vc) := by simpa using he
    obtain ⟨t, ht, rfl⟩ := List.mem_map.1 he
    have hP : (!seen.contains t.1) = true := by
      have hs : seen.contains t.1 = false := hs
      rw [hs]; rfl
    have pm := filt (P := fun u => !seen.contains u.1) hP te h4 ht
    refine more t.2 ((te.filter fun u => !(seen.push t.1).contains u.1).map (·.2)) _ ?_ ⟨te, cl, seen.push t.1, h0, upd_same _ _ _, by rw [upd_ne _ _ (Ne.symm hb)]; exact h2, h3, h4, h5, rfl, fun p q => ⟨t, ht, by cases q; rfl, by simp⟩⟩ (But.upd rfl) fun c hc => (upd_none.1 hc).2
    rw [h6]
    have e2 : (te.filter fun u => !(seen.push t.1).contains u.1) = te.filter fun u => !seen.contains u.1 && u.1 != t.1 := by
      refine List.filter_congr fun u _ => ?_
      rw [Array.contains_push]
      cases seen.contains u.1 <;> simp [bne, BEq.comm]
    rw [e2]
    exact pm.map (·.2)
theorem find_born {t : Nat × K × V} : ∀ te : List (Nat × K × V), (te.map (·.1)).Nodup → t ∈ te → (te.map (entOf kc vc)).find? (·.born == t.1) = some (entOf kc vc t) := by
  intro te
  induction te with
  | nil => intro _ h; cases h
  | cons a r ih =>
    intro hn ht
    rw [List.map_cons, List.nodup_cons] at hn
    rcases List.mem_cons.1 ht with rfl | ht
    · rw [List.map_cons, List.find?_cons_of_pos (by simp [entOf])]
    · have hne : a.1 ≠ t.1 := fun e => hn.1 (List.mem_map.2 ⟨t, ht, e.symm⟩)
      rw [List.map_cons, List.find?_cons_of_neg (by simp [entOf, hne])]
      exact ih hn.2 ht
theorem w_entry {it : Addr} {p : K × V} (x : IterOf kc vc h it b l rest (some p)) {kk : K × V → H → Prop} (y : kk p h) : mEntry kc vc it kk h := by
  obtain ⟨te, cl, seen, h0, h1, h2, h3, h4, h5, h6, h7⟩ := x.ex
  obtain ⟨t, ht, rfl, hs⟩ := h7 p rfl
  refine ⟨h0, b, cl, seen, t.1, _, cl, entOf kc vc t, t.2.1, t.2.2, h1, hs, h2, ?_, rfl, rfl, y⟩
  rw [List.find?_toArray]
  exact find_born te h4 ht
variable [DecidableEq K]
theorem aidx_cons (a : K) (w : V) (r : List (K × V)) (k : K) : aidx ((a, w) :: r) k = if k = a then some (0, w) else (aidx r k).map fun p => (p.1 + 1, p.2) := rfl
theorem aset_cons (a : K) (w : V) (r : List (K × V)) (k : K) (v : V) : aset ((a, w) :: r) k v = if k = a then (k, v) :: r else (a, w) :: aset r k v := by
  unfold aset
  rw [aidx_cons]
  by_cases e : k = a
  · rw [if_pos e, if_pos e]; rfl
  · rw [if_neg e, if_neg e]
    cases aidx r k <;> rfl
theorem adel_cons (a : K) (w : V) (r : List (K × V)) (k : K) : adel ((a, w) :: r) k = if k = a then r else (a, w) :: adel r k := by
  unfold adel
  rw [aidx_cons]
  by_cases e : k = a
  · rw [if_pos e, if_pos e]; rfl
  · rw [if_neg e, if_neg e]
    cases aidx r k <;> rfl
theorem alook_cons (a : K) (w : V) (r : List (K × V)) (k : K) : alook ((a, w) :: r) k = if k = a then some w else alook r k := by
  unfold alook
  rw [aidx_cons]
  by_cases e : k = a
  · rw [if_pos e, if_pos e]; rfl
  · rw [if_neg e, if_neg e]
    cases aidx r k <;> rfl
theorem alook_set (k k' : K) (v : V) : ∀ l : List (K × V), alook (aset l k v) k' = if k' = k then some v else alook l k' := by
  intro l
  induction l with
  | nil => exact alook_cons k v [] k'
  | cons p r ih =>
    obtain ⟨a, w⟩ := p
    rw [aset_cons, alook_cons]
    by_cases e : k = a
    · rw [if_pos e, alook_cons, e]
      by_cases q : k' = a
      · rw [if_pos q, if_pos q]
      · rw [if_neg q, if_neg q, if_neg q]
    · rw [if_neg e, alook_cons, ih]
      by_cases q : k' = a
      · rw [if_pos q, if_neg (show ¬ k' = k from fun z => e (z.symm.trans q)), if_pos q]
      · rw [if_neg q, if_neg q]
/-- Each key once. -/
def Once (l : List (K × V)) : Prop := (l.map (·.1)).Nodup
theorem aidx_none {k : K} : ∀ {l : List (K × V)}, alook l k = none → k ∉ l.map (·.1) := by
  intro l
  induction l with
  | nil => intro _ h; cases h
  | cons p r ih =>
    obtain ⟨a, w⟩ := p
    intro h hm
    rw [alook_cons] at h
    by_cases e : k = a
    · rw [if_pos e] at h; cases h
    · rw [if_neg e] at h
      rcases List.mem_cons.1 hm with q | q
      · exact e q
      · exact ih h q
theorem alook_none {k : K} : ∀ {l : List (K × V)}, k ∉ l.map (·.1) → alook l k = none := by
  intro l
  induction l with
  | nil => intro _; rfl
  | cons p r ih =>
    obtain ⟨a, w⟩ := p
    intro h
    rw [List.map_cons, List.mem_cons, not_or] at h
    rw [alook_cons, if_neg h.1, ih h.2]
theorem aset_keys (k : K) (v : V) : ∀ (l : List (K × V)) (x : K), x ∈ (aset l k v).map (·.1) ↔ x = k ∨ x ∈ l.map (·.1) := by
  intro l
  induction l with
  | nil => intro x; simp [aset, aidx]
  | cons p r ih =>
    obtain ⟨a, w⟩ := p
    intro x
    rw [aset_cons]
    by_cases e : k = a
    · rw [if_pos e]; subst e; simp
    · rw [if_neg e, List.map_cons, List.mem_cons, ih, List.map_cons, List.mem_cons]
      constructor
      · rintro (q | q | q)
        · exact .inr (.inl q)
        · exact .inl q
        · exact .inr (.inr q)
      · rintro (q | q | q)
        · exact .inr (.inl q)
        · exact .inl q
        · exact .inr (.inr q)
theorem Once.set {l : List (K × V)} (x : Once l) (k : K) (v : V) : Once (aset l k v) := by
  unfold Once at *
  induction l with
  | nil => simp [aset, aidx]
  | cons p r ih =>
    obtain ⟨a, w⟩ := p
    rw [List.map_cons, List.nodup_cons] at x
    rw [aset_cons]
    by_cases e : k = a
    · rw [if_pos e]; subst e; rw [List.map_cons, List.nodup_cons]; exact x
    · rw [if_neg e, List.map_cons, List.nodup_cons]
      refine ⟨fun q => ?_, ih x.2⟩
      rcases (aset_keys k v r a).1 q with q | q
      · exact e q.symm
      · exact x.1 q
theorem alook_del (k k' : K) : ∀ l : List (K × V), Once l → alook (adel l k) k' = if k' = k then none else alook l k' := by
  intro l
  induction l with
  | nil => intro _; simp [adel, aidx, alook]
  | cons p r ih =>
    obtain ⟨a, w⟩ := p
    intro x
    unfold Once at x ih
    rw [List.map_cons, List.nodup_cons] at x
    rw [adel_cons, alook_cons]
    by_cases e : k = a
    · rw [if_pos e, e]
      by_cases q : k' = a
      · rw [if_pos q, q]; exact alook_none x.1
      · rw [if_neg q, if_neg q]
    · rw [if_neg e, alook_cons, ih x.2]
      by_cases q : k' = a
      · rw [if_pos q, if_neg (show ¬ k' = k from fun z => e (z.symm.trans q)), if_pos q]
      · rw [if_neg q, if_neg q]
end
end Go.Proofs.Ytlnlmideghepnaa.K
