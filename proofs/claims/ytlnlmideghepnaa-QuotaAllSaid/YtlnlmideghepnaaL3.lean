/- Plain laws of maps: typed entries; looked up, set, deleted. -/
import Derived.Test.YtlnlmideghepnaaL2
import Derived.Test.YtlnlmideghepnaaQ1
namespace Go.Proofs.Ytlnlmideghepnaa.K
open Go

section
variable {K V : Type}
/-- A map: its typed entries in the order in which they were put in. -/
structure MapOf (kc : K → Value) (vc : V → Value) (h : H) (b : Nat) (l : List (K × V)) : Prop where
  ex : ∃ es cl, h b = some (.map es cl) ∧ es.toList.map (fun e => (e.key, e.val)) = l.map (fun p => (kc p.1, vc p.2)) ∧ (es.toList.map (·.born)).Nodup ∧ ∀ c ∈ es.toList.map (·.born), c < cl
theorem MapOf.keep {kc : K → Value} {vc : V → Value} {h h' : H} {b : Nat} {l : List (K × V)} (x : MapOf kc vc h b l) (k : Keeps h h') : MapOf kc vc h' b l := by
  obtain ⟨es, cl, e, r⟩ := x.ex
  exact ⟨es, cl, k _ _ e, r⟩
theorem MapOf.but {kc : K → Value} {vc : V → Value} {h h' : H} {b : Nat} {l : List (K × V)} {F : Nat → Prop} (x : MapOf kc vc h b l) (k : But F h h') (f : ¬ F b) : MapOf kc vc h' b l := by
  obtain ⟨es, cl, e, r⟩ := x.ex
  exact ⟨es, cl, k _ _ e f, r⟩
theorem w_makeMap {h : H} {kk : Option Nat → H → Prop} (kc : K → Value) (vc : V → Value) (y : ∀ b h', h b = none → MapOf kc vc h' b [] → Keeps h h' → kk (some b) h') : mMakeMap kk h := fun b hb =>
  y b _ hb ⟨#[], 0, upd_same _ _ _, rfl, List.nodup_nil, fun e he => by simp at he⟩ (.new hb)
/-- A map that is none holds nothing. -/
theorem w_lookup0 {h : H} {vc : V → Value} {eq : Value → Value → Option Bool} {z : V} {k : Value} {kk : V × Bool → H → Prop} (y : kk (z, false) h) : mLookup eq vc z none k kk h := ⟨#[], 0, (⟨rfl, rfl⟩ : MapAt h none #[] 0), fun e he => by simp at he, y⟩
variable [DecidableEq K]
/-- Where a key stands, and what lies there. -/
def aidx : List (K × V) → K → Option (Nat × V)
  | [], _ => none
  | (a, v) :: r, k => if k = a then some (0, v) else (aidx r k).map fun p => (p.1 + 1, p.2)
def alook (l : List (K × V)) (k : K) : Option V := (aidx l k).map (·.2)
def aset (l : List (K × V)) (k : K) (v : V) : List (K × V) := match aidx l k with
  | none => l ++ [(k, v)]
  | some (i, _) => l.set i (k, v)
def adel (l : List (K × V)) (k : K) : List (K × V) := match aidx l k with
  | none => l
  | some (i, _) => l.eraseIdx i
theorem set_same {T : Type} {l : List T} {i : Nat} {x : T} (h : l[i]? = some x) : l.set i x = l := by
  apply List.ext_getElem?
  intro j
  rw [List.getElem?_set]
  by_cases q : i = j
  · subst q
    rw [if_pos rfl, h, if_pos (lt_of_get h)]
  · rw [if_neg q]
theorem aidx_some {k : K} {v : V} : ∀ {l : List (K × V)} {i : Nat}, aidx l k = some (i, v) → l[i]? = some (k, v) := by
  intro l
  induction l with
  | nil => intro i h; cases h
  | cons p r ih =>
    obtain ⟨a, w⟩ := p
    intro i h
    unfold aidx at h
    by_cases e : k = a
    · rw [if_pos e] at h; cases h; subst e; rfl
    · rw [if_neg e] at h
      cases hr : aidx r k with
      | none => rw [hr] at h; cases h
      | some q => rw [hr] at h; cases h; exact ih hr
/-- How keys are compared. -/
def KeyEq (eq : Value → Value → Option Bool) (kc : K → Value) : Prop := ∀ a b, eq (kc a) (kc b) = some (decide (a = b))
variable {kc : K → Value} {vc : V → Value} {eq : Value → Value → Option Bool} {h : H} {b : Nat} {l : List (K × V)}
theorem ents_find (he : KeyEq eq kc) (k : K) : ∀ (es : List MapEntry) (l : List (K × V)) (i : Nat), es.map (fun e => (e.key, e.val)) = l.map (fun p => (kc p.1, vc p.2)) → findR eq (kc k) es i = (aidx l k).map fun p => (i + p.1, vc p.2) := by
  intro es
  induction es with
  | nil =>
    intro l i h
    cases l with
    | nil => rfl
    | cons => cases h
  | cons e r ih =>
    intro l i h
    cases l with
    | nil => cases h
    | cons p q =>
      obtain ⟨a, v⟩ := p
      rw [List.map_cons, List.map_cons] at h
      injection h with h1 h2
      have h3 : e.key = kc a := (Prod.mk.inj h1).1
      have h4 : e.val = vc v := (Prod.mk.inj h1).2
      unfold findR aidx
      rw [h3, he k a]
      by_cases e : k = a
      · rw [decide_eq_true e, if_pos e, h4]; rfl
      · rw [decide_eq_false e, if_neg e]
        simp only
        rw [ih q (i + 1) h2]
        cases aidx q k with
        | none => rfl
        | some z => simp only [Option.map_some]; congr 2; omega
theorem ents_keys (he : KeyEq eq kc) (k : K) {es : Array MapEntry} {l : List (K × V)} (h : es.toList.map (fun e => (e.key, e.val)) = l.map (fun p => (kc p.1, vc p.2))) : Keys eq (kc k) es := fun e hm => by
  have : (e.key, e.val) ∈ es.toList.map (fun e => (e.key, e.val)) := List.mem_map_of_mem hm
  rw [h] at this
  obtain ⟨p, _, hp⟩ := List.mem_map.1 this
  have : kc p.1 = e.key := (Prod.mk.inj hp).1
  exact ⟨_, by rw [← this]; exact he k p.1⟩
/-- v, ok := m[k]. -/
theorem w_lookup (he : KeyEq eq kc) (x : MapOf kc vc h b l) {z : V} {k : K} {kk : V × Bool → H → Prop} (y : kk ((alook l k).getD z, (alook l k).isSome) h) : mLookup eq vc z (some b) (kc k) kk h := by
  obtain ⟨es, cl, e, hm, _⟩ := x.ex
  refine ⟨es, cl, e, ents_keys he k hm, ?_⟩
  rw [ents_find he k es.toList l 0 hm]
  unfold alook at y
  cases ha : aidx l k with
  | none => rw [ha] at y; exact y
  | some p => rw [ha] at y; exact ⟨p.2, rfl, y⟩
/-- m[k] = v. -/
theorem w_mapSet (he : KeyEq eq kc) (x : MapOf kc vc h b l) {k : K} {v : V} {key val : Value} (hk : key = kc k) (hv : val = vc v) {kk : H → Prop} (y : ∀ h', MapOf kc vc h' b (aset l k v) → But (· = b) h h' → (∀ c, h' c = none → h c = none) → kk h') : mMapSet eq (some b) key val kk h := by
  subst hk; subst hv
  obtain ⟨es, cl, e, hm, hp, hb⟩ := x.ex
  refine ⟨b, es, cl, rfl, e, ents_keys he k hm, ?_⟩
  have hf := ents_find he k es.toList l 0 hm
  have hlen : es.toList.length = l.length := by have := congrArg List.length hm; simpa using this
  cases ha : aidx l k with
  | none =>
    rw [ha] at hf
    have hf : findR eq (kc k) es.toList 0 = none := hf
    rw [hf]
    refine y _ ⟨_, _, upd_same _ _ _, ?_, ?_, ?_⟩ (But.upd rfl) fun c hc => (upd_none.1 hc).2
    · unfold aset; rw [ha]
      simp only [Array.toList_push, List.map_append, hm, List.map_cons, List.map_nil]
    · rw [Array.toList_push, List.map_append, List.nodup_append]
      refine ⟨hp, by simp, fun a ha c hc => ?_⟩
      simp only [List.map_cons, List.map_nil, List.mem_singleton] at hc
      subst hc
      have := hb a ha
      omega
    · intro a ha
      rw [Array.toList_push, List.map_append, List.mem_append] at ha
      rcases ha with q | q
      · have := hb a q; omega
      · simp only [List.map_cons, List.map_nil, List.mem_singleton] at q
        omega
  | some p =>
    obtain ⟨i, w⟩ := p
    rw [ha] at hf
    have hf : findR eq (kc k) es.toList 0 = some (0 + i, vc w) := hf
    rw [Nat.zero_add] at hf
    rw [hf]
    have hi := aidx_some ha
    have hlt := lt_of_get hi
    obtain ⟨e0, h0, hk0⟩ : ∃ e0, es.toList[i]? = some e0 ∧ e0.key = kc k := by
      have hg := congrArg (·[i]?) hm
      simp only [List.getElem?_map, hi, Option.map_some] at hg
      cases h0 : es.toList[i]? with
      | none => rw [h0] at hg; cases hg
      | some e0 => rw [h0] at hg; exact ⟨e0, rfl, (Prod.mk.inj (Option.some.inj hg)).1⟩
    have ha0 : es[i]? = some e0 := by rw [← Array.getElem?_toList]; exact h0
    have hmod : (es.modify i fun e => { e with key := kc k, val := vc v }).toList = es.toList.set i { e0 with key := kc k, val := vc v } := by
      rw [Array.toList_modify]
      apply List.ext_getElem?
      intro j
      rw [List.getElem?_modify, List.getElem?_set]
      by_cases q : i = j
      · subst q
        rw [h0, if_pos rfl, if_pos (by omega)]
        simp
      · rw [if_neg q]; simp [q]
    refine ⟨by rw [ha0]; simp [hk0], y _ ⟨_, _, upd_same _ _ _, ?_, ?_, ?_⟩ (But.upd rfl) fun c hc => (upd_none.1 hc).2⟩
    · unfold aset
      rw [ha, hmod, List.map_set, List.map_set, hm]
    · rw [hmod, List.map_set]
      have : (es.toList.map (·.born)).set i e0.born = es.toList.map (·.born) := set_same (by rw [List.getElem?_map, h0]; rfl)
      rw [this]; exact hp
    · rw [hmod, List.map_set]
      have : (es.toList.map (·.born)).set i e0.born = es.toList.map (·.born) := set_same (by rw [List.getElem?_map, h0]; rfl)
      rw [this]; exact hb
theorem map_eraseIdx {S T : Type} (f : S → T) : ∀ (l : List S) (i : Nat), (l.eraseIdx i).map f = (l.map f).eraseIdx i := by
  intro l
  induction l with
  | nil => intro i; rfl
  | cons a r ih =>
    intro i
    cases i with
    | zero => rfl
    | succ i => simp only [List.eraseIdx_cons_succ, List.map_cons, ih]
/-- delete(m, k). -/
theorem w_mapDel (he : KeyEq eq kc) (x : MapOf kc vc h b l) {k : K} {key : Value} (hk : key = kc k) {kk : H → Prop} (y : ∀ h', MapOf kc vc h' b (adel l k) → But (· = b) h h' → (∀ c, h' c = none → h c = none) → kk h') : mMapDel eq (some b) key kk h := by
  subst hk
  have x0 := x
  obtain ⟨es, cl, e, hm, hp, hb⟩ := x.ex
  refine ⟨es, cl, e, ents_keys he k hm, ?_⟩
  have hf := ents_find he k es.toList l 0 hm
  have hlen : es.toList.length = l.length := by have := congrArg List.length hm; simpa using this
  cases ha : aidx l k with
  | none =>
    rw [ha] at hf
    have hf : findR eq (kc k) es.toList 0 = none := hf
    rw [hf]
    exact y _ (by unfold adel; rw [ha]; exact x0) (.refl _ _) fun _ q => q
  | some p =>
    obtain ⟨i, w⟩ := p
    rw [ha] at hf
    have hf : findR eq (kc k) es.toList 0 = some (0 + i, vc w) := hf
    rw [Nat.zero_add] at hf
    rw [hf]
    have hlt := lt_of_get (aidx_some ha)
    have hsz : i < es.size := by rw [← Array.length_toList]; omega
    have hmod : (es.eraseIdxIfInBounds i).toList = es.toList.eraseIdx i := by
      rw [Array.toList_eraseIdxIfInBounds]
    refine y _ ⟨_, _, upd_same _ _ _, ?_, ?_, ?_⟩ (But.upd rfl) fun c hc => (upd_none.1 hc).2
    · unfold adel
      rw [ha, hmod, map_eraseIdx, map_eraseIdx, hm]
    · rw [hmod, map_eraseIdx]
      exact hp.sublist (List.eraseIdx_sublist _ _)
    · rw [hmod, map_eraseIdx]
      exact fun c hc => hb c ((List.eraseIdx_sublist _ _).subset hc)
omit [DecidableEq K] in
theorem w_mapLen (x : MapOf kc vc h b l) (hl : l.length ≤ 9223372036854775807) {kk : Int → H → Prop} (y : kk (l.length : Nat) h) : mMapLen (some b) kk h := by
  obtain ⟨es, cl, e, hm, _⟩ := x.ex
  have hlen : es.toList.length = l.length := by have := congrArg List.length hm; simpa using this
  have hs : es.size = l.length := by rw [← Array.length_toList]; exact hlen
  exact ⟨es, cl, e, by omega, by rw [hs]; exact y⟩
end
end Go.Proofs.Ytlnlmideghepnaa.K
