/- deriveWeaker: true at every input, the arguments as they were: no condition. Part 3 of 5. -/
import Derived.Test.YtdleanjofhghnaaDoorZE2
namespace Go.Proofs.YtdleanjofhghnaaDoor.K
open Go
section
variable {h : H}
theorem w_for {σ : Type} {F : (σ → H → Prop) → σ → H → Prop} (n : Nat) (I : Nat → σ → H → Prop)
    (step : ∀ (rec : σ → H → Prop) (j : Nat) (s : σ) (h : H), j ≤ n → I j s h → (∀ s' h', j < n → I (j + 1) s' h' → rec s' h') → F rec s h) {s : σ} (i : I 0 s h) : mLoop F s h := by
  suffices ∀ (m : Nat) (j : Nat) (s : σ) (h : H), j ≤ n → n - j ≤ m → I j s h → ∃ N, loopF F N s h from this n 0 s h (Nat.zero_le _) (Nat.sub_le _ _) i
  intro m
  induction m with
  | zero =>
    intro j s h hj hm i
    exact ⟨1, step _ j s h hj i fun s' h' q => by omega⟩
  | succ m ih =>
    intro j s h hj hm i
    have key : ∀ (N : Nat) (F' : σ → H → Prop), True := fun _ _ => trivial
    have all : ∀ (M : Nat) (j : Nat) (s : σ) (h : H), j ≤ n → n - j < M → I j s h → loopF F M s h := by
      intro M
      induction M with
      | zero => intro j s h _ q; omega
      | succ M ihM => exact fun j s h hj q i => step _ j s h hj i fun s' h' lt i' => ihM (j + 1) s' h' lt (by omega) i'
    exact ⟨n - j + 1, all _ j s h hj (Nat.lt_succ_self _) i⟩
theorem w_get {T T' : Type} {cells : T → List Value} {cells' : T' → List Value} {sz : Nat} (hs : ∀ x, (cells x).length = sz) {s : Sl} {xs : List T} (x : Arr cells h s xs) {i : Nat} {v : T} (e : xs[i]? = some v) {j : Int} (hj : j = i) {v' : T'} (hv : cells' v' = cells v) {k : T' → H → Prop}
    (y : k v' h) : mIdx s j sz (fun a => mLoad cells' a k) h := by
  refine w_idx hs x e hj fun a _ ha => w_load (v := v') ?_ y
  rw [hv]; exact ha
theorem w_put {T : Type} {cells : T → List Value} {sz : Nat} {e : TypeId} (hs : ∀ x, (cells x).length = sz) {s : Sl} {xs : List T} (x : Buf cells sz e h s xs) {i : Nat} (hi : i < xs.length) {j : Int} (hj : j = i) (v' : T) {new : List Value} (hv : cells v' = new) {k : H → Prop}
    (y : ∀ h', Buf cells sz e h' s (xs.set i v') → But s.foot h h' → (∀ b, h' b = none → h b = none) → k h') : mIdx s j sz (fun a => mStore a new k) h := by
  refine w_idx hs x.arr (List.getElem?_eq_getElem hi) hj fun a ha _ => ?_
  refine w_set hs x (v' := v') (List.getElem?_eq_getElem hi) ha (c1 := []) (c2 := cells xs[i]) (c3 := []) (new := new) (by simp) (by simp [hv]) (by rw [← hv, hs, hs]) (add_zero a).symm y
theorem flat_rep {T : Type} {cells : T → List Value} {sz : Nat} (hs : ∀ x, (cells x).length = sz) (z : T) : ∀ (n i : Nat), (flat cells (List.replicate n z))[i]? = if i < n * sz then (cells z)[i % sz]? else none := by
  intro n
  induction n with
  | zero => intro i; simp [flat]
  | succ n ih =>
    intro i
    rw [List.replicate_succ, flat_cons, List.getElem?_append, hs]
    split
    · rename_i hi
      have : sz ≤ (n + 1) * sz := Nat.le_mul_of_pos_left _ (Nat.succ_pos n)
      rw [if_pos (by omega), Nat.mod_eq_of_lt hi]
    · rename_i hi
      rw [ih, Nat.succ_mul]
      have e : (i - sz) % sz = i % sz := by
        conv => rhs; rw [show i = i - sz + sz by omega, Nat.add_mod_right]
      rw [e]
      by_cases c : i < n * sz + sz
      · rw [if_pos c, if_pos (by omega)]
      · rw [if_neg c, if_neg (by omega)]
theorem zero_flat {T : Type} {cells : T → List Value} {sz : Nat} (hs : ∀ x, (cells x).length = sz) (z : T) {zero : Array Value} (hz : zero = (cells z).toArray) (n : Nat) : (Builtin.zeroCells zero n).toList = flat cells (List.replicate n z) := by
  subst hz
  apply List.ext_getElem?
  intro i
  rw [flat_rep hs]
  unfold Builtin.zeroCells
  rw [Array.getElem?_toList, Array.getElem?_map, Array.getElem?_range]
  have hsz : (cells z).toArray.size = sz := by rw [List.size_toArray, hs]
  rw [hsz]
  split
  · rename_i hi
    rw [Option.map_some]
    have hpos : 0 < sz := by
      rcases Nat.eq_zero_or_pos sz with q | q
      · rw [q, Nat.mul_zero] at hi; omega
      · exact q
    have hlt : i % sz < (cells z).length := by rw [hs]; exact Nat.mod_lt _ hpos
    rw [List.getElem?_eq_getElem hlt]
    simp [hlt]
  · rfl
theorem w_make {T : Type} {cells : T → List Value} {sz by_ : Nat} {e : TypeId} (hs : ∀ x, (cells x).length = sz) (z : T) {zero : Array Value} (hz : zero = (cells z).toArray) {n : Nat} {i j : Int} (hi : i = n) (hj : j = n) (hn : n ≤ 9223372036854775807) (hb : by_ * n ≤ 2 ^ 48) {k : Sl → H → Prop}
    (y : ∀ s h', Buf cells sz e h' s (List.replicate n z) → Keeps h h' → (∀ b, s.foot b → h b = none) → s.cap = n → k s h') : mMake e by_ zero i j k h := by
  subst hi; subst hj
  refine ⟨by omega, by omega, by omega, by exact_mod_cast hb, fun b hb => ?_⟩
  rw [Int.toNat_natCast]
  refine y _ _ ⟨by simp, Nat.le_refl _, .inr ⟨b, [], (0, 0), rfl, ?_, ?_, thawed0 _⟩⟩ (.new hb) (fun c ⟨a, ha, hc⟩ => by cases ha; subst hc; exact hb) rfl
  · rw [upd_same, List.append_nil, ← zero_flat hs z hz]
  · rw [List.append_nil, flat_len hs, List.length_replicate]
theorem w_joinV {σ : Type} {rest : σ → H → Prop} {body : (σ → H → Prop) → H → Prop} (v : σ) (hb : ∀ j : σ → H → Prop, j v h → body j h) (hr : rest v h) : mJoin rest body h := hb rest hr
theorem w_both {A B : H → Prop} (x : A h) (y : B h) : mBoth A B h := ⟨x, y⟩
end
section
variable {K V : Type}
structure MapOf (kc : K → Value) (vc : V → Value) (h : H) (b : Nat) (l : List (K × V)) : Prop where
  ex : ∃ es cl, h b = some (.map es cl) ∧ es.toList.map (fun e => (e.key, e.val)) = l.map (fun p => (kc p.1, vc p.2)) ∧ (es.toList.map (·.born)).Nodup ∧ ∀ c ∈ es.toList.map (·.born), c < cl
theorem MapOf.keep {kc : K → Value} {vc : V → Value} {h h' : H} {b : Nat} {l : List (K × V)} (x : MapOf kc vc h b l) (k : Keeps h h') : MapOf kc vc h' b l := by
  obtain ⟨es, cl, e, r⟩ := x.ex
  exact ⟨es, cl, k _ _ e, r⟩
theorem MapOf.but {kc : K → Value} {vc : V → Value} {h h' : H} {b : Nat} {l : List (K × V)} {F : Nat → Prop} (x : MapOf kc vc h b l) (k : But F h h') (f : ¬ F b) : MapOf kc vc h' b l := by
  obtain ⟨es, cl, e, r⟩ := x.ex
  exact ⟨es, cl, k _ _ e f, r⟩
theorem w_makeMap {h : H} {kk : Option Nat → H → Prop} (kc : K → Value) (vc : V → Value) (y : ∀ b h', h b = none → MapOf kc vc h' b [] → Keeps h h' → kk (some b) h') : mMakeMap kk h := fun b hb =>
  y b _ hb ⟨#[], 0, upd_same _ _ _, rfl, List.nodup_nil, fun e he => by simp at he⟩ (.new hb)
variable [DecidableEq K]
def aidx : List (K × V) → K → Option (Nat × V)
  | [], _ => none
  | (a, v) :: r, k => if k = a then some (0, v) else (aidx r k).map fun p => (p.1 + 1, p.2)
def alook (l : List (K × V)) (k : K) : Option V := (aidx l k).map (·.2)
def aset (l : List (K × V)) (k : K) (v : V) : List (K × V) := match aidx l k with
  | none => l ++ [(k, v)]
  | some (i, _) => l.set i (k, v)
def adel (l : List (K × V)) (k : K) : List (K × V) := match aidx l k with
  | none => l
  | some (i, _) => l.eraseIdx i
theorem set_same {T : Type} {l : List T} {i : Nat} {x : T} (h : l[i]? = some x) : l.set i x = l := by
  apply List.ext_getElem?
  intro j
  rw [List.getElem?_set]
  by_cases q : i = j
  · subst q
    rw [if_pos rfl, h, if_pos (lt_of_get h)]
  · rw [if_neg q]
theorem aidx_some {k : K} {v : V} : ∀ {l : List (K × V)} {i : Nat}, aidx l k = some (i, v) → l[i]? = some (k, v) := by
  intro l
  induction l with
  | nil => intro i h; cases h
  | cons p r ih =>
    obtain ⟨a, w⟩ := p
    intro i h
    unfold aidx at h
    by_cases e : k = a
    · rw [if_pos e] at h; cases h; subst e; rfl
    · rw [if_neg e] at h
      cases hr : aidx r k with
      | none => rw [hr] at h; cases h
      | some q => rw [hr] at h; cases h; exact ih hr
def KeyEq (eq : Value → Value → Option Bool) (kc : K → Value) : Prop := ∀ a b, eq (kc a) (kc b) = some (decide (a = b))
variable {kc : K → Value} {vc : V → Value} {eq : Value → Value → Option Bool} {h : H} {b : Nat} {l : List (K × V)}
theorem ents_find (he : KeyEq eq kc) (k : K) : ∀ (es : List MapEntry) (l : List (K × V)) (i : Nat), es.map (fun e => (e.key, e.val)) = l.map (fun p => (kc p.1, vc p.2)) → findR eq (kc k) es i = (aidx l k).map fun p => (i + p.1, vc p.2) := by
  intro es
  induction es with
  | nil =>
    intro l i h
    cases l with
    | nil => rfl
    | cons => cases h
  | cons e r ih =>
    intro l i h
    cases l with
    | nil => cases h
    | cons p q =>
      obtain ⟨a, v⟩ := p
      rw [List.map_cons, List.map_cons] at h
      injection h with h1 h2
      have h3 : e.key = kc a := (Prod.mk.inj h1).1
      have h4 : e.val = vc v := (Prod.mk.inj h1).2
      unfold findR aidx
      rw [h3, he k a]
      by_cases e : k = a
      · rw [decide_eq_true e, if_pos e, h4]; rfl
      · rw [decide_eq_false e, if_neg e]
        simp only
        rw [ih q (i + 1) h2]
        cases aidx q k with
        | none => rfl
        | some z => simp only [Option.map_some]; congr 2; omega
theorem ents_keys (he : KeyEq eq kc) (k : K) {es : Array MapEntry} {l : List (K × V)} (h : es.toList.map (fun e => (e.key, e.val)) = l.map (fun p => (kc p.1, vc p.2))) : Keys eq (kc k) es := fun e hm => by
  have : (e.key, e.val) ∈ es.toList.map (fun e => (e.key, e.val)) := List.mem_map_of_mem hm
  rw [h] at this
  obtain ⟨p, _, hp⟩ := List.mem_map.1 this
  have : kc p.1 = e.key := (Prod.mk.inj hp).1
  exact ⟨_, by rw [← this]; exact he k p.1⟩
theorem w_lookup (he : KeyEq eq kc) (x : MapOf kc vc h b l) {z : V} {k : K} {kk : V × Bool → H → Prop} (y : kk ((alook l k).getD z, (alook l k).isSome) h) : mLookup eq vc z (some b) (kc k) kk h := by
  obtain ⟨es, cl, e, hm, _⟩ := x.ex
  refine ⟨es, cl, e, ents_keys he k hm, ?_⟩
  rw [ents_find he k es.toList l 0 hm]
  unfold alook at y
  cases ha : aidx l k with
  | none => rw [ha] at y; exact y
  | some p => rw [ha] at y; exact ⟨p.2, rfl, y⟩
theorem w_mapSet (he : KeyEq eq kc) (x : MapOf kc vc h b l) {k : K} {v : V} {key val : Value} (hk : key = kc k) (hv : val = vc v) {kk : H → Prop} (y : ∀ h', MapOf kc vc h' b (aset l k v) → But (· = b) h h' → (∀ c, h' c = none → h c = none) → kk h') : mMapSet eq (some b) key val kk h := by
  subst hk; subst hv
  obtain ⟨es, cl, e, hm, hp, hb⟩ := x.ex
  refine ⟨b, es, cl, rfl, e, ents_keys he k hm, ?_⟩
  have hf := ents_find he k es.toList l 0 hm
  have hlen : es.toList.length = l.length := by have := congrArg List.length hm; simpa using this
  cases ha : aidx l k with
  | none =>
    rw [ha] at hf
    have hf : findR eq (kc k) es.toList 0 = none := hf
    rw [hf]
    refine y _ ⟨_, _, upd_same _ _ _, ?_, ?_, ?_⟩ (But.upd rfl) fun c hc => (upd_none.1 hc).2
    · unfold aset; rw [ha]
      simp only [Array.toList_push, List.map_append, hm, List.map_cons, List.map_nil]
    · rw [Array.toList_push, List.map_append, List.nodup_append]
      refine ⟨hp, by simp, fun a ha c hc => ?_⟩
      simp only [List.map_cons, List.map_nil, List.mem_singleton] at hc
      subst hc
      have := hb a ha
      omega
    · intro a ha
      rw [Array.toList_push, List.map_append, List.mem_append] at ha
      rcases ha with q | q
      · have := hb a q; omega
      · simp only [List.map_cons, List.map_nil, List.mem_singleton] at q
        omega
  | some p =>
    obtain ⟨i, w⟩ := p
    rw [ha] at hf
    have hf : findR eq (kc k) es.toList 0 = some (0 + i, vc w) := hf
    rw [Nat.zero_add] at hf
    rw [hf]
    have hi := aidx_some ha
    have hlt := lt_of_get hi
    obtain ⟨e0, h0, hk0⟩ : ∃ e0, es.toList[i]? = some e0 ∧ e0.key = kc k := by
      have hg := congrArg (·[i]?) hm
      simp only [List.getElem?_map, hi, Option.map_some] at hg
      cases h0 : es.toList[i]? with
      | none => rw [h0] at hg; cases hg
      | some e0 => rw [h0] at hg; exact ⟨e0, rfl, (Prod.mk.inj (Option.some.inj hg)).1⟩
    have ha0 : es[i]? = some e0 := by rw [← Array.getElem?_toList]; exact h0
    have hmod : (es.modify i fun e => { e with key := kc k, val := vc v }).toList = es.toList.set i { e0 with key := kc k, val := vc v } := by
      rw [Array.toList_modify]
      apply List.ext_getElem?
      intro j
      rw [List.getElem?_modify, List.getElem?_set]
      by_cases q : i = j
      · subst q
        rw [h0, if_pos rfl, if_pos (by omega)]
        simp
      · rw [if_neg q]; simp [q]
    refine ⟨by rw [ha0]; simp [hk0], y _ ⟨_, _, upd_same _ _ _, ?_, ?_, ?_⟩ (But.upd rfl) fun c hc => (upd_none.1 hc).2⟩
    · unfold aset
      rw [ha, hmod, List.map_set, List.map_set, hm]
    · rw [hmod, List.map_set]
      have : (es.toList.map (·.born)).set i e0.born = es.toList.map (·.born) := set_same (by rw [List.getElem?_map, h0]; rfl)
      rw [this]; exact hp
    · rw [hmod, List.map_set]
      have : (es.toList.map (·.born)).set i e0.born = es.toList.map (·.born) := set_same (by rw [List.getElem?_map, h0]; rfl)
      rw [this]; exact hb
end
section
variable {K V : Type}
def entOf (kc : K → Value) (vc : V → Value) (t : Nat × K × V) : MapEntry := ⟨kc t.2.1, vc t.2.2, t.1⟩
theorem typed (kc : K → Value) (vc : V → Value) : ∀ (es : List MapEntry) (l : List (K × V)), es.map (fun e => (e.key, e.val)) = l.map (fun p => (kc p.1, vc p.2)) → ∃ te : List (Nat × K × V), es = te.map (entOf kc vc) ∧ l = te.map (·.2) := by
  intro es
  induction es with
  | nil =>
    intro l h
    cases l with
    | nil => exact ⟨[], rfl, rfl⟩
    | cons => cases h
  | cons e r ih =>
    intro l h
    cases l with
    | nil => cases h
    | cons p q =>
      rw [List.map_cons, List.map_cons] at h
      injection h with h1 h2
      obtain ⟨te, rfl, rfl⟩ := ih q h2
      refine ⟨(e.born, p) :: te, ?_, rfl⟩
      rw [List.map_cons]
      congr 1
      obtain ⟨ek, ev_, eb⟩ := e
      cases (Prod.mk.inj h1).1
      cases (Prod.mk.inj h1).2
      rfl
structure IterOf (kc : K → Value) (vc : V → Value) (h : H) (it : Addr) (b : Nat) (l rest : List (K × V)) (at_ : Option (K × V)) : Prop where
  ex : ∃ (te : List (Nat × K × V)) (cl : Nat) (seen : Array Nat), it.off = 0 ∧ h it.block = some (.mapIter (some b) cl seen cl) ∧ h b = some (.map (te.map (entOf kc vc)).toArray cl) ∧ l = te.map (·.2) ∧ (te.map (·.1)).Nodup ∧ (∀ t ∈ te, t.1 < cl) ∧
    rest = (te.filter fun t => !seen.contains t.1).map (·.2) ∧ ∀ p, at_ = some p → ∃ t ∈ te, t.2 = p ∧ seen.back? = some t.1
variable {kc : K → Value} {vc : V → Value} {h : H} {b : Nat} {l rest : List (K × V)}
theorem w_range (x : MapOf kc vc h b l) {kk : Addr → H → Prop} (y : ∀ it h', h it.block = none → IterOf kc vc h' it b l l none → Keeps h h' → kk it h') : mRange (some b) kk h := by
  obtain ⟨es, cl, e, hm, hn, hb⟩ := x.ex
  refine ⟨es, cl, e, fun c hc => ?_⟩
  obtain ⟨te, h1, h2⟩ := typed kc vc es.toList l hm
  have hne : b ≠ c := fun q => by subst q; rw [hc] at e; cases e
  refine y _ _ hc ⟨te, cl, #[], rfl, upd_same _ _ _, ?_, h2, ?_, ?_, ?_, fun p q => by cases q⟩ (.new hc)
  · rw [upd_ne _ _ hne, e, ← h1]
  · rw [h1, List.map_map] at hn; exact hn
  · intro t ht
    rw [h1, List.map_map] at hb
    exact hb t.1 (List.mem_map.2 ⟨t, ht, rfl⟩)
  · rw [h2]; congr 1; symm; rw [List.filter_eq_self]; intro t _; simp
theorem filt {t : Nat × K × V} {P : Nat × K × V → Bool} (hP : P t = true) : ∀ te : List (Nat × K × V), (te.map (·.1)).Nodup → t ∈ te → (te.filter P).Perm (t :: te.filter fun u => P u && u.1 != t.1) := by
  intro te
  induction te with
  | nil => intro _ h; cases h
  | cons a r ih =>
    intro hn ht
    rw [List.map_cons, List.nodup_cons] at hn
    rcases List.mem_cons.1 ht with rfl | ht
    · rw [List.filter_cons_of_pos hP, List.filter_cons_of_neg (by simp)]
      refine List.Perm.cons _ (List.Perm.of_eq (List.filter_congr fun u hu => ?_))
      have : u.1 ≠ t.1 := fun e => hn.1 (List.mem_map.2 ⟨u, hu, e⟩)
      simp [this]
    · have hne : a.1 ≠ t.1 := fun e => hn.1 (List.mem_map.2 ⟨t, ht, e.symm⟩)
      have := ih hn.2 ht
      by_cases pa : P a = true
      · rw [List.filter_cons_of_pos pa, List.filter_cons_of_pos (by simp [pa, hne])]
        exact (this.cons a).trans (List.Perm.swap _ _ _)
      · rw [List.filter_cons_of_neg pa, List.filter_cons_of_neg (by simp [pa])]
        exact this
theorem w_next {it : Addr} {o : Option (K × V)} (x : IterOf kc vc h it b l rest o) (hb : it.block ≠ b) {kk : Bool × List Value → H → Prop} (over : rest = [] → kk (false, []) h)
    (more : ∀ p rest' h', rest.Perm (p :: rest') → IterOf kc vc h' it b l rest' (some p) → But (· = it.block) h h' → (∀ c, h' c = none → h c = none) → kk (true, [kc p.1, vc p.2]) h') : mNext it kk h := by
  obtain ⟨te, cl, seen, h0, h1, h2, h3, h4, h5, h6, _⟩ := x.ex
  refine ⟨h0, some b, cl, seen, cl, h1, _, cl, h2, ?_, fun hov => ?_, fun e he hs => ?_⟩
  · cases te with
    | nil => simp
    | cons t r =>
      have := h5 t (List.mem_cons_self ..)
      have hf : ((List.map (entOf kc vc) (t :: r)).toArray.all fun x => decide (x.born ≥ cl)) = false := by
        rw [Array.all_eq_false]
        refine ⟨0, by simp, ?_⟩
        simp [entOf]; exact this
      rw [hf, Bool.and_false]
  · refine over ?_
    rw [h6, List.map_eq_nil_iff, List.filter_eq_nil_iff]
    intro t ht hc
    have hlt := h5 t ht
    rw [Array.isEmpty_iff] at hov
    have : entOf kc vc t ∈ ((List.map (entOf kc vc) te).toArray.filter fun e => !seen.contains e.born).filter (·.born < cl) := by
      simp only [Array.mem_filter, List.mem_toArray]
      exact ⟨⟨List.mem_map.2 ⟨t, ht, rfl⟩, hc⟩, decide_eq_true hlt⟩
    rw [hov] at this
    simp at this
  · have he : e ∈ te.map (entOf kc vc) := by simpa using he
    obtain ⟨t, ht, rfl⟩ := List.mem_map.1 he
    have hP : (!seen.contains t.1) = true := by
      have hs : seen.contains t.1 = false := hs
      rw [hs]; rfl
    have pm := filt (P := fun u => !seen.contains u.1) hP te h4 ht
    refine more t.2 ((te.filter fun u => !(seen.push t.1).contains u.1).map (·.2)) _ ?_ ⟨te, cl, seen.push t.1, h0, upd_same _ _ _, by rw [upd_ne _ _ (Ne.symm hb)]; exact h2, h3, h4, h5, rfl, fun p q => ⟨t, ht, by cases q; rfl, by simp⟩⟩ (But.upd rfl) fun c hc => (upd_none.1 hc).2
    rw [h6]
    have e2 : (te.filter fun u => !(seen.push t.1).contains u.1) = te.filter fun u => !seen.contains u.1 && u.1 != t.1 := by
      refine List.filter_congr fun u _ => ?_
      rw [Array.contains_push]
      cases seen.contains u.1 <;> simp [bne, BEq.comm]
    rw [e2]
    exact pm.map (·.2)
theorem find_born {t : Nat × K × V} : ∀ te : List (Nat × K × V), (te.map (·.1)).Nodup → t ∈ te → (te.map (entOf kc vc)).find? (·.born == t.1) = some (entOf kc vc t) := by
  intro te
  induction te with
  | nil => intro _ h; cases h
  | cons a r ih =>
    intro hn ht
    rw [List.map_cons, List.nodup_cons] at hn
    rcases List.mem_cons.1 ht with rfl | ht
    · rw [List.map_cons, List.find?_cons_of_pos (by simp [entOf])]
    · have hne : a.1 ≠ t.1 := fun e => hn.1 (List.mem_map.2 ⟨t, ht, e.symm⟩)
      rw [List.map_cons, List.find?_cons_of_neg (by simp [entOf, hne])]
      exact ih hn.2 ht
theorem w_entry {it : Addr} {p : K × V} (x : IterOf kc vc h it b l rest (some p)) {kk : K × V → H → Prop} (y : kk p h) : mEntry kc vc it kk h := by
  obtain ⟨te, cl, seen, h0, h1, h2, h3, h4, h5, h6, h7⟩ := x.ex
  obtain ⟨t, ht, rfl, hs⟩ := h7 p rfl
  refine ⟨h0, b, cl, seen, t.1, _, cl, entOf kc vc t, t.2.1, t.2.2, h1, hs, h2, ?_, rfl, rfl, y⟩
  rw [List.find?_toArray]
  exact find_born te h4 ht
variable [DecidableEq K]
theorem aidx_cons (a : K) (w : V) (r : List (K × V)) (k : K) : aidx ((a, w) :: r) k = if k = a then some (0, w) else (aidx r k).map fun p => (p.1 + 1, p.2) := rfl
theorem aset_cons (a : K) (w : V) (r : List (K × V)) (k : K) (v : V) : aset ((a, w) :: r) k v = if k = a then (k, v) :: r else (a, w) :: aset r k v := by
  unfold aset
  rw [aidx_cons]
  by_cases e : k = a
  · rw [if_pos e, if_pos e]; rfl
  · rw [if_neg e, if_neg e]
    cases aidx r k <;> rfl
theorem adel_cons (a : K) (w : V) (r : List (K × V)) (k : K) : adel ((a, w) :: r) k = if k = a then r else (a, w) :: adel r k := by
  unfold adel
  rw [aidx_cons]
  by_cases e : k = a
  · rw [if_pos e, if_pos e]; rfl
  · rw [if_neg e, if_neg e]
    cases aidx r k <;> rfl
theorem alook_cons (a : K) (w : V) (r : List (K × V)) (k : K) : alook ((a, w) :: r) k = if k = a then some w else alook r k := by
  unfold alook
  rw [aidx_cons]
  by_cases e : k = a
  · rw [if_pos e, if_pos e]; rfl
  · rw [if_neg e, if_neg e]
    cases aidx r k <;> rfl
theorem alook_set (k k' : K) (v : V) : ∀ l : List (K × V), alook (aset l k v) k' = if k' = k then some v else alook l k' := by
  intro l
  induction l with
  | nil => exact alook_cons k v [] k'
  | cons p r ih =>
    obtain ⟨a, w⟩ := p
    rw [aset_cons, alook_cons]
    by_cases e : k = a
    · rw [if_pos e, alook_cons, e]
      by_cases q : k' = a
      · rw [if_pos q, if_pos q]
      · rw [if_neg q, if_neg q, if_neg q]
    · rw [if_neg e, alook_cons, ih]
      by_cases q : k' = a
      · rw [if_pos q, if_neg (show ¬ k' = k from fun z => e (z.symm.trans q)), if_pos q]
      · rw [if_neg q, if_neg q]
def Once (l : List (K × V)) : Prop := (l.map (·.1)).Nodup
theorem aset_keys (k : K) (v : V) : ∀ (l : List (K × V)) (x : K), x ∈ (aset l k v).map (·.1) ↔ x = k ∨ x ∈ l.map (·.1) := by
  intro l
  induction l with
  | nil => intro x; simp [aset, aidx]
  | cons p r ih =>
    obtain ⟨a, w⟩ := p
    intro x
    rw [aset_cons]
    by_cases e : k = a
    · rw [if_pos e]; subst e; simp
    · rw [if_neg e, List.map_cons, List.mem_cons, ih, List.map_cons, List.mem_cons]
      constructor
      · rintro (q | q | q)
        · exact .inr (.inl q)
        · exact .inl q
        · exact .inr (.inr q)
      · rintro (q | q | q)
        · exact .inr (.inl q)
        · exact .inl q
        · exact .inr (.inr q)
theorem Once.set {l : List (K × V)} (x : Once l) (k : K) (v : V) : Once (aset l k v) := by
  unfold Once at *
  induction l with
  | nil => simp [aset, aidx]
  | cons p r ih =>
    obtain ⟨a, w⟩ := p
    rw [List.map_cons, List.nodup_cons] at x
    rw [aset_cons]
    by_cases e : k = a
    · rw [if_pos e]; subst e; rw [List.map_cons, List.nodup_cons]; exact x
    · rw [if_neg e, List.map_cons, List.nodup_cons]
      refine ⟨fun q => ?_, ih x.2⟩
      rcases (aset_keys k v r a).1 q with q | q
      · exact e q.symm
      · exact x.1 q
end
theorem Buf.has {V : Type} {h : H} {cells : V → List Value} {sz : Nat} {e : TypeId} {s : Sl} {xs : List V} (x : Buf cells sz e h s xs) {c : Nat} (f : s.foot c) : h c ≠ none := by
  obtain ⟨a, ha, rfl⟩ := f
  rcases x.at_ with ⟨q, _⟩ | ⟨b, z, fz, q, hb, _⟩
  · rw [q] at ha; cases ha
  · rw [q] at ha; cases ha; rw [hb]; simp
theorem w_field {T T' : Type} {cells : T → List Value} {cells' : T' → List Value} {sz : Nat} (hs : ∀ x, (cells x).length = sz) {h : H} {s : Sl} {xs : List T} (x : Arr cells h s xs) {i : Nat} {v : T} (e : xs[i]? = some v) {j : Int} (hj : j = i) {v' : T'} {l1 l3 : List Value} {n : Nat} (hc : cells v = l1 ++ cells' v' ++ l3) (hn : l1.length = n) {k : T' → H → Prop}
    (y : k v' h) : mIdx s j sz (fun a => mLoad cells' (a.add n) k) h := by
  refine w_idx hs x e hj fun a _ ha => w_load (v := v') ?_ y
  rw [hc] at ha
  exact ha.sub hn
def Typed (h : H) (e : TypeId) (c : Nat) : Prop := ∃ cs fz, h c = some (.cells cs e fz)
theorem Typed.ne {h : H} {e e' : TypeId} {c d : Nat} (x : Typed h e c) (y : Typed h e' d) (n : e ≠ e') : c ≠ d := fun q => by
  subst q
  obtain ⟨_, _, a⟩ := x
  obtain ⟨_, _, b⟩ := y
  rw [a] at b; cases b; exact n rfl
theorem Typed.of {h : H} {e : TypeId} {c : Nat} {cs : Array Value} {fz : Nat × Nat} (x : h c = some (.cells cs e fz)) : Typed h e c := ⟨_, _, x⟩
theorem Typed.has {h : H} {e : TypeId} {c : Nat} (x : Typed h e c) : h c ≠ none := by
  obtain ⟨_, _, a⟩ := x; rw [a]; simp
theorem Buf.typed {V : Type} {h : H} {cells : V → List Value} {sz : Nat} {e : TypeId} {s : Sl} {xs : List V} (x : Buf cells sz e h s xs) {c : Nat} (f : s.foot c) : Typed h e c := by
  obtain ⟨a, ha, rfl⟩ := f
  rcases x.at_ with ⟨q, _⟩ | ⟨b, z, fz, q, hb, _⟩
  · rw [q] at ha; cases ha
  · rw [q] at ha; cases ha; exact ⟨_, _, hb⟩
theorem MapOf.untyped {K V : Type} {kc : K → Value} {vc : V → Value} {h : H} {b : Nat} {l : List (K × V)} (x : MapOf kc vc h b l) {e : TypeId} {c : Nat} (y : Typed h e c) : c ≠ b := fun q => by
  subst q
  obtain ⟨_, _, a, _⟩ := x.ex
  obtain ⟨_, _, b⟩ := y
  rw [a] at b; cases b
theorem w_mid {T : Type} {cells : T → List Value} {sz : Nat} (hs : ∀ x, (cells x).length = sz) {h : H} {s : Sl} {xs : List T} (x : Arr cells h s xs) {lo hi : Nat} (h1 : lo ≤ hi) (h2 : hi ≤ xs.length) {i j : Int} (ei : i = lo) (ej : j = hi) {k : Sl → H → Prop}
    (y : ∀ s', Arr cells h s' ((xs.drop lo).take (hi - lo)) → (∀ b, s'.foot b → s.foot b) → s'.len = hi - lo → s'.cap = s.cap - lo → k s' h) : mCut s i j sz k h := by
  have hl := x.len
  have hc := x.cap
  refine w_cut ei ej h1 (by omega) (y _ ⟨?_, ?_, fun hne => ?_⟩ (fun b ⟨a, ha, e⟩ => ?_) rfl rfl)
  · show hi - lo = _; rw [List.length_take, List.length_drop]; omega
  · show hi - lo ≤ s.cap - lo; omega
  · have hlt : lo < hi := by
      rcases Nat.lt_or_ge lo hi with q | q
      · exact q
      · exact absurd (by rw [show hi - lo = 0 by omega, List.take_zero]) hne
    obtain ⟨a, ha, q⟩ := x.at_ (fun e => by rw [e] at h2; simp at h2; omega)
    refine ⟨a.add (lo * sz), ?_, ?_⟩
    · show (if s.cap = lo then s.a else s.a.map (·.add (lo * sz))) = _
      rw [if_neg (by omega), ha]; rfl
    · have e : xs = xs.take lo ++ (xs.drop lo).take (hi - lo) ++ (xs.drop lo).drop (hi - lo) := by rw [List.append_assoc, List.take_append_drop, List.take_append_drop]
      rw [e, flat_append, flat_append] at q
      exact q.sub (by rw [flat_len hs, List.length_take, Nat.min_eq_left (by omega)])
  · have ha : (if s.cap = lo then s.a else s.a.map (·.add (lo * sz))) = some a := ha
    split at ha
    · exact ⟨a, ha, e⟩
    · cases hsa : s.a with
      | none => rw [hsa] at ha; cases ha
      | some a0 => rw [hsa] at ha; cases ha; exact ⟨a0, hsa, by rw [← e, add_block]⟩
inductive It : Type 1
  | slot (t : Nat) (τ : Ty)
  | cell (i j : Nat) (τ : Ty)
def It.ty : It → Ty
  | .slot _ τ => τ
  | .cell _ _ τ => τ
def tysI : List It → List Ty
  | [] => []
  | a :: r => a.ty :: tysI r
def getI (st : St) : List It → List SV
  | [] => []
  | .slot t _ :: r => st.σ t :: getI st r
  | .cell i j _ :: r => (match findB st.bx i with | some e => (match e.cells[j]? with | some (some v) => .v v | _ => .no) | none => .no) :: getI st r
def slotI : List It → List SV → T → T
  | .slot t _ :: r, s :: ss, u => slotI r ss (T.set deep u t s)
  | .cell .. :: r, _ :: ss, u => slotI r ss u
  | _, _, u => u
def cellI : List It → List SV → Nat → Nat → Option Value
  | .cell i j _ :: r, s :: ss, a, b => bif Nat.beq a i && Nat.beq b j then valOf? s else cellI r ss a b
  | .slot .. :: r, _ :: ss, a, b => cellI r ss a b
  | _, _, _, _ => none
abbrev DenI (its : List It) := Den (tysI its)
def freshB (its : List It) (ss : List SV) (e : Bx) (dirty : Bool) : Bx := ⟨e.key, e.ty, (List.range e.cells.length).map fun j => cellI its ss e.key j, dirty⟩
def encB (its : List It) (M : List Nat) (ss : List SV) : List Bx → List Bx
  | [] => []
  | e :: r => (match memB M e.key with | true => freshB its ss e true | false => e) :: encB its M ss r
def clean : List Bx → List Bx
  | [] => []
  | e :: r => ⟨e.key, e.ty, e.cells, false⟩ :: clean r
def backB (l : List Bx) : List Bx → List Bx
  | [] => []
  | e :: r => ⟨e.key, e.ty, e.cells, e.dirty || (match findB l e.key with | some x => x.dirty | none => false)⟩ :: backB l r
def stayed (M : List Nat) (l' : List Bx) : List Bx → Bool
  | [] => true
  | e :: r => (memB M e.key || match findB l' e.key with | some x => !x.dirty | none => false) && stayed M l' r
def encS (its : List It) (D : Nat → Bool) (M : List Nat) (s : DenI its) (st : St) : St := ⟨slotI its (svsD (tysI its) s) (st.tr.keep D), encB its M (svsD (tysI its) s) st.bx⟩
def inS (st : St) : St := ⟨st.tr, clean st.bx⟩
def backS (st st' : St) : St := ⟨st'.tr, backB st.bx st'.bx⟩
def meet (its : List It) (M : List Nat) (l : List Bx) (j : DenI its → HP) (st' : St) : HP := match decs (tysI its) (getI st' its), stayed M st'.bx l with
  | some s, true => j s
  | _, _ => nope
inductive Wh
  | seq (l : List Nat)
  | any (listed : Array Bool) (fuel : Nat)
  | part (listed : Array Bool) (fuel : Nat) (c : List Nat)
def bPart (P : Program) (ops : Array Oper) (next : Post) (fuel : Nat) (listed : Array Bool) (c : List Nat) : Post := fun ρ L h => Bdd (un L h) → Apart L h →
  ∀ i ∈ Region.ready .any ops listed, memB c i = false → aOpI P ops noP i (aAny P ops next noP fuel (listed.setIfInBounds i true)) ρ L h
def Goal (P : Program) (ops : Array Oper) (next : Post) : Wh → Post
  | .seq l => aOps P ops next noP l
  | .any listed fuel => bAny P ops next noP fuel listed
  | .part listed fuel c => bPart P ops next fuel listed c
def Wh.same : Wh → Wh → Bool
  | .seq l, .seq m => Nat.beq l.length m.length && l == m
  | .any l n, .any m k => Nat.beq n k && l.toList == m.toList
  | _, _ => false
def adv : Wh → Nat → Wh
  | .seq (_ :: r), _ => .seq r
  | .seq [], _ => .seq []
  | .any l n, i => .any (l.setIfInBounds i true) (n - 1)
  | .part l n _, i => .any (l.setIfInBounds i true) n
def skip : Wh → Nat → Wh
  | .seq l, _ => .seq l
  | .any l n, i => .part l (n - 1) [i]
  | .part l n c, i => .part l n (i :: c)
def may (P : Program) (ops : Array Oper) (w : Wh) (i how : Nat) : Bool := match w with
  | .seq (j :: _) => Nat.beq i j
  | .seq [] => false
  | .any _ 0 => false
  | .any listed (f + 1) => match how with
    | 3 => Region.ready .any ops listed == [i]
    | m => Nat.ble m 2 && Region.noSelect ops && free P ops listed i m && fewB listed (f + 1)
  | .part .. => false
def may2 (ops : Array Oper) (w : Wh) (i j : Nat) : Bool := match w with
  | .any listed (_ + 1) => Region.ready .any ops listed == [i, j]
  | .part listed _ c => (Region.ready .any ops listed).filter (fun x => !memB c x) == [i, j]
  | _ => false
def mayA (ops : Array Oper) (w : Wh) : Bool := match w with
  | .any listed (_ + 1) => !(Region.ready .any ops listed).isEmpty
  | .part .. => true
  | _ => false
def fin (ops : Array Oper) : Wh → Bool
  | .seq l => l.isEmpty
  | .any listed _ => (Region.ready .any ops listed).isEmpty
  | .part .. => false
def how' : Wh → Nat → Nat
  | .seq _, _ => 3
  | _, n => n
def wantS (ops : Array Oper) (st : St) (o : Oper) : Option Bool := match o.guard with
  | none => some true
  | some (j, b) => match ops.toList[j]? with
    | some oj => match oj.dst with
      | some d => match st.σ d with | .v (.bool c) => some (bif c then b else !b) | .v (.tuple _) => some false | _ => none
      | none => none
    | none => none
inductive Plan : Type 1
  | nil
  | run (l : List Nat) (p : Plan)
  | split (g : Nat) (p q : Plan)
  | join (its : List It) (D : Nat) (M : List Nat) (p q : Plan)
  | sel (g d D : Nat) (p p' q : Plan)
  | both (i j : Nat) (p q : Plan)
  | alt (i : Nat) (p q : Plan)
section
variable {P : Program} (X : Cx P) (ops : Array Oper)
def opS (st : St) (i how : Nat) (k : St → HP) : HP := match ops.toList[i]? with
  | some o => match wantS ops st o with
    | some true => run how (effOf P X st o) o.dst st k
    | some false => match Nat.beq how 0 || Nat.beq how 3 with
      | true => k (st.put o.dst (.v undef))
      | false => nope
    | none => nope
  | none => nope
def wpL : List Nat → Wh → St → (Wh → St → HP) → HP
  | [], w, st, k => k w st
  | n :: r, w, st, k => match may P ops w (n / 4) (n % 4) with
    | true => opS X ops st (n / 4) (how' w (n % 4)) fun st' => wpL r (adv w (n / 4)) st' k
    | false => nope
def opP (st : St) (i how : Nat) : Option St := match ops.toList[i]? with
  | some o => match wantS ops st o with
    | some true => match effOf P X st o with
      | .ret s => some (st.put o.dst s)
      | .own s => (match how with | 0 => none | _ => some (st.put o.dst s))
      | _ => none
    | some false => match how with
      | 0 | 3 => some (st.put o.dst (.v undef))
      | _ => none
    | none => none
  | none => none
def prL : List Nat → Wh → St → Option (Wh × St)
  | [], w, st => some (w, st)
  | n :: r, w, st => match may P ops w (n / 4) (n % 4) with
    | true => match opP X ops st (n / 4) (how' w (n % 4)) with
      | some st' => prL r (adv w (n / 4)) st'
      | none => none
    | false => none
def selS (g d : Nat) (D : Nat → Bool) (st : St) (a b : St → Option (Wh × St)) : Option (Wh × St) := match st.σ g with
  | .v (.bool c) => match a (st.put (some g) (.v (.bool true))), b (st.put (some g) (.v (.bool false))) with
    | some (w1, s1), some (w2, s2) => match w1.same w2, s1.σ d, s2.σ d with
      | true, .v (.bool x), .v (.bool y) => some (w1, ⟨T.set deep (st.tr.keep D) d (.v (.bool (bif c then x else y))), st.bx⟩)
      | _, _, _ => none
    | _, _ => none
  | _ => none
def dIn (D : Nat → Bool) (i : Nat) : Bool := match ops.toList[i]? with | some o => dstIn D o | none => true
def inD (D : Nat → Bool) : Plan → Bool
  | .nil => true
  | .run l p => l.all (fun n => dIn ops D (n / 4)) && inD D p
  | .split _ p q => inD D p && inD D q
  | .join _ _ _ p q => inD D p && inD D q
  | .sel _ _ _ p p' q => inD D p && inD D p' && inD D q
  | .both i j p q => dIn ops D i && dIn ops D j && inD D p && inD D q
  | .alt i p q => dIn ops D i && inD D p && inD D q
def pr : Plan → Wh → St → Option (Wh × St)
  | .nil, w, st => some (w, st)
  | .run l p, w, st => match prL X ops l w st with | some (w', st') => pr p w' st' | none => none
  | .sel g d D p p' q, w, st => match inD ops (Nat.testBit D) p && inD ops (Nat.testBit D) p' with
    | true => match selS g d (Nat.testBit D) st (pr p w) (pr p' w) with | some (w', st') => pr q w' st' | none => none
    | false => none
  | _, _, _ => none
def aft : Plan → Wh → Wh
  | .nil, w => w
  | .run l p, w => aft p (l.foldl (fun w n => adv w (n / 4)) w)
  | .split _ p _, w => aft p w
  | .join _ _ _ p q, w => aft q (aft p w)
  | .sel _ _ _ p _ q, w => aft q (aft p w)
  | .both i _ p _, w => aft p (adv w i)
  | .alt i p _, w => aft p (adv w i)
def wpP : Plan → Wh → St → (Wh → St → HP) → HP
  | .nil, w, st, k => k w st
  | .run l p, w, st, k => wpL X ops l w st fun w' st' => wpP p w' st' k
  | .split g p q, w, st, k => match st.σ g with
    | .v (.bool c) => mIf c (wpP p w (st.put (some g) (.v (.bool true))) k) (wpP q w (st.put (some g) (.v (.bool false))) k)
    | _ => nope
  | .join its D M p q, w, st, k => match inD ops (Nat.testBit D) p with
    | true => mJoin (fun s : DenI its => wpP q (aft p w) (encS its (Nat.testBit D) M s st) k) fun j =>
      wpP p w (inS st) fun w' st' => match w'.same (aft p w) with | true => meet its M st.bx j st' | false => nope
    | false => nope
  | .sel g d D p p' q, w, st, k => match inD ops (Nat.testBit D) p && inD ops (Nat.testBit D) p' with
    | true => match selS g d (Nat.testBit D) st (pr X ops p w) (pr X ops p' w) with | some (w', st') => wpP q w' st' k | none => nope
    | false => nope
  | .both i j p q, w, st, k => match may2 ops w i j with
    | true => mBoth (opS X ops st i 3 fun st' => wpP p (adv w i) st' k) (opS X ops st j 3 fun st' => wpP q (adv w j) st' k)
    | false => nope
  | .alt i p q, w, st, k => match mayA ops w with
    | true => mBoth (opS X ops st i 3 fun st' => wpP p (adv w i) st' k) (wpP q (skip w i) st k)
    | false => nope
end
inductive Hint : Type 1
  | d
  | reg (p : Plan)
  | seq (a b : Hint)
  | join (its : List It) (D : Nat) (M : List Nat) (a b : Hint)
  | cond (a b : Hint)
  | known (a b : Hint)
  | blk (a : Hint)
  | loop (its : List It) (D : Nat) (M : List Nat) (a : Hint)
  | rng (A : List Ty) (xs : List Nat) (rt : Bool) (a b : Hint)
  | jmp (its : List It) (D : Nat) (M : List Nat) (a b : Hint)
def autoP (n : Nat) : Plan := .run ((List.range n).map fun i => 4 * i + 3) .nil
def Hint.plan (n : Nat) : Hint → Plan
  | .reg p => p
  | _ => autoP n
def Hint.one : Hint → Hint
  | .seq a _ | .cond a _ | .known a _ | .blk a => a
  | _ => .d
def Hint.two : Hint → Hint
  | .seq _ b | .cond _ b | .known _ b => b
  | _ => .d
def setA : List Tmp → List SV → St → St
  | p :: ps, s :: ss, st => setA ps ss (st.put (some p) s)
  | _, _, st => st
def outX (Q : Exit → HP) (j : Nat) : List Nat → HP
  | [] => nope
  | id :: r => mIf (Nat.beq j (id + 2)) (Q (.exit id)) (outX Q j r)
def outK (xs : List Nat) (rt : Bool) (Q : Exit → HP) (j : Nat) : HP := mIf (Nat.beq j 0) (Q .normal) (match rt with | true => mIf (Nat.beq j 1) (Q .ret) (outX Q j xs) | false => outX Q j xs)
def wpc {P : Program} (X : Cx P) (n : Nat) : Code → Bool → Hint → (Exit → St → HP) → St → HP
  | .skip, _, _, Q, st => Q .normal st
  | .label _, _, _, Q, st => Q .normal st
  | .ret, _, _, Q, st => Q .ret st
  | .exit id, _, _, Q, st => Q (.exit id) st
  | .region _ ops dr, _, hint, Q, st => match fits n ops with
    | true => wpP X ops (hint.plan ops.size) (match dr with | true => .any (Array.replicate ops.size false) ops.size | false => .seq (List.range ops.size)) st
      fun w st' => match fin ops w with | true => Q .normal st' | false => nope
    | false => nope
  | .block id a, top, hint, Q, st => wpc X n a top hint.one (fun e st' => match e with | .exit id' => (match Nat.beq id' id with | true => Q .normal st' | false => Q (.exit id') st') | e => Q e st') st
  | .goto l, _, _, Q, st => Q (.goto l) st
  | .scope a, top, hint, Q, st => match hint with
    | .jmp its D M hp hb => (match a with
      | .seq pre (.seq (.label l) b) => (match (findLabel pre l).isNone, dstsIn (Nat.testBit D) b with
        | true, true => wpc X n pre top hp (fun e st1 => match e with
            | .normal => (match decs (tysI its) (getI (inS st1) its) with
              | some s0 => mLoop (fun (rec : DenI its → HP) (s : DenI its) =>
                  wpc X n b top hb (fun e st' => match e with
                    | .goto l' => (match Nat.beq l' l with | true => meet its M (inS st1).bx rec st' | false => nope)
                    | e => Q e (backS st1 st')) (encS its (Nat.testBit D) M s (inS st1))) s0
              | none => nope)
            | .goto _ => nope
            | e => Q e st1) st
        | _, _ => nope)
      | _ => nope)
    | hint => wpc X n a top hint.one (fun e st' => match e with | .goto _ => nope | e => Q e st') st
  | .cond c a b, top, hint, Q, st => match sv st c with
    | .v (.bool t) => (match hint with
      | .known ha hb => (match t with | true => wpc X n a top ha Q st | false => wpc X n b top hb Q st)
      | hint => mIf t (wpc X n a top hint.one Q st) (wpc X n b top hint.two Q st))
    | _ => nope
  | .seq a b, top, hint, Q, st => match hint with
    | .join its D M ha hb => (match dstsIn (Nat.testBit D) a with
      | true => mJoin (fun s : DenI its => wpc X n b top hb Q (encS its (Nat.testBit D) M s st)) fun j =>
        wpc X n a top ha (fun e st' => match e with | .normal => meet its M st.bx j st' | e => Q e (backS st st')) (inS st)
      | false => nope)
    | hint => wpc X n a top hint.one (fun e st' => match e with | .normal => wpc X n b top hint.two Q st' | e => Q e st') st
  | .loop a, top, hint, Q, st => match hint with
    | .loop its D M ha => (match dstsIn (Nat.testBit D) a, decs (tysI its) (getI (inS st) its) with
      | true, some s0 => mLoop (fun (rec : DenI its → HP) (s : DenI its) =>
        wpc X n a top ha (fun e st' => match e with | .normal => meet its M (inS st).bx rec st' | e => Q e (backS st st')) (encS its (Nat.testBit D) M s (inS st))) s0
      | _, _ => nope)
    | _ => nope
  | .rangeFunc g ps as_ bd, top, hint, Q, st => match top, hint, valOf? (sv st g), ps.toList.all fun p => Nat.blt p n with
    | true, .rng A xs rt ha hb, some fv, true => (match Nat.beq A.length ps.size with
      | true => mRangeF P (valsD A) fv (fun (x : Den A) mid kj =>
          wpc X n as_ false ha (fun e st1 => match e with
            | .normal => mid (wpc X n bd false hb (fun e _ => match e with | .normal => kj 0 | .ret => kj 1 | .exit id => kj (id + 2) | _ => nope) st1)
            | _ => nope) (setA ps.toList (svsD A x) ⟨st.tr, []⟩)) (outK xs rt fun e => Q e st)
      | false => nope)
    | _, _, _, _ => nope
  | _, _, _, _, _ => nope
def resM {P : Program} (X : Cx P) (st : St) : List ResultVar → (List SV → HP) → HP
  | [], k => k []
  | .tmp t :: r, k => resM X st r fun l => k (st.σ t :: l)
  | .cell a t :: r, k => match st.σ a with
    | .box i off => (match findB st.bx i, P.underlying t, P.info? t with
      | some e, some td, some ti => (match aggB td with
        | true => (match grabO e.cells off ti.size with | some vs => resM X st r fun l => k (.v (.agg vs.toArray) :: l) | none => nope)
        | false => (match grabO e.cells off 1 with | some [v] => resM X st r fun l => k (.v v :: l) | _ => nope))
      | _, _, _ => nope)
    | .adr ad => (match tyOf X.ty t with
      | some τ => (match tyOk P t τ with | true => mLoad τ.cells ad fun x => resM X st r fun l => k (τ.sv x :: l) | false => nope)
      | none => nope)
    | _ => nope
def argG : List SV → Nat → T → T
  | [], _, t => t
  | s :: r, n, t => argG r (n + 1) (T.set deep t n s)
def wpF {P : Program} (X : Cx P) (fn : Func) (A R : List Ty) (hint : Hint) (a : Den A) (K : Den R → HP) : HP := match fn.body with
  | some c => wpc X fn.ntmps c true hint (fun e st => match e with
    | .normal | .ret => resM X st fn.results.toList fun l => match decs R l with | some r => K r | none => nope
    | _ => nope) ⟨argG (svsD A a) 0 .e, []⟩
  | none => nope
theorem findB_none : ∀ {l : List Bx} {i : Nat}, findB l i = none → ¬ InK l i := by
  intro l
  induction l with
  | nil => rintro i _ ⟨e, he, _⟩; cases he
  | cons x r ih =>
    intro i h ⟨e, he, hk⟩
    simp only [findB] at h
    cases hb : Nat.beq x.key i <;> rw [hb] at h
    · rcases List.mem_cons.1 he with rfl | he
      · rw [hk, Nat.beq_refl] at hb; cases hb
      · exact ih h ⟨e, he, hk⟩
    · cases h
theorem findB_mem : ∀ {l : List Bx} {e : Bx}, (l.map Bx.key).Nodup → e ∈ l → findB l e.key = some e := by
  intro l
  induction l with
  | nil => intro e _ h; cases h
  | cons x r ih =>
    intro e nd h
    simp only [List.map_cons, List.nodup_cons] at nd
    simp only [findB]
    rcases List.mem_cons.1 h with rfl | h
    · rw [Nat.beq_refl]; rfl
    · have : Nat.beq x.key e.key = false := by
        rw [← Bool.not_eq_true, Nat.beq_eq]
        exact fun q => nd.1 (by rw [q]; exact List.mem_map.2 ⟨e, h, rfl⟩)
      rw [this]; exact ih nd.2 h
theorem key_uniq {l : List Bx} (nd : (l.map Bx.key).Nodup) {e e' : Bx} (h : e ∈ l) (h' : e' ∈ l) (k : e.key = e'.key) : e = e' := by
  have h1 := findB_mem nd h
  rw [k, findB_mem nd h'] at h1
  exact (Option.some.inj h1).symm
theorem setB_keys : ∀ (l : List Bx) (i : Nat) (c : List (Option Value)), (setB l i c).map Bx.key = l.map Bx.key := by
  intro l
  induction l with
  | nil => intro i c; rfl
  | cons x r ih =>
    intro i c
    simp only [setB]
    cases Nat.beq x.key i
    · simp only [cond_false, List.map_cons, ih]
    · rfl
theorem setB_mem : ∀ {l : List Bx} {i : Nat} {c : List (Option Value)} {x : Bx}, (l.map Bx.key).Nodup → x ∈ setB l i c → (x ∈ l ∧ x.key ≠ i) ∨ ∃ e, e ∈ l ∧ e.key = i ∧ x = ⟨e.key, e.ty, c, true⟩ := by
  intro l
  induction l with
  | nil => intro i c x _ h; cases h
  | cons y r ih =>
    intro i c x nd h
    simp only [List.map_cons, List.nodup_cons] at nd
    simp only [setB] at h
    cases hb : Nat.beq y.key i <;> rw [hb] at h
    · have hne : y.key ≠ i := fun e => by rw [← Nat.beq_eq, hb] at e; cases e
      rcases List.mem_cons.1 h with rfl | h
      · exact .inl ⟨List.mem_cons_self .., hne⟩
      · rcases ih nd.2 h with ⟨h1, h2⟩ | ⟨e, h1, h2, h3⟩
        · exact .inl ⟨List.mem_cons_of_mem _ h1, h2⟩
        · exact .inr ⟨e, List.mem_cons_of_mem _ h1, h2, h3⟩
    · rw [Nat.beq_eq] at hb
      rcases List.mem_cons.1 h with rfl | h
      · exact .inr ⟨y, List.mem_cons_self .., hb, rfl⟩
      · refine .inl ⟨List.mem_cons_of_mem _ h, fun e => nd.1 ?_⟩
        rw [hb, ← e]; exact List.mem_map.2 ⟨x, h, rfl⟩
theorem setB_has : ∀ {l : List Bx} {i : Nat} {c : List (Option Value)} {e : Bx}, e ∈ l → (e ∈ setB l i c) ∨ (e.key = i ∧ ⟨e.key, e.ty, c, true⟩ ∈ setB l i c) := by
  intro l
  induction l with
  | nil => intro i c e h; cases h
  | cons y r ih =>
    intro i c e h
    simp only [setB]
    cases hb : Nat.beq y.key i
    · rcases List.mem_cons.1 h with rfl | h
      · exact .inl (List.mem_cons_self ..)
      · exact (ih h).imp (List.mem_cons_of_mem _) fun q => ⟨q.1, List.mem_cons_of_mem _ q.2⟩
    · rcases List.mem_cons.1 h with rfl | h
      · rw [Nat.beq_eq] at hb; exact .inr ⟨hb, List.mem_cons_self ..⟩
      · exact .inl (List.mem_cons_of_mem _ h)
theorem ink_keys {l l' : List Bx} (h : l'.map Bx.key = l.map Bx.key) {i : Nat} : InK l' i ↔ InK l i := by
  have key : ∀ {a b : List Bx}, a.map Bx.key = b.map Bx.key → InK a i → InK b i := fun {a b} h ⟨e, he, hk⟩ => by
    have : i ∈ b.map Bx.key := by rw [← h, ← hk]; exact List.mem_map.2 ⟨e, he, rfl⟩
    obtain ⟨e', he', hk'⟩ := List.mem_map.1 this
    exact ⟨e', he', hk'⟩
  exact ⟨key h, key h.symm⟩
structure Tr (β : Nat → Nat) (st : St) (β' : Nat → Nat) (st' : St) : Prop where
  agree : ∀ i, InK st.bx i → β' i = β i
  has : ∀ e, e ∈ st.bx → ∃ e', e' ∈ st'.bx ∧ e'.key = e.key ∧ e'.ty = e.ty ∧ e'.cells.length = e.cells.length ∧ (e'.dirty = false → e.dirty = false ∧ e'.cells = e.cells)
theorem Tr.refl (β : Nat → Nat) (st : St) : Tr β st β st := ⟨fun _ _ => rfl, fun e h => ⟨e, h, rfl, rfl, rfl, fun d => ⟨d, rfl⟩⟩⟩
theorem Tr.ink {β β' : Nat → Nat} {st st' : St} (t : Tr β st β' st') {i : Nat} (h : InK st.bx i) : InK st'.bx i := by
  obtain ⟨e, he, rfl⟩ := h
  obtain ⟨e', h1, h2, _⟩ := t.has e he
  exact ⟨e', h1, h2⟩
theorem Tr.trans {β β1 β2 : Nat → Nat} {st st1 st2 : St} (x : Tr β st β1 st1) (y : Tr β1 st1 β2 st2) : Tr β st β2 st2 := ⟨fun i h => (y.agree i (x.ink h)).trans (x.agree i h), fun e h => by
  obtain ⟨e1, h1, a1, b1, c1, d1⟩ := x.has e h
  obtain ⟨e2, h2, a2, b2, c2, d2⟩ := y.has e1 h1
  refine ⟨e2, h2, a2.trans a1, b2.trans b1, c2.trans c1, fun d => ?_⟩
  obtain ⟨p, q⟩ := d2 d
  obtain ⟨p', q'⟩ := d1 p
  exact ⟨p', q.trans q'⟩⟩
theorem put_bx (st : St) (d : Option Tmp) (s : SV) : (st.put d s).bx = st.bx := by cases d <;> rfl
theorem Tr.put (β : Nat → Nat) (st : St) (d : Option Tmp) (s : SV) : Tr β st β (st.put d s) := ⟨fun _ _ => rfl, fun e h => ⟨e, by rw [put_bx]; exact h, rfl, rfl, rfl, fun d => ⟨d, rfl⟩⟩⟩
theorem put_other (ρ : Env) (d : Option Tmp) (v : Value) (t : Nat) (h : d ≠ some t) : put ρ d v t = ρ t := by
  cases d with
  | none => rfl
  | some d =>
    have : Nat.beq t d = false := by rw [← Bool.not_eq_true, Nat.beq_eq]; exact fun e => h (by rw [e])
    simp only [K.put, this, cond_false]
theorem put_self (ρ : Env) (d : Nat) (v : Value) : put ρ (some d) v d = v := by simp only [K.put, Nat.beq_refl, cond_true]
section steps
variable {P : Program} {X : Cx P} {β : Nat → Nat} {st : St} {ρ : Env} {L : H}
theorem Ok.put (k : Ok β st ρ L) {v : Value} {s : SV} (r : Rel st.bx β v s) (d : Option Tmp) : Ok β (st.put d s) (put ρ d v) L := by
  cases d with
  | none => exact k
  | some d =>
    refine ⟨fun t => ?_, k.boxes, k.inj, k.nd⟩
    show Rel st.bx β (K.put ρ (some d) v t) ((T.set deep st.tr d s).get t)
    rcases T.get_set deep st.tr d s t with q | ⟨rfl, q⟩ | ⟨h, q⟩
    · rw [q]; trivial
    · rw [q, put_self]; exact r
    · rw [q, put_other _ _ _ _ (fun e => h (Option.some.inj e).symm)]; exact k.slots t
theorem run_step {o : Oper} {e : Eff} {how : Nat} {k : St → HP} {h : H} {next : Post} (ok : Ok β st ρ L) (eo : EffOk P o β st ρ L e) (r : run how e o.dst st k h)
    (hn : ∀ β' st' ρ' L' h', Tr β st β' st' → Ok β' st' ρ' L' → (∀ t, o.dst ≠ some t → ρ' t = ρ t) → k st' h' → next ρ' L' h') : aOp P o ρ L h next noP := by
  cases e with
  | bad => exact r.elim
  | ret s =>
    obtain ⟨v, hr, y⟩ := eo
    exact y L h next noP (hn β _ _ L h (.put ..) (ok.put hr _) (fun t ht => put_other _ _ _ _ ht) r)
  | own s =>
    obtain ⟨v, hr, y⟩ := eo
    cases how with
    | zero => exact r.elim
    | succ n => exact y L h next noP (.refl L) (hn β _ _ L h (.put ..) (ok.put hr _) (fun t ht => put_other _ _ _ _ ht) r)
  | ask W w f =>
    have r' : w (fun x => k (st.put o.dst (f x))) h := by
      match how, r with
      | 0, r => exact r
      | 1, r => exact r.elim
      | n + 2, r => exact r
    obtain ⟨x, v, is, y, kx⟩ := eo _ h r'
    exact y L h next noP (hn β _ _ L h (.put ..) (ok.put (is.rel _ _) _) (fun t ht => put_other _ _ _ _ ht) kx)
  | mem W w f =>
    have r' : w (fun x => k (st.put o.dst (f x))) h := by
      match how, r with
      | 0, r => exact r.elim
      | 1, r => exact r.elim
      | n + 2, r => exact r
    refine eo _ h next r' fun x v h' kx hv => hn β _ _ L h' (.put ..) (ok.put ?_ _) (fun t ht => put_other _ _ _ _ ht) kx
    rcases hv with hv | hv
    · rw [hv]; trivial
    · exact hv.rel _ _
  | box t c lit =>
    have r' : (match o.dst with
      | none => nope
      | some d => match findB st.bx d with
        | some _ => nope
        | none => k ⟨T.set deep (st.tr.map (clr d)) d (litSV d lit), ⟨d, t, c.map some, false⟩ :: st.bx⟩ : HP) h := by
      match how, r with
      | 0, r => exact r.elim
      | 1, r => exact r.elim
      | n + 2, r => exact r
    refine eo h next fun b hb => ?_
    cases hd : o.dst with
    | none => rw [hd] at r'; exact r'.elim
    | some d =>
      rw [hd] at r'
      simp only at r'
      cases hf : findB st.bx d with
      | some e => rw [hf] at r'; exact r'.elim
      | none =>
        rw [hf] at r'
        have fr := findB_none hf
        have hne : ∀ e, e ∈ st.bx → e.key ≠ d := fun e he q => fr ⟨e, he, q⟩
        have ninb : ∀ e, e ∈ st.bx → β e.key ≠ b := fun e he q => by
          obtain ⟨c', hc, _⟩ := ok.boxes e he
          rw [q, hb] at hc; cases hc
        let β' : Nat → Nat := fun i => if i = d then b else β i
        have bold : ∀ i, i ≠ d → β' i = β i := fun i hi => if_neg hi
        have bnew : β' d = b := if_pos rfl
        refine hn β' _ _ _ h ⟨fun i ⟨e, he, hk⟩ => bold i (hk ▸ hne e he), fun e he => ⟨e, List.mem_cons_of_mem _ he, rfl, rfl, rfl, fun q => ⟨q, rfl⟩⟩⟩ ⟨fun u => ?_, fun e he => ?_, fun i j hi hj e => ?_, ?_⟩ (fun u hu => ?_) r'
        · show Rel _ β' (K.put ρ (some d) (litV b lit) u) ((T.set deep (st.tr.map (clr d)) d (litSV d lit)).get u)
          rcases T.get_set deep (st.tr.map (clr d)) d (litSV d lit) u with q | ⟨rfl, q⟩ | ⟨hne', q⟩
          · rw [q]; trivial
          · rw [q, put_self]
            cases lit with
            | none => intro _; show _ = Value.pointer (some ⟨β' u, 0, none⟩); rw [bnew]; rfl
            | some n => intro _; show _ = Value.slice (some ⟨β' u, 0, none⟩) n n; rw [bnew]; rfl
          · rw [q, put_other _ _ _ _ (fun e => hne' (Option.some.inj e).symm), T.get_map rfl]
            have := ok.slots u
            show Rel _ β' (ρ u) (clr d (st.σ u))
            revert this
            cases st.σ u with
            | box j off =>
              intro this
              show Rel _ β' (ρ u) (bif Nat.beq j d then .no else .box j off)
              cases hj : Nat.beq j d
              · rintro ⟨e, he, hk⟩
                have hjd : j ≠ d := fun q => by rw [← Nat.beq_eq, hj] at q; cases q
                rcases List.mem_cons.1 he with rfl | he
                · exact absurd hk.symm hjd
                · rw [bold j hjd]; exact this ⟨e, he, hk⟩
              · trivial
            | lit j n =>
              intro this
              show Rel _ β' (ρ u) (bif Nat.beq j d then .no else .lit j n)
              cases hj : Nat.beq j d
              · rintro ⟨e, he, hk⟩
                have hjd : j ≠ d := fun q => by rw [← Nat.beq_eq, hj] at q; cases q
                rcases List.mem_cons.1 he with rfl | he
                · exact absurd hk.symm hjd
                · rw [bold j hjd]; exact this ⟨e, he, hk⟩
              · trivial
            | _ => exact id
        · rcases List.mem_cons.1 he with rfl | he
          · refine ⟨c.toArray, ?_, by simp, fun j v hj => ?_⟩
            · show upd L b _ (β' d) = _; rw [bnew]; exact upd_same _ _ _
            · have hj : (c.map some)[j]? = some (some v) := hj
              rw [List.getElem?_map] at hj
              cases hc : c[j]? with
              | none => rw [hc] at hj; cases hj
              | some w => rw [hc] at hj; cases hj; rw [List.getElem?_toArray]; exact hc
          · obtain ⟨c', hc, kn⟩ := ok.boxes e he
            refine ⟨c', ?_, kn⟩
            rw [bold _ (hne e he), upd_ne _ _ (ninb e he)]; exact hc
        · obtain ⟨e1, he1, rfl⟩ := hi
          obtain ⟨e2, he2, rfl⟩ := hj
          rcases List.mem_cons.1 he1 with rfl | he1 <;> rcases List.mem_cons.1 he2 with rfl | he2
          · rfl
          · rw [bold _ (hne e2 he2)] at e
            exact absurd (e.symm.trans bnew) (ninb e2 he2)
          · rw [bold _ (hne e1 he1)] at e
            exact absurd (e.trans bnew) (ninb e1 he1)
          · rw [bold _ (hne e1 he1), bold _ (hne e2 he2)] at e
            exact ok.inj _ _ ⟨e1, he1, rfl⟩ ⟨e2, he2, rfl⟩ e
        · refine List.nodup_cons.2 ⟨fun hm => ?_, ok.nd⟩
          obtain ⟨e, he, hk⟩ := List.mem_map.1 hm
          exact hne e he hk
        · exact put_other _ _ _ _ (fun e => hu (hd.trans e))
  | set i c =>
    have r' : k ⟨(st.put o.dst .no).tr, setB st.bx i c⟩ h := by
      match how, r with
      | 0, r => exact r.elim
      | 1, r => exact r.elim
      | 2, r => exact r.elim
      | 3, r => exact r
      | n + 4, r => exact r.elim
    obtain ⟨e0, c', hf, hl, kn, y⟩ := eo
    obtain ⟨h0, hk0⟩ := findB_some hf
    have ik : ∀ j, InK (setB st.bx i c) j ↔ InK st.bx j := fun j => ink_keys (setB_keys _ _ _)
    refine y h next (hn β _ _ _ h ⟨fun _ _ => rfl, fun e he => ?_⟩ ⟨fun u => ?_, fun e he => ?_, fun a b ha hb => ok.inj a b ((ik a).1 ha) ((ik b).1 hb), by rw [setB_keys]; exact ok.nd⟩ (fun t ht => put_other _ _ _ _ ht) r')
    · rcases setB_has (i := i) (c := c) he with q | ⟨q1, q2⟩
      · exact ⟨e, q, rfl, rfl, rfl, fun d => ⟨d, rfl⟩⟩
      · have : e = e0 := key_uniq ok.nd he h0 (q1.trans hk0.symm)
        subst this
        exact ⟨_, q2, rfl, rfl, hl, fun d => by cases d⟩
    · have hs : Rel (setB st.bx i c) β (ρ u) (st.σ u) := by
        have := ok.slots u
        revert this
        cases st.σ u with
        | box j off => exact fun q m => q ((ik j).1 m)
        | lit j n => exact fun q m => q ((ik j).1 m)
        | _ => exact id
      cases hd : o.dst with
      | none => exact hs
      | some d =>
        show Rel _ β (K.put ρ (some d) undef u) ((T.set deep st.tr d .no).get u)
        rcases T.get_set deep st.tr d .no u with q | ⟨rfl, q⟩ | ⟨h, q⟩
        · rw [q]; trivial
        · rw [q]; trivial
        · rw [q, put_other _ _ _ _ (fun e => h (Option.some.inj e).symm)]; exact hs
    · rcases setB_mem ok.nd he with ⟨h1, h2⟩ | ⟨e1, h1, h2, rfl⟩
      · obtain ⟨c2, hc2, kn2⟩ := ok.boxes e h1
        refine ⟨c2, ?_, kn2⟩
        rw [upd_ne]; exact hc2
        exact fun q => h2 (ok.inj _ _ ⟨e, h1, rfl⟩ ⟨e0, h0, hk0⟩ q)
      · have : e1 = e0 := key_uniq ok.nd h1 h0 (h2.trans hk0.symm)
        subst this
        refine ⟨c', ?_, kn⟩
        show upd L (β i) _ (β e1.key) = _
        rw [h2]; exact upd_same _ _ _
theorem run_y {o : Oper} {e : Eff} {k : St → HP} {h : H} (ok : Ok β st ρ L) (eo : EffOk P o β st ρ L e) (r : run 0 e o.dst st k h) : ∃ v st', YE P o ρ v ∧ Tr β st β st' ∧ Ok β st' (put ρ o.dst v) L ∧ k st' h := by
  cases e with
  | ret s =>
    obtain ⟨v, hr, y⟩ := eo
    exact ⟨v, _, y, .put .., ok.put hr _, r⟩
  | ask W w f =>
    obtain ⟨x, v, is, y, kx⟩ := eo _ h (show w (fun x => k (st.put o.dst (f x))) h from r)
    exact ⟨v, _, y, .put .., ok.put (is.rel _ _) _, kx⟩
  | _ => exact r.elim
theorem run_r {o : Oper} {e : Eff} {k : St → HP} {h : H} (ok : Ok β st ρ L) (eo : EffOk P o β st ρ L e) (r : run 1 e o.dst st k h) : ∃ v st', YR P o ρ L v ∧ Tr β st β st' ∧ Ok β st' (put ρ o.dst v) L ∧ k st' h := by
  cases e with
  | ret s =>
    obtain ⟨v, hr, y⟩ := eo
    exact ⟨v, _, fun L' h' next C _ => y L' h' next C, .put .., ok.put hr _, r⟩
  | own s =>
    obtain ⟨v, hr, y⟩ := eo
    exact ⟨v, _, y, .put .., ok.put hr _, r⟩
  | _ => exact r.elim
theorem want_ok {ops : Array Oper} {o : Oper} {b : Bool} (ok : Ok β st ρ L) (h : wantS ops st o = some b) : Region.wanted o (yld ops ρ) = b := by
  unfold wantS at h
  unfold Region.wanted
  split at h
  · rename_i hg; cases h; rw [hg]
  · rename_i j w hg
    rw [hg]
    simp only
    split at h
    · rename_i oj hj
      rw [Array.getElem?_toList] at hj
      split at h
      · rename_i d hd
        have hs := ok.slots d
        have hy : yld ops ρ j = match ρ d with | .bool b => some b | _ => none := by
          unfold yld; simp only [hj, Option.bind_some, hd]; rfl
        split at h
        · rename_i c hc
          rw [hc] at hs
          have hs : ρ d = _ := hs
          rw [hy, hs]
          cases h
          cases c <;> cases w <;> rfl
        · rename_i c hc
          rw [hc] at hs
          have hs : ρ d = _ := hs
          rw [hy, hs]
          cases h
          rfl
        · cases h
      · cases h
    · cases h
variable {ops : Array Oper} {next : Post}
theorem agree_of {D : Nat → Bool} {o : Oper} {ρ' : Env} (hd : dstIn D o = true) (h : ∀ t, o.dst ≠ some t → ρ' t = ρ t) : Agree D ρ ρ' := fun t ht => h t fun e => by
  unfold dstIn at hd; rw [e] at hd; simp only at hd; rw [hd] at ht; cases ht
theorem t1n {i fuel : Nat} {listed : Array Bool} {oi : Oper} {h : H} (hi' : ops.toList[i]? = some oi) (hr : Region.ready .any ops listed = [i]) (hw : Region.wanted oi (yld ops ρ) = false)
    (x : bAny P ops next noP fuel (listed.setIfInBounds i true) (put ρ oi.dst undef) L h) : bAny P ops next noP (fuel + 1) listed ρ L h := fun bd ap => by
  have hi := at_list hi'
  refine ⟨fun h0 => (by rw [hr] at h0; cases h0), ?_⟩
  rw [hr]
  intro j hj
  obtain rfl := List.mem_singleton.1 hj
  unfold aOpI
  simp only [hi]
  rw [if_neg (by rw [hw]; exact Bool.false_ne_true)]
  exact x bd ap
theorem opS_goal {D : Nat → Bool} {w : Wh} {i how : Nat} {k : St → HP} {h : H} (hm : may P ops w i how = true) (x : opS X ops st i (how' w how) k h) (ok : Ok β st ρ L) (hd : dIn ops D i = true)
    (hn : ∀ β' st' ρ' L' h', Tr β st β' st' → Ok β' st' ρ' L' → Agree D ρ ρ' → k st' h' → Goal P ops next (adv w i) ρ' L' h') : Goal P ops next w ρ L h := by
  unfold opS at x
  cases hi : ops.toList[i]? with
  | none => rw [hi] at x; exact x.elim
  | some o =>
    rw [hi] at x
    simp only at x
    have hd : dstIn D o = true := by unfold dIn at hd; rw [hi] at hd; exact hd
    cases hw : wantS ops st o with
    | none => rw [hw] at x; exact x.elim
    | some bw =>
    rw [hw] at x
    cases bw with
    | true =>
      simp only at x
      have hw := want_ok ok hw
      have eo := effOf_ok (P := P) (X := X) ok o
      generalize effOf P X st o = e at x eo
      cases w with
      | seq l =>
        cases l with
        | nil => cases hm
        | cons j r =>
          have : i = j := by rwa [may, Nat.beq_eq] at hm
          subst this
          exact sg hi hw (run_step ok eo x fun β' st' ρ' L' h' t o' a kk => hn β' st' ρ' L' h' t o' (agree_of hd a) kk)
      | any listed fuel =>
        cases fuel with
        | zero => cases hm
        | succ f =>
          match how, hm, x with
          | 3, hm, x =>
            have hr : Region.ready .any ops listed = [i] := eq_of_beq hm
            exact t1 i hi hr hw (run_step ok eo x fun β' st' ρ' L' h' t o' a kk => hn β' st' ρ' L' h' t o' (agree_of hd a) kk)
          | 0, hm, x =>
            simp only [may, Bool.and_eq_true] at hm
            obtain ⟨v, st', y, t, o', kk⟩ := run_y ok eo x
            exact tyy i _ v hi rfl hm.1.1.2 hm.1.2 hm.2 hw y (hn β st' _ L h t o' (agree_of hd fun t ht => put_other _ _ _ _ ht) kk)
          | 1, hm, x =>
            simp only [may, Bool.and_eq_true] at hm
            obtain ⟨v, st', y, t, o', kk⟩ := run_r ok eo x
            exact trr i _ v hi rfl hm.1.1.2 hm.1.2 hm.2 hw y (hn β st' _ L h t o' (agree_of hd fun t ht => put_other _ _ _ _ ht) kk)
          | 2, hm, x =>
            simp only [may, Bool.and_eq_true] at hm
            exact tq i hi hm.1.1.2 hm.1.2 hm.2 hw (run_step ok eo x fun β' st' ρ' L' h' t o' a kk => hn β' st' ρ' L' h' t o' (agree_of hd a) kk)
          | n + 4, hm, x =>
            simp only [may, Bool.and_eq_true] at hm
            have := Nat.le_of_ble_eq_true hm.1.1.1
            omega
      | part listed fuel c => cases hm
    | false =>
      simp only at x
      have hw := want_ok ok hw
      have ok' : Ok β (st.put o.dst (.v undef)) (put ρ o.dst undef) L := ok.put (v := undef) (s := .v undef) rfl _
      have ag : Agree D ρ (put ρ o.dst undef) := agree_of hd fun t ht => put_other _ _ _ _ ht
      have fin : k (st.put o.dst (.v undef)) h := by
        revert x
        generalize how' w how = q
        intro x
        match q, x with
        | 0, x => exact x
        | 1, x => exact x.elim
        | 2, x => exact x.elim
        | 3, x => exact x
        | n + 4, x => exact x.elim
      have g := hn β _ _ L h (.put ..) ok' ag fin
      cases w with
      | seq l =>
        cases l with
        | nil => cases hm
        | cons j r =>
          have : i = j := by rwa [may, Nat.beq_eq] at hm
          subst this
          exact sn hi hw g
      | any listed fuel =>
        cases fuel with
        | zero => cases hm
        | succ f =>
          match how, hm, x with
          | 3, hm, x =>
            have hr : Region.ready .any ops listed = [i] := eq_of_beq hm
            exact t1n hi hr hw g
          | 0, hm, x =>
            simp only [may, Bool.and_eq_true] at hm
            exact tnn i _ hi rfl hm.1.1.2 hm.1.2 hm.2 hw g
          | 1, hm, x => exact x.elim
          | 2, hm, x => exact x.elim
          | n + 4, hm, x => exact x.elim
      | part listed fuel c => cases hm
theorem one_goal {D : Nat → Bool} {f i : Nat} {listed : Array Bool} {k : St → HP} {h : H} (ok : Ok β st ρ L) (x : opS X ops st i 3 k h) (hd : dIn ops D i = true) (hn : ∀ β' st' ρ' L' h', Tr β st β' st' → Ok β' st' ρ' L' → Agree D ρ ρ' → k st' h' → bAny P ops next noP f (listed.setIfInBounds i true) ρ' L' h') (bd : Bdd (un L h)) (ap : Apart L h) :
    aOpI P ops noP i (aAny P ops next noP f (listed.setIfInBounds i true)) ρ L h := by
  unfold opS at x
  cases hi : ops.toList[i]? with
  | none => rw [hi] at x; exact x.elim
  | some o =>
    rw [hi] at x
    simp only at x
    have hd : dstIn D o = true := by unfold dIn at hd; rw [hi] at hd; exact hd
    have hi' := at_list hi
    unfold aOpI
    simp only [hi']
    cases hw : wantS ops st o with
    | none => rw [hw] at x; exact x.elim
    | some bw =>
    rw [hw] at x
    cases bw with
    | true =>
      simp only at x
      have hw := want_ok ok hw
      have eo := effOf_ok (P := P) (X := X) ok o
      generalize effOf P X st o = e at x eo
      rw [if_pos hw]
      exact aOp_inv bd ap (run_step (next := bAny P ops next noP f (listed.setIfInBounds i true)) ok eo x fun β' st' ρ' L' h' t o' a kk => hn β' st' ρ' L' h' t o' (agree_of hd a) kk)
    | false =>
      simp only at x
      have hw := want_ok ok hw
      rw [if_neg (by rw [hw]; exact Bool.false_ne_true)]
      exact hn β _ _ L h (.put ..) (ok.put (v := undef) (s := .v undef) rfl _) (agree_of hd fun t ht => put_other _ _ _ _ ht) x bd ap
theorem both_goal {D : Nat → Bool} {w : Wh} {i j : Nat} {k1 k2 : St → HP} {h : H} (hm : may2 ops w i j = true) (x1 : opS X ops st i 3 k1 h) (x2 : opS X ops st j 3 k2 h) (ok : Ok β st ρ L) (hd1 : dIn ops D i = true) (hd2 : dIn ops D j = true)
    (hn1 : ∀ β' st' ρ' L' h', Tr β st β' st' → Ok β' st' ρ' L' → Agree D ρ ρ' → k1 st' h' → Goal P ops next (adv w i) ρ' L' h')
    (hn2 : ∀ β' st' ρ' L' h', Tr β st β' st' → Ok β' st' ρ' L' → Agree D ρ ρ' → k2 st' h' → Goal P ops next (adv w j) ρ' L' h') : Goal P ops next w ρ L h := by
  cases w with
  | seq l => cases hm
  | any listed fuel =>
    cases fuel with
    | zero => cases hm
    | succ f =>
      have hr : Region.ready .any ops listed = [i, j] := eq_of_beq hm
      refine fun bd ap => ⟨fun h0 => (by rw [hr] at h0; cases h0), ?_⟩
      rw [hr]
      intro q hq
      rcases List.mem_cons.1 hq with rfl | hq
      · exact one_goal ok x1 hd1 hn1 bd ap
      · rw [List.mem_singleton] at hq
        subst hq
        exact one_goal ok x2 hd2 hn2 bd ap
  | part listed f c =>
    have hr : (Region.ready .any ops listed).filter (fun x => !memB c x) = [i, j] := eq_of_beq hm
    intro bd ap q hq hc
    have hq : q ∈ (Region.ready .any ops listed).filter (fun x => !memB c x) := List.mem_filter.2 ⟨hq, by rw [hc]; rfl⟩
    rw [hr] at hq
    rcases List.mem_cons.1 hq with rfl | hq
    · exact one_goal ok x1 hd1 hn1 bd ap
    · rw [List.mem_singleton] at hq
      subst hq
      exact one_goal ok x2 hd2 hn2 bd ap
theorem alt_goal {D : Nat → Bool} {w : Wh} {i : Nat} {k1 : St → HP} {h : H} (hm : mayA ops w = true) (x1 : opS X ops st i 3 k1 h) (ok : Ok β st ρ L) (hd1 : dIn ops D i = true)
    (hn1 : ∀ β' st' ρ' L' h', Tr β st β' st' → Ok β' st' ρ' L' → Agree D ρ ρ' → k1 st' h' → Goal P ops next (adv w i) ρ' L' h') (g : Goal P ops next (skip w i) ρ L h) : Goal P ops next w ρ L h := by
  cases w with
  | seq l => cases hm
  | any listed fuel =>
    cases fuel with
    | zero => cases hm
    | succ f =>
      have hr : (!(Region.ready .any ops listed).isEmpty) = true := hm
      refine fun bd ap => ⟨fun h0 => (by rw [h0] at hr; cases hr), fun q hq => ?_⟩
      by_cases e : q = i
      · subst e; exact one_goal ok x1 hd1 hn1 bd ap
      · exact g bd ap q hq (by simp only [memB, List.any_cons, List.any_nil, Bool.or_false]; exact Bool.eq_false_iff.2 fun z => e (by rw [Nat.beq_eq] at z; exact z))
  | part listed f c =>
    intro bd ap q hq hc
    by_cases e : q = i
    · subst e; exact one_goal ok x1 hd1 hn1 bd ap
    · refine g bd ap q hq ?_
      simp only [memB, List.any_cons] at hc ⊢
      rw [hc, Bool.or_false]
      exact Bool.eq_false_iff.2 fun z => e (by rw [Nat.beq_eq] at z; exact z)
end steps
def Same (s s' : SV) : Prop := ∃ v, s.is v ∧ s'.is v
theorem is_eq {s : SV} {v x : Value} {l : List Bx} {β : Nat → Nat} (h : s.is v) (r : Rel l β x s) : x = v := by
  cases s <;> first | (exact r.trans (Eq.symm h)) | exact h.elim
inductive SameL : List SV → List SV → Prop
  | nil : SameL [] []
  | cons {a b : SV} {l m : List SV} : Same a b → SameL l m → SameL (a :: l) (b :: m)
theorem decs_same : ∀ {A : List Ty} {l : List SV} {a : Den A}, decs A l = some a → SameL l (svsD A a) := by
  have one : ∀ {τ : Ty} {s : SV} {a : τ.T}, τ.dec s = some a → Same s (τ.sv a) := fun {τ s a} e => ⟨_, τ.law _ _ e, τ.svl a⟩
  intro A
  induction A with
  | nil =>
    intro l a e
    cases l with
    | nil => exact .nil
    | cons => cases e
  | cons t r ih =>
    intro l a e
    cases r with
    | nil =>
      match l, e with
      | [x], e => exact .cons (one e) .nil
      | x :: y :: r, e => cases e
    | cons u r =>
      match l, e with
      | x :: xs, e =>
        have e : (match t.dec x, decs (u :: r) xs with | some p, some q => some (p, q) | _, _ => none) = some a := e
        split at e
        · rename_i p q h1 h2
          cases e
          exact .cons (one h1) (ih h2)
        · cases e
theorem slotI_ok {st' : St} : ∀ {its : List It} {ss : List SV}, SameL (getI st' its) ss → ∀ (t : T) (u : Nat), (slotI its ss t).get u = .no ∨ Same (st'.σ u) ((slotI its ss t).get u) ∨ (slotI its ss t).get u = t.get u := by
  intro its
  induction its with
  | nil => intro ss _ t u; cases ss <;> exact .inr (.inr rfl)
  | cons i r ih =>
    intro ss h t u
    cases i with
    | slot a τ =>
      match ss, h with
      | s :: ss, .cons h1 h2 =>
        show (slotI r ss (T.set deep t a s)).get u = _ ∨ Same _ ((slotI r ss (T.set deep t a s)).get u) ∨ (slotI r ss (T.set deep t a s)).get u = t.get u
        rcases ih h2 (T.set deep t a s) u with q | q | q
        · exact .inl q
        · exact .inr (.inl q)
        · rw [q]
          rcases T.get_set deep t a s u with g | ⟨rfl, g⟩ | ⟨_, g⟩
          · exact .inl g
          · rw [g]; exact .inr (.inl h1)
          · exact .inr (.inr g)
    | cell a b τ =>
      match ss, h with
      | s :: ss, .cons _ h2 => exact ih h2 t u
theorem cellI_ok {st' : St} : ∀ {its : List It} {ss : List SV}, SameL (getI st' its) ss → ∀ {i j : Nat} {v : Value}, cellI its ss i j = some v → ∃ e, findB st'.bx i = some e ∧ e.cells[j]? = some (some v) := by
  intro its
  induction its with
  | nil => intro ss _ i j v h; cases ss <;> cases h
  | cons x r ih =>
    intro ss h i j v hv
    cases x with
    | slot t τ =>
      match ss, h with
      | s :: ss, .cons _ h2 => exact ih h2 hv
    | cell a b τ =>
      match ss, h with
      | s :: ss, .cons h1 h2 =>
        replace hv : (bif Nat.beq i a && Nat.beq j b then valOf? s else cellI r ss i j) = some v := hv
        cases hb : Nat.beq i a && Nat.beq j b <;> rw [hb] at hv
        · exact ih h2 hv
        · rw [Bool.and_eq_true, Nat.beq_eq, Nat.beq_eq] at hb
          obtain ⟨rfl, rfl⟩ := hb
          obtain ⟨w, a1, a2⟩ := h1
          have hw : v = w := by
            replace hv : valOf? s = some v := hv
            cases s <;> first | (cases hv; exact (Eq.symm a2)) | cases hv
          subst hw
          revert a1
          cases hf : findB st'.bx i with
          | none => exact fun a1 => a1.elim
          | some e =>
            simp only
            intro a1
            refine ⟨e, rfl, ?_⟩
            revert a1
            cases hc : e.cells[j]? with
            | none => exact fun a1 => a1.elim
            | some o => cases o with
              | none => exact fun a1 => a1.elim
              | some w => intro a1; have a1 : v = w := a1; rw [a1]
theorem encB_keys (its : List It) (M : List Nat) (ss : List SV) : ∀ l, (encB its M ss l).map Bx.key = l.map Bx.key := by
  intro l
  induction l with
  | nil => rfl
  | cons e r ih =>
    simp only [encB, List.map_cons, ih]
    cases memB M e.key <;> rfl
theorem encB_mem {its : List It} {M : List Nat} {ss : List SV} : ∀ {l : List Bx} {x : Bx}, x ∈ encB its M ss l → ∃ e, e ∈ l ∧ x = (match memB M e.key with | true => freshB its ss e true | false => e) := by
  intro l
  induction l with
  | nil => intro x h; cases h
  | cons e r ih =>
    intro x h
    rcases List.mem_cons.1 h with rfl | h
    · exact ⟨e, List.mem_cons_self .., rfl⟩
    · obtain ⟨e', h1, h2⟩ := ih h
      exact ⟨e', List.mem_cons_of_mem _ h1, h2⟩
theorem encB_has {its : List It} {M : List Nat} {ss : List SV} : ∀ {l : List Bx} {e : Bx}, e ∈ l → (match memB M e.key with | true => freshB its ss e true | false => e) ∈ encB its M ss l := by
  intro l
  induction l with
  | nil => intro x h; cases h
  | cons y r ih =>
    intro e h
    rcases List.mem_cons.1 h with rfl | h
    · exact List.mem_cons_self ..
    · exact List.mem_cons_of_mem _ (ih h)
theorem clean_keys : ∀ l, (clean l).map Bx.key = l.map Bx.key := by
  intro l
  induction l with
  | nil => rfl
  | cons e r ih => simp only [clean, List.map_cons, ih]
theorem clean_mem : ∀ {l : List Bx} {x : Bx}, x ∈ clean l → ∃ e, e ∈ l ∧ x = ⟨e.key, e.ty, e.cells, false⟩ := by
  intro l
  induction l with
  | nil => intro x h; cases h
  | cons e r ih =>
    intro x h
    rcases List.mem_cons.1 h with rfl | h
    · exact ⟨e, List.mem_cons_self .., rfl⟩
    · obtain ⟨e', h1, h2⟩ := ih h
      exact ⟨e', List.mem_cons_of_mem _ h1, h2⟩
theorem clean_has : ∀ {l : List Bx} {e : Bx}, e ∈ l → (⟨e.key, e.ty, e.cells, false⟩ : Bx) ∈ clean l := by
  intro l
  induction l with
  | nil => intro x h; cases h
  | cons y r ih =>
    intro e h
    rcases List.mem_cons.1 h with rfl | h
    · exact List.mem_cons_self ..
    · exact List.mem_cons_of_mem _ (ih h)
theorem backB_keys (l : List Bx) : ∀ m, (backB l m).map Bx.key = m.map Bx.key := by
  intro m
  induction m with
  | nil => rfl
  | cons e r ih => simp only [backB, List.map_cons, ih]
theorem backB_mem {l : List Bx} : ∀ {m : List Bx} {x : Bx}, x ∈ backB l m → ∃ e, e ∈ m ∧ x.key = e.key ∧ x.ty = e.ty ∧ x.cells = e.cells := by
  intro m
  induction m with
  | nil => intro x h; cases h
  | cons e r ih =>
    intro x h
    rcases List.mem_cons.1 h with rfl | h
    · exact ⟨e, List.mem_cons_self .., rfl, rfl, rfl⟩
    · obtain ⟨e', h1, h2⟩ := ih h
      exact ⟨e', List.mem_cons_of_mem _ h1, h2⟩
theorem backB_has {l : List Bx} : ∀ {m : List Bx} {e : Bx}, e ∈ m → ∃ x, x ∈ backB l m ∧ x.key = e.key ∧ x.ty = e.ty ∧ x.cells = e.cells ∧ (x.dirty = false → e.dirty = false ∧ ∀ y, findB l e.key = some y → y.dirty = false) := by
  intro m
  induction m with
  | nil => intro x h; cases h
  | cons y r ih =>
    intro e h
    rcases List.mem_cons.1 h with rfl | h
    · refine ⟨_, List.mem_cons_self .., rfl, rfl, rfl, fun d => ?_⟩
      rw [Bool.or_eq_false_iff] at d
      refine ⟨d.1, fun y hy => ?_⟩
      have := d.2
      rw [hy] at this
      exact this
    · obtain ⟨x, h1, h2⟩ := ih h
      exact ⟨x, List.mem_cons_of_mem _ h1, h2⟩
theorem stayed_spec {M : List Nat} {l' : List Bx} : ∀ {l : List Bx}, stayed M l' l = true → ∀ e, e ∈ l → memB M e.key = true ∨ ∃ x, findB l' e.key = some x ∧ x.dirty = false := by
  intro l
  induction l with
  | nil => intro _ e h; cases h
  | cons y r ih =>
    intro h e he
    simp only [stayed, Bool.and_eq_true, Bool.or_eq_true] at h
    rcases List.mem_cons.1 he with rfl | he
    · refine h.1.imp id fun q => ?_
      cases hf : findB l' e.key with
      | none => rw [hf] at q; cases q
      | some x => rw [hf] at q; exact ⟨x, rfl, by simpa using q⟩
    · exact ih h.2 e he
section meets
variable {β : Nat → Nat} {st : St} {ρ : Env} {L : H}
theorem Ok.marks {bx' : List Bx} (k : Ok β st ρ L) (hk : bx'.map Bx.key = st.bx.map Bx.key) (hm : ∀ x, x ∈ bx' → ∃ e, e ∈ st.bx ∧ x.key = e.key ∧ x.ty = e.ty ∧ x.cells = e.cells) : Ok β ⟨st.tr, bx'⟩ ρ L := by
  have ik : ∀ i, InK bx' i ↔ InK st.bx i := fun i => ink_keys hk
  refine ⟨fun t => ?_, fun x hx => ?_, fun i j hi hj => k.inj i j ((ik i).1 hi) ((ik j).1 hj), by show (bx'.map Bx.key).Nodup; rw [hk]; exact k.nd⟩
  · have := k.slots t
    revert this
    show Rel st.bx β (ρ t) (st.σ t) → Rel bx' β (ρ t) (st.σ t)
    cases st.σ t with
    | box j off => exact fun q m => q ((ik j).1 m)
    | lit j n => exact fun q m => q ((ik j).1 m)
    | _ => exact id
  · obtain ⟨e, he, h1, h2, h3⟩ := hm x hx
    obtain ⟨c, hc, kn⟩ := k.boxes e he
    exact ⟨c, by rw [h1, h2]; exact hc, by rw [h3]; exact kn⟩
theorem Ok.inS (k : Ok β st ρ L) : Ok β (K.inS st) ρ L := k.marks (clean_keys _) fun x hx => by
  obtain ⟨e, he, rfl⟩ := clean_mem hx
  exact ⟨e, he, rfl, rfl, rfl⟩
theorem Ok.backS {st0 : St} (k : Ok β st ρ L) : Ok β (K.backS st0 st) ρ L := k.marks (backB_keys _ _) fun _ hx => backB_mem hx
theorem ink_clean {l : List Bx} {i : Nat} : InK (clean l) i ↔ InK l i := ink_keys (clean_keys l)
theorem Tr.back {β' : Nat → Nat} {st' : St} (nd : (st.bx.map Bx.key).Nodup) (t : Tr β (K.inS st) β' st') : Tr β st β' (K.backS st st') := ⟨fun i h => t.agree i (ink_clean.2 h), fun e he => by
  obtain ⟨e', h1, h2, h3, h4, h5⟩ := t.has _ (clean_has he)
  obtain ⟨x, g1, g2, g3, g4, g5⟩ := backB_has (l := st.bx) h1
  refine ⟨x, g1, g2.trans h2, g3.trans h3, by rw [g4]; exact h4, fun d => ?_⟩
  obtain ⟨d1, d2⟩ := g5 d
  have h2 : e'.key = e.key := h2
  exact ⟨d2 e (by rw [h2]; exact findB_mem nd he), g4.trans (h5 d1).2⟩⟩
theorem meet_ok {β' : Nat → Nat} {st' : St} {ρ' : Env} {L' : H} {its : List It} {D : Nat → Bool} {M : List Nat} {s : DenI its} (ok : Ok β st ρ L) (ok' : Ok β' st' ρ' L') (ag : ∀ i, InK st.bx i → β' i = β i)
    (has : ∀ e, e ∈ st.bx → ∃ e', e' ∈ st'.bx ∧ e'.key = e.key ∧ e'.ty = e.ty ∧ e'.cells.length = e.cells.length ∧ (e'.dirty = false → e'.cells = e.cells)) (agD : Agree D ρ ρ')
    (hs : decs (tysI its) (getI st' its) = some s) (hst : stayed M st'.bx st.bx = true) : Ok β' (encS its D M s st) ρ' L' ∧ Tr β st β' (encS its D M s st) := by
  have sm := decs_same hs
  have ik : ∀ i, InK (encB its M (svsD (tysI its) s) st.bx) i ↔ InK st.bx i := fun i => ink_keys (encB_keys _ _ _ _)
  have ik' : ∀ i, InK st.bx i → InK st'.bx i := fun i ⟨e, he, hk⟩ => by
    obtain ⟨e', h1, h2, _⟩ := has e he
    exact ⟨e', h1, h2.trans hk⟩
  refine ⟨⟨fun u => ?_, fun x hx => ?_, fun i j hi hj => ok'.inj i j (ik' i ((ik i).1 hi)) (ik' j ((ik j).1 hj)), by show ((encB _ _ _ _).map Bx.key).Nodup; rw [encB_keys]; exact ok.nd⟩, ⟨ag, fun e he => ?_⟩⟩
  · show Rel (encB _ _ _ _) β' (ρ' u) ((slotI its (svsD (tysI its) s) (st.tr.keep D)).get u)
    rcases slotI_ok sm (st.tr.keep D) u with q | ⟨v, q1, q2⟩ | q
    · rw [q]; trivial
    · have : ρ' u = v := is_eq q1 (ok'.slots u)
      rw [this]; exact q2.rel _ _
    · rw [q, T.get_keep]
      cases hD : D u with
      | true => rw [if_pos rfl]; trivial
      | false =>
        rw [if_neg Bool.false_ne_true, agD u hD]
        have := ok.slots u
        revert this
        show Rel st.bx β (ρ u) (st.σ u) → Rel _ β' (ρ u) (st.σ u)
        cases st.σ u with
        | box j off => intro q m; rw [ag j ((ik j).1 m)]; exact q ((ik j).1 m)
        | lit j n => intro q m; rw [ag j ((ik j).1 m)]; exact q ((ik j).1 m)
        | _ => exact id
  · obtain ⟨e, he, rfl⟩ := encB_mem hx
    obtain ⟨e', h1, h2, h3, h4, h5⟩ := has e he
    obtain ⟨c, hc, kn⟩ := ok'.boxes e' h1
    cases hM : memB M e.key with
    | true =>
      refine ⟨c, by show L' (β' e.key) = some (.cells c e.ty (0, 0)); rw [← h2, ← h3]; exact hc, ?_, fun j v hj => ?_⟩
      · show c.size = ((List.range e.cells.length).map _).length
        rw [List.length_map, List.length_range, ← h4]; exact kn.1
      · replace hj : ((List.range e.cells.length).map fun j => cellI its (svsD (tysI its) s) e.key j)[j]? = some (some v) := hj
        rw [List.getElem?_map] at hj
        cases hr : (List.range e.cells.length)[j]? with
        | none => rw [hr] at hj; cases hj
        | some q =>
          rw [hr] at hj
          have hq : q = j := by
            rw [List.getElem?_range] at hr
            · exact (Option.some.inj hr).symm
            · have := lt_of_get hr
              simpa using this
          subst hq
          replace hj : some (cellI its (svsD (tysI its) s) e.key q) = some (some v) := hj
          obtain ⟨e2, f1, f2⟩ := cellI_ok sm (Option.some.inj hj)
          obtain ⟨f3, f4⟩ := findB_some f1
          have : e2 = e' := key_uniq ok'.nd f3 h1 (f4.trans h2.symm)
          subst this
          exact kn.2 _ _ f2
    | false =>
      show BoxOk β' L' e
      rcases stayed_spec hst e he with q | ⟨x, q1, q2⟩
      · rw [hM] at q; cases q
      · obtain ⟨f3, f4⟩ := findB_some q1
        have : x = e' := key_uniq ok'.nd f3 h1 (f4.trans h2.symm)
        subst this
        refine ⟨c, by rw [← h2, ← h3]; exact hc, by rw [← h5 q2]; exact kn⟩
  · refine ⟨_, encB_has he, ?_⟩
    cases hM : memB M e.key with
    | true => exact ⟨rfl, rfl, by show ((List.range e.cells.length).map _).length = _; rw [List.length_map, List.length_range], fun d => by cases d⟩
    | false => exact ⟨rfl, rfl, rfl, fun d => ⟨d, rfl⟩⟩
theorem Tr.cleaned {β' : Nat → Nat} {st' : St} (t : Tr β (K.inS st) β' st') : ∀ e, e ∈ st.bx → ∃ e', e' ∈ st'.bx ∧ e'.key = e.key ∧ e'.ty = e.ty ∧ e'.cells.length = e.cells.length ∧ (e'.dirty = false → e'.cells = e.cells) := fun e he => by
  obtain ⟨e', h1, h2, h3, h4, h5⟩ := t.has _ (clean_has he)
  exact ⟨e', h1, h2, h3, h4, fun d => (h5 d).2⟩
theorem Tr.cleaned' {β' : Nat → Nat} {st' : St} (t : Tr β st β' st') : ∀ e, e ∈ st.bx → ∃ e', e' ∈ st'.bx ∧ e'.key = e.key ∧ e'.ty = e.ty ∧ e'.cells.length = e.cells.length ∧ (e'.dirty = false → e'.cells = e.cells) := fun e he => by
  obtain ⟨e', h1, h2, h3, h4, h5⟩ := t.has _ he
  exact ⟨e', h1, h2, h3, h4, fun d => (h5 d).2⟩
theorem stayed_clean (M : List Nat) (nd : (st.bx.map Bx.key).Nodup) : stayed M (clean st.bx) (clean st.bx) = true := by
  have nd' : ((clean st.bx).map Bx.key).Nodup := by rw [clean_keys]; exact nd
  have key : ∀ l, (∀ e, e ∈ l → e ∈ clean st.bx) → stayed M (clean st.bx) l = true := by
    intro l
    induction l with
    | nil => intro _; rfl
    | cons e r ih =>
      intro h
      have he := h e (List.mem_cons_self ..)
      have h1 := findB_mem nd' he
      obtain ⟨x, _, hx⟩ := clean_mem he
      have hd : e.dirty = false := by rw [hx]
      simp only [stayed, h1, hd, ih fun e he => h e (List.mem_cons_of_mem _ he)]
      simp
  exact key _ fun e he => he
end meets
theorem tr_bx {β β' : Nat → Nat} {st : St} {σ' : T} (ag : ∀ i, InK st.bx i → β' i = β i) : Tr β st β' ⟨σ', st.bx⟩ := ⟨ag, fun e he => ⟨e, he, rfl, rfl, rfl, fun d => ⟨d, rfl⟩⟩⟩
theorem meet_elim {its : List It} {M : List Nat} {l : List Bx} {j : DenI its → HP} {st' : St} {h : H} (x : meet its M l j st' h) : ∃ s, decs (tysI its) (getI st' its) = some s ∧ stayed M st'.bx l = true ∧ j s h := by
  unfold meet at x
  cases h1 : decs (tysI its) (getI st' its) with
  | none => rw [h1] at x; exact x.elim
  | some s =>
    rw [h1] at x
    cases h2 : stayed M st'.bx l with
    | false => rw [h2] at x; exact x.elim
    | true => rw [h2] at x; exact ⟨s, rfl, rfl, x⟩
section plans
variable {P : Program} {X : Cx P} {ops : Array Oper} {next : Post}
theorem same_eq {a b : Wh} (h : a.same b = true) : a = b := by
  unfold Wh.same at h
  split at h
  · rw [Bool.and_eq_true] at h; rw [eq_of_beq h.2]
  · rw [Bool.and_eq_true, Nat.beq_eq] at h
    rw [h.1, Array.toList_inj.1 (eq_of_beq h.2)]
  · cases h
theorem dstIn_and {D D' : Nat → Bool} {o : Oper} (h : dstIn D o = true) (h' : dstIn D' o = true) : dstIn (fun t => D t && D' t) o = true := by
  unfold dstIn at *
  split <;> rename_i hd
  · rw [hd] at h h'; simp only at h h' ⊢; rw [h, h']; rfl
  · rfl
theorem dIn_and {D D' : Nat → Bool} {i : Nat} (h : dIn ops D i = true) (h' : dIn ops D' i = true) : dIn ops (fun t => D t && D' t) i = true := by
  unfold dIn at *
  split <;> rename_i hd
  · rw [hd] at h h'; exact dstIn_and h h'
  · rfl
theorem inD_and {D D' : Nat → Bool} : ∀ {p : Plan}, inD ops D p = true → inD ops D' p = true → inD ops (fun t => D t && D' t) p = true := by
  intro p
  induction p with
  | nil => exact fun _ _ => rfl
  | run l p ih =>
    intro h h'
    simp only [inD, Bool.and_eq_true, List.all_eq_true] at h h' ⊢
    exact ⟨fun x hx => dIn_and (h.1 x hx) (h'.1 x hx), ih h.2 h'.2⟩
  | split g p q ihp ihq =>
    intro h h'
    simp only [inD, Bool.and_eq_true] at h h' ⊢
    exact ⟨ihp h.1 h'.1, ihq h.2 h'.2⟩
  | join its D M p q ihp ihq =>
    intro h h'
    simp only [inD, Bool.and_eq_true] at h h' ⊢
    exact ⟨ihp h.1 h'.1, ihq h.2 h'.2⟩
  | sel g d D p p' q ihp ihp' ihq =>
    intro h h'
    simp only [inD, Bool.and_eq_true] at h h' ⊢
    exact ⟨⟨ihp h.1.1 h'.1.1, ihp' h.1.2 h'.1.2⟩, ihq h.2 h'.2⟩
  | both i j p q ihp ihq =>
    intro h h'
    simp only [inD, Bool.and_eq_true] at h h' ⊢
    exact ⟨⟨⟨dIn_and h.1.1.1 h'.1.1.1, dIn_and h.1.1.2 h'.1.1.2⟩, ihp h.1.2 h'.1.2⟩, ihq h.2 h'.2⟩
  | alt i p q ihp ihq =>
    intro h h'
    simp only [inD, Bool.and_eq_true] at h h' ⊢
    exact ⟨⟨dIn_and h.1.1 h'.1.1, ihp h.1.2 h'.1.2⟩, ihq h.2 h'.2⟩
theorem wpL_sound {D : Nat → Bool} : ∀ (l : List Nat) {w : Wh} {st : St} {k : Wh → St → HP} {h : H} {β : Nat → Nat} {ρ : Env} {L : H}, wpL X ops l w st k h → Ok β st ρ L → (l.all fun n => dIn ops D (n / 4)) = true →
    (∀ w' st' β' ρ' L' h', Tr β st β' st' → Ok β' st' ρ' L' → Agree D ρ ρ' → k w' st' h' → Goal P ops next w' ρ' L' h') → Goal P ops next w ρ L h := by
  intro l
  induction l with
  | nil => exact fun x ok _ hn => hn _ _ _ _ _ _ (Tr.refl _ _) ok (Agree.refl _ _) x
  | cons n r ih =>
    intro w st k h β ρ L x ok hd hn
    rw [List.all_cons, Bool.and_eq_true] at hd
    simp only [wpL] at x
    cases hm : may P ops w (n / 4) (n % 4) with
    | false => rw [hm] at x; exact x.elim
    | true =>
      rw [hm] at x
      exact opS_goal hm x ok hd.1 fun β' st' ρ' L' h' t ok' a kk => ih kk ok' hd.2 fun w2 st2 β2 ρ2 L2 h2 t2 ok2 a2 k2 => hn _ _ _ _ _ _ (t.trans t2) ok2 (a.trans a2) k2
theorem opP_opS {st st' : St} {i how : Nat} {k : St → HP} {h : H} (x : opP X ops st i how = some st') (kk : k st' h) : opS X ops st i how k h := by
  unfold opP at x
  unfold opS
  cases hi : ops.toList[i]? with
  | none => rw [hi] at x; cases x
  | some o =>
    rw [hi] at x
    simp only at x ⊢
    cases hw : wantS ops st o with
    | none => rw [hw] at x; cases x
    | some b =>
      rw [hw] at x
      cases b with
      | true =>
        simp only at x ⊢
        cases he : effOf P X st o with
        | ret s => rw [he] at x; cases x; exact kk
        | own s =>
          rw [he] at x
          match how, x with
          | 0, x => cases x
          | n + 1, x => cases x; exact kk
        | _ => rw [he] at x; cases x
      | false =>
        simp only at x ⊢
        match how, x with
        | 0, x => cases x; exact kk
        | 1, x => cases x
        | 2, x => cases x
        | 3, x => cases x; exact kk
        | n + 4, x => cases x
theorem opP_bx {st st' : St} {i how : Nat} (x : opP X ops st i how = some st') : st'.bx = st.bx := by
  unfold opP at x
  cases hi : ops.toList[i]? with
  | none => rw [hi] at x; cases x
  | some o =>
    rw [hi] at x
    simp only at x
    cases hw : wantS ops st o with
    | none => rw [hw] at x; cases x
    | some b =>
      rw [hw] at x
      cases b with
      | true =>
        simp only at x
        cases he : effOf P X st o with
        | ret s => rw [he] at x; cases x; exact put_bx ..
        | own s =>
          rw [he] at x
          match how, x with
          | 0, x => cases x
          | n + 1, x => cases x; exact put_bx ..
        | _ => rw [he] at x; cases x
      | false =>
        simp only at x
        match how, x with
        | 0, x => cases x; exact put_bx ..
        | 1, x => cases x
        | 2, x => cases x
        | 3, x => cases x; exact put_bx ..
        | n + 4, x => cases x
theorem prL_wpL : ∀ (l : List Nat) {w w' : Wh} {st st' : St} {k : Wh → St → HP} {h : H}, prL X ops l w st = some (w', st') → k w' st' h → wpL X ops l w st k h ∧ st'.bx = st.bx := by
  intro l
  induction l with
  | nil => intro w w' st st' k h x kk; cases x; exact ⟨kk, rfl⟩
  | cons n r ih =>
    intro w w' st st' k h x kk
    simp only [prL] at x
    simp only [wpL]
    cases hm : may P ops w (n / 4) (n % 4) with
    | false => rw [hm] at x; cases x
    | true =>
      rw [hm] at x
      simp only at x ⊢
      cases ho : opP X ops st (n / 4) (how' w (n % 4)) with
      | none => rw [ho] at x; cases x
      | some s1 =>
        rw [ho] at x
        obtain ⟨q1, q2⟩ := ih (k := k) x kk
        exact ⟨opP_opS ho q1, q2.trans (opP_bx ho)⟩
theorem selS_spec {g d : Nat} {D : Nat → Bool} {st st' : St} {a b : St → Option (Wh × St)} {w' : Wh} (h : selS g d D st a b = some (w', st')) :
    ∃ c s1 s2 x y, st.σ g = .v (.bool c) ∧ a (st.put (some g) (.v (.bool true))) = some (w', s1) ∧ b (st.put (some g) (.v (.bool false))) = some (w', s2) ∧ s1.σ d = .v (.bool x) ∧ s2.σ d = .v (.bool y) ∧
      st' = ⟨T.set deep (st.tr.keep D) d (.v (.bool (bif c then x else y))), st.bx⟩ := by
  unfold selS at h
  split at h
  · rename_i c hc
    split at h
    · rename_i w1 s1 w2 s2 h1 h2
      split at h
      · rename_i x y hs hx hy
        have := same_eq hs
        subst this
        cases h
        exact ⟨c, s1, s2, x, y, hc, h1, h2, hx, hy, rfl⟩
      · cases h
    · cases h
  · cases h
theorem pr_wpP : ∀ (p : Plan) {w w' : Wh} {st st' : St} {k : Wh → St → HP} {h : H}, pr X ops p w st = some (w', st') → k w' st' h → wpP X ops p w st k h ∧ st'.bx = st.bx := by
  intro p
  induction p with
  | nil => intro w w' st st' k h x kk; cases x; exact ⟨kk, rfl⟩
  | run l p ih =>
    intro w w' st st' k h x kk
    simp only [pr] at x
    split at x
    · rename_i w1 s1 h1
      obtain ⟨q1, q2⟩ := ih (k := k) x kk
      obtain ⟨r1, r2⟩ := prL_wpL (k := fun w' st' => wpP X ops p w' st' k) l h1 q1
      exact ⟨r1, q2.trans r2⟩
    · cases x
  | sel g d D p p' q ihp ihp' ihq =>
    intro w w' st st' k h x kk
    simp only [pr] at x
    simp only [wpP]
    cases hi : inD ops (Nat.testBit D) p && inD ops (Nat.testBit D) p' with
    | false => rw [hi] at x; cases x
    | true =>
      rw [hi] at x
      simp only at x ⊢
      cases hs : selS g d (Nat.testBit D) st (pr X ops p w) (pr X ops p' w) with
      | none => rw [hs] at x; cases x
      | some z =>
        obtain ⟨w1, s1⟩ := z
        rw [hs] at x
        obtain ⟨q1, q2⟩ := ihq (k := k) x kk
        refine ⟨q1, q2.trans ?_⟩
        obtain ⟨c, _, _, _, _, _, _, _, _, _, rfl⟩ := selS_spec hs
        rfl
  | _ => intro w w' st st' k h x kk; cases x
theorem lit_ok {β : Nat → Nat} {st : St} {ρ : Env} {L : H} {g : Nat} {c : Bool} (ok : Ok β st ρ L) (h : st.σ g = .v (.bool c)) : Ok β (st.put (some g) (.v (.bool c))) ρ L := by
  refine ⟨fun t => ?_, ok.boxes, ok.inj, ok.nd⟩
  show Rel st.bx β (ρ t) ((T.set deep st.tr g (.v (.bool c))).get t)
  rcases T.get_set deep st.tr g (.v (.bool c)) t with q | ⟨rfl, q⟩ | ⟨_, q⟩
  · rw [q]; trivial
  · rw [q]
    have := ok.slots t
    rw [h] at this; exact this
  · rw [q]; exact ok.slots t
theorem wpP_sound : ∀ (p : Plan) {D : Nat → Bool} {w : Wh} {st : St} {k : Wh → St → HP} {h : H} {β : Nat → Nat} {ρ : Env} {L : H}, inD ops D p = true → wpP X ops p w st k h → Ok β st ρ L →
    (∀ w' st' β' ρ' L' h', Tr β st β' st' → Ok β' st' ρ' L' → Agree D ρ ρ' → k w' st' h' → Goal P ops next w' ρ' L' h') → Goal P ops next w ρ L h := by
  intro p
  induction p with
  | nil => exact fun {D w st k h β ρ L} _ x ok hn => hn _ _ _ _ _ _ (Tr.refl _ _) ok (Agree.refl _ _) x
  | run l p ih =>
    intro D w st k h β ρ L hd x ok hn
    simp only [inD, Bool.and_eq_true] at hd
    exact wpL_sound l x ok hd.1 fun w' st' β' ρ' L' h' t ok' a kk => ih hd.2 kk ok' fun w2 st2 β2 ρ2 L2 h2 t2 ok2 a2 k2 => hn _ _ _ _ _ _ (t.trans t2) ok2 (a.trans a2) k2
  | split g p q ihp ihq =>
    intro D w st k h β ρ L hd x ok hn
    simp only [inD, Bool.and_eq_true] at hd
    simp only [wpP] at x
    cases hc : st.σ g with
    | v z =>
      cases z with
      | bool c =>
        rw [hc] at x
        cases c with
        | true => exact ihp hd.1 (x.1 rfl) (lit_ok ok hc) fun w2 st2 β2 ρ2 L2 h2 t2 ok2 a2 k2 => hn _ _ _ _ _ _ ((Tr.put β st _ _).trans t2) ok2 a2 k2
        | false => exact ihq hd.2 (x.2 rfl) (lit_ok ok hc) fun w2 st2 β2 ρ2 L2 h2 t2 ok2 a2 k2 => hn _ _ _ _ _ _ ((Tr.put β st _ _).trans t2) ok2 a2 k2
      | _ => rw [hc] at x; exact x.elim
    | _ => rw [hc] at x; exact x.elim
  | join its Dm M p q ihp ihq =>
    intro D w st k h β ρ L hd x ok hn
    simp only [inD, Bool.and_eq_true] at hd
    simp only [wpP] at x
    cases hi : inD ops (Nat.testBit Dm) p with
    | false => rw [hi] at x; exact x.elim
    | true =>
      rw [hi] at x
      refine ihp (inD_and hd.1 hi) x ok.inS fun w' st' β' ρ' L' h' t ok' a kk => ?_
      have a1 : Agree D ρ ρ' := fun t ht => a t (by show (D t && _) = false; rw [ht]; rfl)
      have a2 : Agree (Nat.testBit Dm) ρ ρ' := fun t ht => a t (by show (D t && Nat.testBit Dm t) = false; rw [ht, Bool.and_false])
      cases hs : w'.same (aft p w) with
      | false => rw [hs] at kk; exact kk.elim
      | true =>
        rw [hs] at kk
        have := same_eq hs
        subst this
        obtain ⟨s, h1, h2, kk⟩ := meet_elim kk
        · obtain ⟨m1, m2⟩ := meet_ok ok ok' (fun i hi => t.agree i (ink_clean.2 hi)) t.cleaned a2 h1 h2
          exact ihq hd.2 kk m1 fun w2 st2 β2 ρ2 L2 h2 t2 ok2 a3 k2 => hn _ _ _ _ _ _ (m2.trans t2) ok2 (a1.trans a3) k2
  | sel g d Dm p p' q ihp ihp' ihq =>
    intro D w st k h β ρ L hd x ok hn
    simp only [inD, Bool.and_eq_true] at hd
    simp only [wpP] at x
    cases hi : inD ops (Nat.testBit Dm) p && inD ops (Nat.testBit Dm) p' with
    | false => rw [hi] at x; exact x.elim
    | true =>
      rw [hi] at x
      rw [Bool.and_eq_true] at hi
      simp only at x
      cases hs : selS g d (Nat.testBit Dm) st (pr X ops p w) (pr X ops p' w) with
      | none => rw [hs] at x; exact x.elim
      | some z =>
        obtain ⟨w1, s1⟩ := z
        rw [hs] at x
        simp only at x
        obtain ⟨c, sa, sb, u, v, hc, ha, hb, hu, hv, rfl⟩ := selS_spec hs
        have fin : ∀ (b : Bool), c = b → ∀ (s' : St) (z : Bool), s'.bx = st.bx → s'.σ d = .v (.bool z) → z = (bif c then u else v) → ∀ (r : Plan), (∀ {D : Nat → Bool} {w : Wh} {st : St} {k : Wh → St → HP} {h : H} {β : Nat → Nat} {ρ : Env} {L : H}, inD ops D r = true → wpP X ops r w st k h → Ok β st ρ L →
            (∀ w' st' β' ρ' L' h', Tr β st β' st' → Ok β' st' ρ' L' → Agree D ρ ρ' → k w' st' h' → Goal P ops next w' ρ' L' h') → Goal P ops next w ρ L h) → inD ops D r = true → inD ops (Nat.testBit Dm) r = true →
            wpP X ops r w (st.put (some g) (.v (.bool b))) (fun w' st' h' => w' = w1 ∧ st' = s' ∧ h' = h) h → Goal P ops next w ρ L h := fun b hcb s' z hbx hz hze r ih hr1 hr2 hw => by
          subst hcb
          refine ih (inD_and hr1 hr2) hw (lit_ok ok hc) fun w' st' β' ρ' L' h' t ok' a kk => ?_
          obtain ⟨rfl, rfl, rfl⟩ := kk
          have a1 : Agree D ρ ρ' := fun t ht => a t (by show (D t && _) = false; rw [ht]; rfl)
          have a2 : Agree (Nat.testBit Dm) ρ ρ' := fun t ht => a t (by show (D t && Nat.testBit Dm t) = false; rw [ht, Bool.and_false])
          have tt : Tr β st β' st' := (Tr.put β st _ _).trans t
          have bx' : st'.bx = st.bx := hbx
          refine ihq hd.2 x (β := β') (ρ := ρ') (L := L') ⟨fun t => ?_, ?_, ?_, ?_⟩ fun w2 st2 β2 ρ2 L2 h2 t2 ok2 a3 k2 => hn _ _ _ _ _ _ ((tr_bx tt.agree).trans t2) ok2 (a1.trans a3) k2
          · show Rel st.bx β' (ρ' t) ((T.set deep (st.tr.keep (Nat.testBit Dm)) d (.v (.bool (bif c then u else v)))).get t)
            rcases T.get_set deep (st.tr.keep (Nat.testBit Dm)) d (.v (.bool (bif c then u else v))) t with q | ⟨rfl, q⟩ | ⟨_, q⟩
            · rw [q]; trivial
            · rw [q, ← hze]
              have := ok'.slots t
              rw [hz] at this
              exact this
            · rw [q, T.get_keep]
              cases hD : Nat.testBit Dm t with
              | true => rw [if_pos rfl]; trivial
              | false =>
                rw [if_neg Bool.false_ne_true, a2 t hD]
                have := ok.slots t
                revert this
                show Rel st.bx β (ρ t) (st.σ t) → Rel st.bx β' (ρ t) (st.σ t)
                cases st.σ t with
                | box j off => intro q m; rw [tt.agree j m]; exact q m
                | lit j n => intro q m; rw [tt.agree j m]; exact q m
                | _ => exact id
          · show ∀ e, e ∈ st.bx → _; rw [← bx']; exact ok'.boxes
          · show ∀ i j, InK st.bx i → InK st.bx j → _; rw [← bx']; exact ok'.inj
          · show (st.bx.map Bx.key).Nodup; exact ok.nd
        cases hcc : c with
        | true =>
          obtain ⟨q1, q2⟩ := pr_wpP p (k := fun w' st' h' => w' = w1 ∧ st' = sa ∧ h' = h) ha ⟨rfl, rfl, rfl⟩
          exact fin true hcc sa u q2 hu (by rw [hcc]; rfl) p ihp hd.1.1 hi.1 q1
        | false =>
          obtain ⟨q1, q2⟩ := pr_wpP p' (k := fun w' st' h' => w' = w1 ∧ st' = sb ∧ h' = h) hb ⟨rfl, rfl, rfl⟩
          exact fin false hcc sb v q2 hv (by rw [hcc]; rfl) p' ihp' hd.1.2 hi.2 q1
  | both i j p q ihp ihq =>
    intro D w st k h β ρ L hd x ok hn
    simp only [inD, Bool.and_eq_true] at hd
    simp only [wpP] at x
    cases hm : may2 ops w i j with
    | false => rw [hm] at x; exact x.elim
    | true =>
      rw [hm] at x
      exact both_goal hm x.1 x.2 ok hd.1.1.1 hd.1.1.2
        (fun β' st' ρ' L' h' t ok' a kk => ihp hd.1.2 kk ok' fun w2 st2 β2 ρ2 L2 h2 t2 ok2 a2 k2 => hn _ _ _ _ _ _ (t.trans t2) ok2 (a.trans a2) k2)
        (fun β' st' ρ' L' h' t ok' a kk => ihq hd.2 kk ok' fun w2 st2 β2 ρ2 L2 h2 t2 ok2 a2 k2 => hn _ _ _ _ _ _ (t.trans t2) ok2 (a.trans a2) k2)
  | alt i p q ihp ihq =>
    intro D w st k h β ρ L hd x ok hn
    simp only [inD, Bool.and_eq_true] at hd
    simp only [wpP] at x
    cases hm : mayA ops w with
    | false => rw [hm] at x; exact x.elim
    | true =>
      rw [hm] at x
      exact alt_goal hm x.1 ok hd.1.1
        (fun β' st' ρ' L' h' t ok' a kk => ihp hd.1.2 kk ok' fun w2 st2 β2 ρ2 L2 h2 t2 ok2 a2 k2 => hn _ _ _ _ _ _ (t.trans t2) ok2 (a.trans a2) k2)
        (ihq hd.2 x.2 ok hn)
theorem inD_all : ∀ (p : Plan), inD ops (fun _ => true) p = true := by
  have one : ∀ i, dIn ops (fun _ => true) i = true := fun i => by
    unfold dIn dstIn
    split
    · split <;> rfl
    · rfl
  intro p
  induction p with
  | nil => rfl
  | run l p ih => simp only [inD, ih, Bool.and_true, List.all_eq_true]; exact fun x _ => one _
  | split g p q ihp ihq => simp only [inD, ihp, ihq]; rfl
  | join its D M p q ihp ihq => simp only [inD, ihp, ihq]; rfl
  | sel g d D p p' q ihp ihp' ihq => simp only [inD, ihp, ihp', ihq]; rfl
  | both i j p q ihp ihq => simp only [inD, ihp, ihq, one]; rfl
  | alt i p q ihp ihq => simp only [inD, ihp, ihq, one]; rfl
end plans
theorem decs_v : ∀ {A : List Ty} {l : List Value} {a : Den A}, decs A (l.map SV.v) = some a → l = valsD A a := by
  have one : ∀ {τ : Ty} {v : Value} {a : τ.T}, τ.dec (.v v) = some a → v = τ.val a := fun {τ v a} e => (τ.law _ _ e).symm
  intro A
  induction A with
  | nil =>
    intro l a e
    cases l with
    | nil => rfl
    | cons => cases e
  | cons t r ih =>
    intro l a e
    cases r with
    | nil =>
      match l, e with
      | [x], e => show [x] = [t.val a]; rw [one e]
      | x :: y :: r, e => cases e
    | cons u r =>
      match l, e with
      | x :: xs, e =>
        have e : (match t.dec (.v x), decs (u :: r) (xs.map SV.v) with | some p, some q => some (p, q) | _, _ => none) = some a := e
        split at e
        · rename_i p q h1 h2
          cases e
          show x :: xs = t.val p :: valsD (u :: r) q
          rw [one h1, ← ih h2]
        · cases e
section code
variable {P : Program} {X : Cx P} {n : Nat}
def PostOf (β : Nat → Nat) (st : St) (Q : Exit → St → HP) : Exit → Post := fun e ρ' L' h' => ∃ β' st', Tr β st β' st' ∧ Ok β' st' ρ' L' ∧ Q e st' h'
theorem fin_goal {ops : Array Oper} {next : Post} {w : Wh} {ρ : Env} {L h : H} (hf : fin ops w = true) (k : next ρ L h) : Goal P ops next w ρ L h := by
  cases w with
  | seq l =>
    have : l = [] := List.isEmpty_iff.1 hf
    subst this; exact k
  | any listed f => exact td (List.isEmpty_iff.1 hf) k
  | part listed f c => cases hf
theorem setA_ok {β : Nat → Nat} {L : H} : ∀ {A : List Ty} (x : Den A) (ps : List Tmp) {st : St} {ρ : Env}, Ok β st ρ L → Ok β (setA ps (svsD A x) st) (putL ρ ps (valsD A x)) L := by
  intro A
  induction A with
  | nil => intro x ps st ρ k; cases ps <;> exact k
  | cons t r ih =>
    intro x ps st ρ k
    cases ps with
    | nil => cases r <;> exact k
    | cons p ps =>
      cases r with
      | nil => cases ps <;> exact k.put ((t.svl x).rel _ _) (some p)
      | cons u r => exact ih x.2 ps (k.put ((t.svl x.1).rel _ _) (some p))
theorem outX_ok {Q : Exit → HP} {R : Exit → Post} {ρ : Env} {L : H} (hQ : ∀ e h, Q e h → R e ρ L h) : ∀ (xs : List Nat) {id : Nat} {h : H}, outX Q (id + 2) xs h → R (.exit id) ρ L h := by
  intro xs
  induction xs with
  | nil => exact fun x => x.elim
  | cons a r ih =>
    intro id h x
    by_cases e : id = a
    · subst e; exact hQ _ _ (x.1 (Nat.beq_refl _))
    · exact ih (x.2 (by rw [← Bool.not_eq_true, Nat.beq_eq]; omega))
theorem outX_no {Q : Exit → HP} {j : Nat} (hj : j < 2) : ∀ (xs : List Nat) {h : H}, ¬ outX Q j xs h := by
  intro xs
  induction xs with
  | nil => exact fun x => x.elim
  | cons a r ih => exact fun x => ih (x.2 (by rw [← Bool.not_eq_true, Nat.beq_eq]; omega))
theorem outK_ok {Q : Exit → HP} {R : Exit → Post} {ρ : Env} {L : H} (hQ : ∀ e h, Q e h → R e ρ L h) {xs : List Nat} {rt : Bool} : ∀ (j : Nat) {h : H}, outK xs rt Q j h → jumpQ R j ρ L h
  | 0, _, x => hQ _ _ (x.1 rfl)
  | 1, _, x => by
    have x := x.2 rfl
    cases rt with
    | true => exact hQ _ _ (x.1 rfl)
    | false => exact (outX_no (by omega) _ x).elim
  | id + 2, _, x => by
    have x := x.2 rfl
    cases rt with
    | true => exact outX_ok hQ xs (x.2 rfl)
    | false => exact outX_ok hQ xs x
theorem valsD_len : ∀ {A : List Ty} (a : Den A), (valsD A a).length = A.length := by
  intro A
  induction A with
  | nil => intro a; rfl
  | cons t r ih =>
    intro a
    cases r with
    | nil => rfl
    | cons u r => show (valsD (u :: r) a.2).length + 1 = _; rw [ih]; rfl
theorem wpc_sound : ∀ (c : Code) {top : Bool} {hint : Hint} {Q : Exit → St → HP} {st : St} {h : H} {β : Nat → Nat} {ρ : Env} {L : H}, wpc X n c top hint Q st h → Ok β st ρ L → cwp P n noP c top (PostOf β st Q) ρ L h := by
  intro c
  induction c using codeInd with
  | skip => exact fun x ok => ⟨_, _, .refl .., ok, x⟩
  | label l => exact fun x ok => ⟨_, _, .refl .., ok, x⟩
  | ret => exact fun x ok => ⟨_, _, .refl .., ok, x⟩
  | exit id => exact fun x ok => ⟨_, _, .refl .., ok, x⟩
  | region id ops dr =>
    intro top hint Q st h β ρ L x ok
    simp only [wpc] at x
    cases hf : fits n ops with
    | false => rw [hf] at x; exact x.elim
    | true =>
      rw [hf] at x
      have g := fun w0 (x : wpP X ops (hint.plan ops.size) w0 st (fun w st' => match fin ops w with | true => Q .normal st' | false => nope) h) =>
        wpP_sound (next := PostOf β st Q .normal) (hint.plan ops.size) (inD_all _) x ok fun w' st' β' ρ' L' h' t ok' _ kk => by
          cases hw : fin ops w' with
          | false => rw [hw] at kk; exact kk.elim
          | true => rw [hw] at kk; exact fin_goal hw ⟨β', st', t, ok', kk⟩
      cases dr with
      | false => exact ⟨hf, g _ x⟩
      | true => exact ⟨X.mixed, hf, g _ x⟩
  | block id a ih =>
    intro top hint Q st h β ρ L x ok
    simp only [wpc] at x
    refine cwp_mono a _ _ _ (fun e ρ' L' h' k => ?_) _ _ _ (ih x ok)
    obtain ⟨β', st', t, ok', q⟩ := k
    cases e with
    | exit id' =>
      simp only at q
      show (bif Nat.beq id' id then PostOf β st Q .normal else PostOf β st Q (.exit id')) ρ' L' h'
      cases hb : Nat.beq id' id <;> rw [hb] at q <;> exact ⟨β', st', t, ok', q⟩
    | _ => exact ⟨β', st', t, ok', q⟩
  | goto l => exact fun x ok => ⟨_, _, .refl .., ok, x⟩
  | scope a ih ihs =>
    intro top hint Q st h β ρ L x ok
    have dflt : ∀ ha, wpc X n a top ha (fun e st' => match e with | .goto _ => nope | e => Q e st') st h → cwp P n noP (.scope a) top (PostOf β st Q) ρ L h := fun ha x => by
      simp only [cwp]
      refine .inl (cwp_mono a _ _ _ (fun e ρ' L' h' k => ?_) _ _ _ (ih x ok))
      obtain ⟨β', st', t, ok', q⟩ := k
      cases e with
      | goto l => exact q.elim
      | _ => exact ⟨β', st', t, ok', q⟩
    cases hint with
    | jmp its D M hp hb =>
      cases a with
      | seq pre y =>
        cases y with
        | seq z b =>
          cases z with
          | label l =>
            obtain ⟨ih1, ih2⟩ := ihs pre l b rfl
            have x : (match (findLabel pre l).isNone, dstsIn (Nat.testBit D) b with
              | true, true => wpc X n pre top hp (fun e st1 => match e with
                | .normal => (match decs (tysI its) (getI (inS st1) its) with
                  | some s0 => mLoop (fun (rec : DenI its → HP) (s : DenI its) =>
                    wpc X n b top hb (fun e st' => match e with
                      | .goto l' => (match Nat.beq l' l with | true => meet its M (inS st1).bx rec st' | false => nope)
                      | e => Q e (backS st1 st')) (encS its (Nat.testBit D) M s (inS st1))) s0
                  | none => nope)
                | .goto _ => nope
                | e => Q e st1) st
              | _, _ => nope : HP) h := x
            cases hl : (findLabel pre l).isNone with
            | false => rw [hl] at x; exact x.elim
            | true =>
            cases hD : dstsIn (Nat.testBit D) b with
            | false => rw [hl, hD] at x; exact x.elim
            | true =>
            rw [hl, hD] at x
            simp only at x
            simp only [cwp]
            refine .inr ⟨hl, cwp_mono pre _ _ _ (fun e ρ' L' h' k => ?_) _ _ _ (ih1 x ok)⟩
            obtain ⟨β1, st1, t1, ok1, q⟩ := k
            cases e with
            | normal =>
              simp only at q
              cases hs : decs (tysI its) (getI (inS st1) its) with
              | none => rw [hs] at q; exact q.elim
              | some s0 =>
                rw [hs] at q
                simp only at q
                obtain ⟨N, x⟩ := q
                refine drop.of (K := fun ρ L h => ∃ N, iterG l (fun Q => cwp P n noP b top Q) (PostOf β st Q) N ρ L h) ⟨N, ?_⟩
                obtain ⟨m1, m2⟩ := meet_ok (D := Nat.testBit D) (M := M) ok1.inS ok1.inS (fun _ _ => rfl) (Tr.refl β1 (inS st1)).cleaned' (Agree.refl _ ρ') hs (stayed_clean M ok1.nd)
                generalize hF : (fun (rec : DenI its → HP) (s : DenI its) => wpc X n b top hb (fun e st' => match e with
                      | .goto l' => (match Nat.beq l' l with | true => meet its M (inS st1).bx rec st' | false => nope)
                      | e => Q e (backS st1 st')) (encS its (Nat.testBit D) M s (inS st1))) = F at x
                have key : ∀ N s β2 ρ1 L1 h1, loopF F N s h1 → Ok β2 (encS its (Nat.testBit D) M s (inS st1)) ρ1 L1 → Tr β1 (inS st1) β2 (encS its (Nat.testBit D) M s (inS st1)) → Agree (Nat.testBit D) ρ' ρ1 → iterG l (fun Q => cwp P n noP b top Q) (PostOf β st Q) N ρ1 L1 h1 := by
                  intro N
                  induction N with
                  | zero => intro s β2 ρ1 L1 h1 x; exact x.elim
                  | succ N ihN =>
                    intro s β2 ρ1 L1 h1 x ok2 t2 ag1
                    have x : F (loopF F N) s h1 := x
                    rw [← hF] at x
                    refine cwp_mono b _ _ _ (fun e ρ3 L3 h3 k => ?_) _ _ _ (cwp_agree b _ hD _ _ _ _ (ih2 x ok2))
                    obtain ⟨ag, β', st', t, ok', q⟩ := k
                    have tt := t2.trans t
                    cases e with
                    | goto l' =>
                      simp only at q
                      cases hb' : Nat.beq l' l with
                      | false => rw [hb'] at q; exact q.elim
                      | true =>
                        rw [hb'] at q
                        obtain ⟨s', g1, g2, kk⟩ := meet_elim q
                        obtain ⟨m1, m2⟩ := meet_ok ok1.inS ok' tt.agree tt.cleaned' (ag1.trans ag) g1 g2
                        rw [hF] at kk
                        exact ⟨Nat.eq_of_beq_eq_true hb', drop.of (ihN s' β' ρ3 L3 h3 kk m1 m2 (ag1.trans ag))⟩
                    | _ => exact ⟨β', _, t1.trans (tt.back ok1.nd), ok'.backS, q⟩
                exact key N s0 β1 ρ' L' h' x m1 m2 (.refl _ _)
            | goto l' => exact q.elim
            | _ => exact ⟨β1, st1, t1, ok1, q⟩
          | _ => exact x.elim
        | _ => exact x.elim
      | _ => exact x.elim
    | _ => exact dflt _ x
  | cond c a b iha ihb =>
    intro top hint Q st h β ρ L x ok
    simp only [wpc] at x
    cases hc : sv st c with
    | v z =>
      cases z with
      | bool t =>
        rw [hc] at x
        have hv := ok.v hc
        have dflt : ∀ ha hb, mIf t (wpc X n a top ha Q st) (wpc X n b top hb Q st) h → cwp P n noP (.cond c a b) top (PostOf β st Q) ρ L h := fun ha hb x =>
          ⟨t, hv, fun e => iha (x.1 e) ok, fun e => ihb (x.2 e) ok⟩
        cases hint with
        | known ha hb =>
          simp only at x
          refine ⟨t, hv, fun e => ?_, fun e => ?_⟩
          · subst e; exact iha x ok
          · subst e; exact ihb x ok
        | _ => exact dflt _ _ x
      | _ => rw [hc] at x; exact x.elim
    | _ => rw [hc] at x; exact x.elim
  | seq a b iha ihb =>
    intro top hint Q st h β ρ L x ok
    have dflt : ∀ ha hb, wpc X n a top ha (fun e st' => match e with | .normal => wpc X n b top hb Q st' | e => Q e st') st h → cwp P n noP (.seq a b) top (PostOf β st Q) ρ L h := fun ha hb x => by
      refine cwp_mono a _ _ _ (fun e ρ' L' h' k => ?_) _ _ _ (iha x ok)
      obtain ⟨β', st', t, ok', q⟩ := k
      cases e with
      | normal =>
        refine drop.of (cwp_mono b _ _ _ (fun e ρ2 L2 h2 k => ?_) _ _ _ (ihb q ok'))
        obtain ⟨β2, st2, t2, ok2, q2⟩ := k
        exact ⟨β2, st2, t.trans t2, ok2, q2⟩
      | _ => exact ⟨β', st', t, ok', q⟩
    simp only [wpc] at x
    cases hint with
    | join its D M ha hb =>
      simp only at x
      cases hD : dstsIn (Nat.testBit D) a with
      | false => rw [hD] at x; exact x.elim
      | true =>
        rw [hD] at x
        refine cwp_mono a _ _ _ (fun e ρ' L' h' k => ?_) _ _ _ (cwp_agree a _ hD _ _ _ _ (iha x ok.inS))
        obtain ⟨ag, β', st', t, ok', q⟩ := k
        cases e with
        | normal =>
          obtain ⟨s, h1, h2, kk⟩ := meet_elim q
          obtain ⟨m1, m2⟩ := meet_ok ok ok' (fun i hi => t.agree i (ink_clean.2 hi)) t.cleaned ag h1 h2
          refine drop.of (cwp_mono b _ _ _ (fun e ρ2 L2 h2 k => ?_) _ _ _ (ihb kk m1))
          obtain ⟨β2, st2, t2, ok2, q2⟩ := k
          exact ⟨β2, st2, m2.trans t2, ok2, q2⟩
        | _ => exact ⟨β', _, t.back ok.nd, ok'.backS, q⟩
    | _ => exact dflt _ _ x
  | loop a ih =>
    intro top hint Q st h β ρ L x ok
    simp only [wpc] at x
    cases hint with
    | loop its D M ha =>
      simp only at x
      cases hD : dstsIn (Nat.testBit D) a with
      | false => rw [hD] at x; exact x.elim
      | true =>
        rw [hD] at x
        cases hs : decs (tysI its) (getI (inS st) its) with
        | none => rw [hs] at x; exact x.elim
        | some s0 =>
          rw [hs] at x
          simp only at x
          obtain ⟨N, x⟩ := x
          refine ⟨N, ?_⟩
          obtain ⟨m1, m2⟩ := meet_ok (D := Nat.testBit D) (M := M) ok.inS ok.inS (fun _ _ => rfl) (Tr.refl β (inS st)).cleaned' (Agree.refl _ ρ) hs (stayed_clean M ok.nd)
          generalize hF : (fun (rec : DenI its → HP) (s : DenI its) => wpc X n a top ha (fun e st' => match e with | .normal => meet its M (inS st).bx rec st' | e => Q e (backS st st')) (encS its (Nat.testBit D) M s (inS st))) = F at x
          have key : ∀ N s β1 ρ1 L1 h1, loopF F N s h1 → Ok β1 (encS its (Nat.testBit D) M s (inS st)) ρ1 L1 → Tr β (inS st) β1 (encS its (Nat.testBit D) M s (inS st)) → Agree (Nat.testBit D) ρ ρ1 → iter (fun Q => cwp P n noP a top Q) (PostOf β st Q) N ρ1 L1 h1 := by
            intro N
            induction N with
            | zero => intro s β1 ρ1 L1 h1 x; exact x.elim
            | succ N ihN =>
              intro s β1 ρ1 L1 h1 x ok1 t1 ag1
              have x : F (loopF F N) s h1 := x
              rw [← hF] at x
              refine cwp_mono a _ _ _ (fun e ρ' L' h' k => ?_) _ _ _ (cwp_agree a _ hD _ _ _ _ (ih x ok1))
              obtain ⟨ag, β', st', t, ok', q⟩ := k
              have tt := t1.trans t
              cases e with
              | normal =>
                obtain ⟨s', g1, g2, kk⟩ := meet_elim q
                obtain ⟨m1, m2⟩ := meet_ok ok.inS ok' tt.agree tt.cleaned' (ag1.trans ag) g1 g2
                rw [hF] at kk
                exact drop.of (ihN s' β' ρ' L' h' kk m1 m2 (ag1.trans ag))
              | _ => exact ⟨β', _, tt.back ok.nd, ok'.backS, q⟩
          exact key N s0 β ρ L h x m1 m2 (.refl _ _)
    | _ => exact x.elim
  | rangeFunc g ps as_ bd iha ihb =>
    intro top hint Q st h β ρ L x ok
    simp only [wpc] at x
    have main : ∀ A xs rt ha hb fv, valOf? (sv st g) = some fv → (ps.toList.all fun p => Nat.blt p n) = true → (match Nat.beq A.length ps.size with
      | true => mRangeF P (valsD A) fv (fun (x : Den A) mid kj =>
          wpc X n as_ false ha (fun e st1 => match e with
            | .normal => mid (wpc X n bd false hb (fun e _ => match e with | .normal => kj 0 | .ret => kj 1 | .exit id => kj (id + 2) | _ => nope) st1)
            | _ => nope) (setA ps.toList (svsD A x) ⟨st.tr, []⟩)) (outK xs rt fun e => Q e st)
      | false => nope : HP) h → cwp P n noP (.rangeFunc g ps as_ bd) true (PostOf β st Q) ρ L h := fun A xs rt ha hb fv h1 h2 x => by
      cases hl : Nat.beq A.length ps.size with
      | false => rw [hl] at x; exact x.elim
      | true =>
        rw [hl] at x
        obtain ⟨f, fn, first, cap, rfl, cal, key⟩ := x
        refine ⟨rfl, fun _ _ x => x, h2, f, fn, first, cap, valOf_ok ok h1, ⟨cal.here, cal.name, cal.body⟩, fun l ob bz hf yl => (key l ob bz hf fun x kb h' h0 k => yl (valsD A x) kb h' (by rw [valsD_len]; exact Nat.eq_of_beq_eq_true hl) h0 ?_).mono (fun v h'' ⟨j, hj, kk⟩ => ⟨j, hj, fun o => outK_ok (fun e h q => ⟨β, st, .refl .., ok, q⟩) j (kk o)⟩) fun _ _ k => k⟩
        have ok0 : Ok β ⟨st.tr, []⟩ ρ (fun _ => none) := by
          refine ⟨fun t => ?_, fun e he => (by cases he), fun i j ⟨e, he, _⟩ => (by cases he), List.nodup_nil⟩
          have := ok.slots t
          show Rel [] β (ρ t) (st.σ t)
          cases hs : st.σ t <;> rw [hs] at this <;> first | exact this | (rintro ⟨e, he, _⟩; cases he)
        refine cwp_mono as_ _ _ _ (fun e ρ1 L1 h1 q => ?_) _ _ _ (iha k (setA_ok x ps.toList ok0))
        obtain ⟨β1, st1, t1, ok1, q⟩ := q
        cases e with
        | normal =>
          refine ⟨q.1, cwp_mono bd _ _ _ (fun e ρ2 L2 h2 q2 => ?_) _ _ _ (ihb q.2 ok1)⟩
          obtain ⟨β2, st2, t2, ok2, q2⟩ := q2
          cases e <;> first | exact q2.elim | exact q2
        | _ => exact q.elim
    cases top with
    | false => exact x.elim
    | true =>
      cases hint with
      | rng A xs rt ha hb =>
        cases h1 : valOf? (sv st g) with
        | none => rw [h1] at x; exact x.elim
        | some fv =>
          cases h2 : (ps.toList.all fun p => Nat.blt p n) with
          | false => rw [h1, h2] at x; exact x.elim
          | true => rw [h1, h2] at x; exact main A xs rt ha hb fv h1 h2 x
      | _ => exact x.elim
  | _ => exact fun x _ => x.elim
inductive Fits : List SV → List Value → Prop
  | nil : Fits [] []
  | cons {a : SV} {v : Value} {l : List SV} {m : List Value} : (∀ w, a.is w → v = w) → Fits l m → Fits (a :: l) (v :: m)
theorem decs_fits : ∀ {A : List Ty} {l : List SV} {vs : List Value} {a : Den A}, decs A l = some a → Fits l vs → vs = valsD A a := by
  intro A
  induction A with
  | nil =>
    intro l vs a e f
    cases l with
    | nil => cases f; rfl
    | cons => cases e
  | cons t r ih =>
    intro l vs a e f
    cases r with
    | nil =>
      match l, vs, e, f with
      | [x], [v], e, .cons h .nil => show [v] = [t.val a]; rw [h _ (t.law _ _ e)]
      | x :: y :: r, _, e, _ => cases e
    | cons u r =>
      match l, vs, e, f with
      | x :: xs, v :: vs, e, .cons h f =>
        have e : (match t.dec x, decs (u :: r) xs with | some p, some q => some (p, q) | _, _ => none) = some a := e
        split at e
        · rename_i p q h1 h2
          cases e
          show v :: vs = t.val p :: valsD (u :: r) q
          rw [h _ (t.law _ _ h1), ← ih h2 f]
        · cases e
theorem resM_ok {β : Nat → Nat} {st : St} {ρ : Env} {L h : H} (ok : Ok β st ρ L) (ap : Apart L h) : ∀ {rs : List ResultVar} {k : List SV → HP}, resM X st rs k h → ∃ vs l, RdsL P (un L h) ρ rs vs ∧ Fits l vs ∧ k l h := by
  intro rs
  induction rs with
  | nil => intro k e; exact ⟨[], [], trivial, .nil, e⟩
  | cons r rs ih =>
    intro k e
    cases r with
    | tmp t =>
      obtain ⟨vs, l, a, b, c⟩ := ih (k := fun l => k (st.σ t :: l)) e
      exact ⟨ρ t :: vs, _, ⟨rfl, a⟩, .cons (fun _ hw => is_eq hw (ok.slots t)) b, c⟩
    | cell a t =>
      simp only [resM] at e
      cases h2 : st.σ a with
      | box i off =>
        rw [h2] at e
        simp only at e
        cases h3 : findB st.bx i with
        | none => rw [h3] at e; exact e.elim
        | some b =>
          cases h4 : P.underlying t with
          | none => rw [h3, h4] at e; exact e.elim
          | some td =>
            cases h5 : P.info? t with
            | none => rw [h3, h4, h5] at e; exact e.elim
            | some ti =>
              rw [h3, h4, h5] at e
              simp only at e
              obtain ⟨c, hc, kn⟩ := ok.at h3
              have ha : ρ a = .pointer (some ⟨β i, off, none⟩) := ok.box (x := .tmp a) h2 h3
              cases hg : aggB td with
              | true =>
                rw [hg] at e
                simp only at e
                cases hw : grabO b.cells off ti.size with
                | none => rw [hw] at e; exact e.elim
                | some ws =>
                  rw [hw] at e
                  obtain ⟨vs, l, p, q, kk⟩ := ih e
                  exact ⟨_ :: vs, _, ⟨⟨_, ha, rds_load_agg h4 hg h5 rfl (un_left hc) (grabO_grab kn hw)⟩, p⟩, .cons (a := .v (.agg ws.toArray)) (fun _ hw => Eq.symm hw) q, kk⟩
              | false =>
                rw [hg] at e
                simp only at e
                have one : ∀ v, grabO b.cells off 1 = some [v] → resM X st rs (fun l => k (.v v :: l)) h → ∃ vs l, RdsL P (un L h) ρ (.cell a t :: rs) vs ∧ Fits l vs ∧ k l h := fun v hw e => by
                  obtain ⟨vs, l, p, q, kk⟩ := ih e
                  exact ⟨_ :: vs, _, ⟨⟨_, ha, rds_load_scalar h4 hg rfl (un_left hc) (grab_one (grabO_grab kn hw))⟩, p⟩, .cons (a := .v v) (fun _ hw => Eq.symm hw) q, kk⟩
                cases hw : grabO b.cells off 1 with
                | none => rw [hw] at e; exact e.elim
                | some ws =>
                  rw [hw] at e
                  match ws, hw, e with
                  | [v], hw, e => exact one v hw e
                  | [], _, e => exact e.elim
                  | _ :: _ :: _, _, e => exact e.elim
      | adr ad =>
        rw [h2] at e
        simp only at e
        have ha : ρ a = .pointer (some ad) := ok.adr (x := .tmp a) h2
        cases hτ : tyOf X.ty t with
        | none => rw [hτ] at e; exact e.elim
        | some τ =>
          rw [hτ] at e
          simp only at e
          cases ho : tyOk P t τ with
          | false => rw [ho] at e; exact e.elim
          | true =>
            rw [ho] at e
            obtain ⟨td, hu, hor⟩ := tyOk_spec ho
            obtain ⟨x, hat, e⟩ := e
            obtain ⟨hsp, c, et, fz, hb, hg⟩ := At_un ap hat
            obtain ⟨vs, l, p, q, kk⟩ := ih e
            refine ⟨τ.val x :: vs, _, ⟨⟨ad, ha, ?_⟩, p⟩, .cons (fun w hw => is_eq hw ((τ.svl x).rel st.bx β)) q, kk⟩
            rcases hor with ⟨h1, h2⟩ | ⟨ti, hi, h1, h2, h3⟩
            · rcases τ.hc with ⟨c1, _⟩ | ⟨_, c2⟩
              · rw [h2] at c1; cases c1
              · rw [c2] at hg
                exact rds_load_scalar hu h1 hsp hb (grab_one hg)
            · rcases τ.hc with ⟨_, c2⟩ | ⟨c1, _⟩
              · rw [(c2 x).1]
                rw [(c2 x).2, ← h3] at hg
                exact rds_load_agg hu h1 hi hsp hb hg
              · rw [h2] at c1; cases c1
      | _ => rw [h2] at e; exact e.elim
theorem argG_ok : ∀ {A : List Ty} {a : Den A} (n : Nat) (t : T) (u : Nat), (argG (svsD A a) n t).get u = .no ∨ (∃ v, ((argG (svsD A a) n t).get u).is v ∧ n ≤ u ∧ (valsD A a)[u - n]? = some v) ∨ (argG (svsD A a) n t).get u = t.get u := by
  have step : ∀ (n : Nat) (t : T) (s : SV) (v : Value) (g : T) (u : Nat), s.is v → (g.get u = .no ∨ (∃ v, (g.get u).is v ∧ n + 1 ≤ u ∧ False) ∨ g.get u = (T.set deep t n s).get u) → (g.get u = .no ∨ ((g.get u).is v ∧ u = n) ∨ g.get u = t.get u) := fun n t s v g u hs h => by
    rcases h with q | ⟨_, _, _, q⟩ | q
    · exact .inl q
    · exact q.elim
    · rcases T.get_set deep t n s u with w | ⟨w1, w⟩ | ⟨_, w⟩
      · exact .inl (q.trans w)
      · refine .inr (.inl ⟨?_, w1⟩); rw [q, w]; exact hs
      · exact .inr (.inr (q.trans w))
  intro A
  induction A with
  | nil => intro a n t u; exact .inr (.inr rfl)
  | cons x r ih =>
    intro a n t u
    cases r with
    | nil =>
      rcases step n t (x.sv a) (x.val a) (T.set deep t n (x.sv a)) u (x.svl a) (.inr (.inr rfl)) with q | ⟨q1, q2⟩ | q
      · exact .inl q
      · subst q2; exact .inr (.inl ⟨_, q1, Nat.le_refl _, by rw [Nat.sub_self]; rfl⟩)
      · exact .inr (.inr q)
    | cons w r =>
      rcases ih (a := a.2) (n + 1) (T.set deep t n (x.sv a.1)) u with q | ⟨v, q1, q2, q3⟩ | q
      · exact .inl q
      · refine .inr (.inl ⟨v, q1, by omega, ?_⟩)
        rw [show u - n = (u - (n + 1)) + 1 by omega]; exact q3
      · rcases step n t (x.sv a.1) (x.val a.1) (argG (svsD (x :: w :: r) a) n t) u (x.svl a.1) (.inr (.inr q)) with q | ⟨q1, q2⟩ | q
        · exact .inl q
        · subst q2; exact .inr (.inl ⟨_, q1, Nat.le_refl _, by rw [Nat.sub_self]; rfl⟩)
        · exact .inr (.inr q)
theorem wpF_ok (X : Cx P) {f : FuncId} {fn : Func} (hf : P.funcs[f]? = some fn) {A R : List Ty} (hn : Nat.ble A.length fn.ntmps = true) {hint : Hint} {a : Den A} {K : Den R → HP} {h : H} (hm : wpF X fn A R hint a K h) :
    ACall P f (valsD A a).toArray h (fun v h' => ∃ r, v = outV (valsD R r) ∧ K r h') noP := by
  unfold wpF at hm
  cases hb : fn.body with
  | none => rw [hb] at hm; exact hm.elim
  | some c =>
    rw [hb] at hm
    simp only at hm
    refine ac_func hf hb (by simp only [List.size_toArray, valsD_len]; exact Nat.le_of_ble_eq_true hn) (cwp_sound c _ _ _ _ _ (cwp_mono c _ _ _ (fun e ρ' L' h' k => ?_) _ _ _ (wpc_sound c hm (β := fun i => i) (ρ := start (valsD A a).toArray) (L := fun _ => none) ⟨fun t => ?_, fun e he => (by cases he), fun i j ⟨e, he, _⟩ => (by cases he), List.nodup_nil⟩)))
    · obtain ⟨β', st', t, ok', q⟩ := k
      have fin : (resM X st' fn.results.toList fun l => (match decs R l with | some r => K r | none => nope : HP)) h' → Out P fn (fun v h' => ∃ r, v = outV (valsD R r) ∧ K r h') ρ' L' h' := fun q => out_one (rs := fn.results.toList) rfl fun ap => by
        obtain ⟨vs, l, p1, p2, p3⟩ := resM_ok ok' ap q
        cases h2 : decs R l with
        | none => rw [h2] at p3; exact p3.elim
        | some r =>
          rw [h2] at p3
          have := decs_fits h2 p2
          subst this
          exact ⟨_, p1, r, rfl, p3⟩
      cases e with
      | normal => exact fin q
      | ret => exact fin q
      | _ => exact q.elim
    · show Rel [] _ (start (valsD A a).toArray t) ((argG (svsD A a) 0 .e).get t)
      rcases argG_ok (a := a) 0 .e t with q | ⟨v, q1, _, q2⟩ | q
      · rw [q]; trivial
      · have : start (valsD A a).toArray t = v := by
          simp only [start, Array.getD_eq_getD_getElem?, List.getElem?_toArray, Nat.sub_zero] at q2 ⊢
          rw [q2, Option.getD_some]
        rw [this]; exact q1.rel _ _
      · rw [q]; trivial
end code
def decStruct (tys : List Ty) {S : Type} (mk : Den tys → S) : SV → Option S
  | .v (.agg c) => match decs tys (c.toList.map SV.v) with | some x => some (mk x) | none => none
  | _ => none
def tStruct {S : Type} (tys : List Ty) (val : S → Value) (cells : S → List Value) (mk : Den tys → S) (h1 : ∀ x, val x = .agg (cells x).toArray) (h2 : ∀ x, (cells x).length = tys.length) (h3 : ∀ y, cells (mk y) = valsD tys y) : Ty :=
  ⟨S, val, cells, decStruct tys mk, fun x => .v (val x), tys.length, true,
    fun s x e => (by
      unfold decStruct at e
      split at e
      · rename_i c
        split at e
        · rename_i y hy
          cases e
          show val _ = Value.agg c
          rw [h1, h3, ← decs_v hy]
        · cases e
      · cases e), fun _ => rfl, .inl ⟨rfl, fun x => ⟨h1 x, h2 x⟩⟩⟩
def mkSpec {P : Program} (X : Cx P) (f : FuncId) (fn : Func) (A R : List Ty) (pure : Bool) (hint : Hint) (m : Den A → (Den R → HP) → HP) (hm : ∀ a K h, m a K h = wpF X fn A R hint a K h) (c : Callee P f fn) (hn : Nat.ble A.length fn.ntmps = true) : Spec P :=
  ⟨f, A, R, pure, m, fun a K h x => wpF_ok X c.here hn ((hm a K h).mp x), ⟨fn, c⟩⟩
end Go.Proofs.YtdleanjofhghnaaDoor.K
namespace Go.Proofs.YtdleanjofhghnaaDoor.K
open Go Go.Proofs
theorem mixed : Tryd.prog.follows .mixedOrders = true := by kernel_rfl
structure S_api_Word where
  Hi : Int
  Lo : Int
def S_api_Word.cells (x : S_api_Word) : _root_.List Value := [(Value.int .u64 x.Hi), (Value.int .u64 x.Lo)]
def S_api_Word.val (x : S_api_Word) : Value := .agg (S_api_Word.cells x).toArray
def S_api_Word.ty : Ty := tStruct [(tInt .u64), (tInt .u64)] S_api_Word.val S_api_Word.cells (fun y => ⟨y.1, y.2⟩) (fun _ => rfl) (fun _ => rfl) (fun _ => rfl)
structure S_draws_Draws where
  xall : Sl
  xtaken : Int
def S_draws_Draws.cells (x : S_draws_Draws) : _root_.List Value := [(Sl.val x.xall), (Value.int .i64 x.xtaken)]
def S_draws_Draws.val (x : S_draws_Draws) : Value := .agg (S_draws_Draws.cells x).toArray
def S_draws_Draws.ty : Ty := tStruct [tSl, (tInt .i64)] S_draws_Draws.val S_draws_Draws.cells (fun y => ⟨y.1, y.2⟩) (fun _ => rfl) (fun _ => rfl) (fun _ => rfl)
structure S_slots_Table_int where
  xmost : Int
  xknob : Int
  xplaces : Sl
  xlive : Int
  xused : Int
def S_slots_Table_int.cells (x : S_slots_Table_int) : _root_.List Value := [(Value.int .i64 x.xmost), (Value.int .i64 x.xknob), (Sl.val x.xplaces), (Value.int .i64 x.xlive), (Value.int .i64 x.xused)]
def S_slots_Table_int.val (x : S_slots_Table_int) : Value := .agg (S_slots_Table_int.cells x).toArray
def S_slots_Table_int.ty : Ty := tStruct [(tInt .i64), (tInt .i64), tSl, (tInt .i64), (tInt .i64)] S_slots_Table_int.val S_slots_Table_int.cells (fun y => ⟨y.1, y.2.1, y.2.2.1, y.2.2.2.1, y.2.2.2.2⟩) (fun _ => rfl) (fun _ => rfl) (fun _ => rfl)
structure S_kin_Tree where
  xnodes : Sl
def S_kin_Tree.cells (x : S_kin_Tree) : _root_.List Value := [(Sl.val x.xnodes)]
def S_kin_Tree.val (x : S_kin_Tree) : Value := .agg (S_kin_Tree.cells x).toArray
def S_kin_Tree.ty : Ty := tStruct [tSl] S_kin_Tree.val S_kin_Tree.cells (fun y => ⟨y⟩) (fun _ => rfl) (fun _ => rfl) (fun _ => rfl)
structure S_catalogue_parts where
  Table : Option Addr
  Tree : Option Addr
def S_catalogue_parts.cells (x : S_catalogue_parts) : _root_.List Value := [(Value.pointer x.Table), (Value.pointer x.Tree)]
def S_catalogue_parts.val (x : S_catalogue_parts) : Value := .agg (S_catalogue_parts.cells x).toArray
def S_catalogue_parts.ty : Ty := tStruct [tPtr, tPtr] S_catalogue_parts.val S_catalogue_parts.cells (fun y => ⟨y.1, y.2⟩) (fun _ => rfl) (fun _ => rfl) (fun _ => rfl)
structure S_catalogue_Catalogue where
  xin : S_catalogue_parts
  xtokens : Sl
  xused : Sl
  xroots : Option Nat
  xcount : Option Nat
def S_catalogue_Catalogue.cells (x : S_catalogue_Catalogue) : _root_.List Value := [(Value.pointer x.xin.Table), (Value.pointer x.xin.Tree), (Sl.val x.xtokens), (Sl.val x.xused), (Value.map x.xroots), (Value.map x.xcount)]
def S_catalogue_Catalogue.val (x : S_catalogue_Catalogue) : Value := .agg (S_catalogue_Catalogue.cells x).toArray
def S_catalogue_Catalogue.ty : Ty := tStruct [tPtr, tPtr, tSl, tSl, tMap, tMap] S_catalogue_Catalogue.val S_catalogue_Catalogue.cells (fun y => ⟨⟨y.1, y.2.1⟩, y.2.2.1, y.2.2.2.1, y.2.2.2.2.1, y.2.2.2.2.2⟩) (fun _ => rfl) (fun _ => rfl) (fun _ => rfl)
structure S_quota_Quota where
  xeach : Int
  xall : Int
  xcount : Option Nat
def S_quota_Quota.cells (x : S_quota_Quota) : _root_.List Value := [(Value.int .i64 x.xeach), (Value.int .i64 x.xall), (Value.map x.xcount)]
def S_quota_Quota.val (x : S_quota_Quota) : Value := .agg (S_quota_Quota.cells x).toArray
def S_quota_Quota.ty : Ty := tStruct [(tInt .i64), (tInt .i64), tMap] S_quota_Quota.val S_quota_Quota.cells (fun y => ⟨y.1, y.2.1, y.2.2⟩) (fun _ => rfl) (fun _ => rfl) (fun _ => rfl)
structure S_ref04_Draws where
  L : Sl
  Width : Int
  At : Int
def S_ref04_Draws.cells (x : S_ref04_Draws) : _root_.List Value := [(Sl.val x.L), (Value.int .i64 x.Width), (Value.int .i64 x.At)]
def S_ref04_Draws.val (x : S_ref04_Draws) : Value := .agg (S_ref04_Draws.cells x).toArray
def S_ref04_Draws.ty : Ty := tStruct [tSl, (tInt .i64), (tInt .i64)] S_ref04_Draws.val S_ref04_Draws.cells (fun y => ⟨y.1, y.2.1, y.2.2⟩) (fun _ => rfl) (fun _ => rfl) (fun _ => rfl)
structure S_ref11_Catalogue where
  P : Sl
  Ever : Int
def S_ref11_Catalogue.cells (x : S_ref11_Catalogue) : _root_.List Value := [(Sl.val x.P), (Value.int .i64 x.Ever)]
def S_ref11_Catalogue.val (x : S_ref11_Catalogue) : Value := .agg (S_ref11_Catalogue.cells x).toArray
def S_ref11_Catalogue.ty : Ty := tStruct [tSl, (tInt .i64)] S_ref11_Catalogue.val S_ref11_Catalogue.cells (fun y => ⟨y.1, y.2⟩) (fun _ => rfl) (fun _ => rfl) (fun _ => rfl)
structure S_ref12_Quota where
  Each : Int
  Most : Int
  L : Sl
def S_ref12_Quota.cells (x : S_ref12_Quota) : _root_.List Value := [(Value.int .i64 x.Each), (Value.int .i64 x.Most), (Sl.val x.L)]
def S_ref12_Quota.val (x : S_ref12_Quota) : Value := .agg (S_ref12_Quota.cells x).toArray
def S_ref12_Quota.ty : Ty := tStruct [(tInt .i64), (tInt .i64), tSl] S_ref12_Quota.val S_ref12_Quota.cells (fun y => ⟨y.1, y.2.1, y.2.2⟩) (fun _ => rfl) (fun _ => rfl) (fun _ => rfl)
structure S_law14_World where
  Width : Int
  Entries : Int
  Each : Int
  Knob : Int
  Draws : Sl
def S_law14_World.cells (x : S_law14_World) : _root_.List Value := [(Value.int .i64 x.Width), (Value.int .i64 x.Entries), (Value.int .i64 x.Each), (Value.int .i64 x.Knob), (Sl.val x.Draws)]
def S_law14_World.val (x : S_law14_World) : Value := .agg (S_law14_World.cells x).toArray
def S_law14_World.ty : Ty := tStruct [(tInt .i64), (tInt .i64), (tInt .i64), (tInt .i64), tSl] S_law14_World.val S_law14_World.cells (fun y => ⟨y.1, y.2.1, y.2.2.1, y.2.2.2.1, y.2.2.2.2⟩) (fun _ => rfl) (fun _ => rfl) (fun _ => rfl)
structure S_law14_Set where
  D : Option Addr
  C : Option Addr
  Q : Option Addr
def S_law14_Set.cells (x : S_law14_Set) : _root_.List Value := [(Value.pointer x.D), (Value.pointer x.C), (Value.pointer x.Q)]
def S_law14_Set.val (x : S_law14_Set) : Value := .agg (S_law14_Set.cells x).toArray
def S_law14_Set.ty : Ty := tStruct [tPtr, tPtr, tPtr] S_law14_Set.val S_law14_Set.cells (fun y => ⟨y.1, y.2.1, y.2.2⟩) (fun _ => rfl) (fun _ => rfl) (fun _ => rfl)
structure S_ref14_World where
  D : Option Addr
  C : Option Addr
  Q : Option Addr
def S_ref14_World.cells (x : S_ref14_World) : _root_.List Value := [(Value.pointer x.D), (Value.pointer x.C), (Value.pointer x.Q)]
def S_ref14_World.val (x : S_ref14_World) : Value := .agg (S_ref14_World.cells x).toArray
def S_ref14_World.ty : Ty := tStruct [tPtr, tPtr, tPtr] S_ref14_World.val S_ref14_World.cells (fun y => ⟨y.1, y.2.1, y.2.2⟩) (fun _ => rfl) (fun _ => rfl) (fun _ => rfl)
structure S_api_Cap where
  Obj : Int
  Pass : S_api_Word
def S_api_Cap.cells (x : S_api_Cap) : _root_.List Value := [(Value.int .i64 x.Obj), (Value.int .u64 x.Pass.Hi), (Value.int .u64 x.Pass.Lo)]
def S_api_Cap.val (x : S_api_Cap) : Value := .agg (S_api_Cap.cells x).toArray
def S_api_Cap.ty : Ty := tStruct [(tInt .i64), (tInt .u64), (tInt .u64)] S_api_Cap.val S_api_Cap.cells (fun y => ⟨y.1, ⟨y.2.1, y.2.2⟩⟩) (fun _ => rfl) (fun _ => rfl) (fun _ => rfl)
structure S_derive_refusal where
  xe : Int
def S_derive_refusal.cells (x : S_derive_refusal) : _root_.List Value := [(Value.int .i64 x.xe)]
def S_derive_refusal.val (x : S_derive_refusal) : Value := .agg (S_derive_refusal.cells x).toArray
def S_derive_refusal.ty : Ty := tStruct [(tInt .i64)] S_derive_refusal.val S_derive_refusal.cells (fun y => ⟨y⟩) (fun _ => rfl) (fun _ => rfl) (fun _ => rfl)
structure S_derive_met where
  xwhere : ByteArray
  xwhy : PV
def S_derive_met.cells (x : S_derive_met) : _root_.List Value := [(Value.string x.xwhere), x.xwhy.1]
def S_derive_met.val (x : S_derive_met) : Value := .agg (S_derive_met.cells x).toArray
def S_derive_met.ty : Ty := tStruct [tStr, tPV] S_derive_met.val S_derive_met.cells (fun y => ⟨y.1, y.2⟩) (fun _ => rfl) (fun _ => rfl) (fun _ => rfl)
structure S_kin_node where
  xthere : Bool
  xparent : Int
  xchildren : Sl
def S_kin_node.cells (x : S_kin_node) : _root_.List Value := [(Value.bool x.xthere), (Value.int .i64 x.xparent), (Sl.val x.xchildren)]
def S_kin_node.val (x : S_kin_node) : Value := .agg (S_kin_node.cells x).toArray
def S_kin_node.ty : Ty := tStruct [tBool, (tInt .i64), tSl] S_kin_node.val S_kin_node.cells (fun y => ⟨y.1, y.2.1, y.2.2⟩) (fun _ => rfl) (fun _ => rfl) (fun _ => rfl)
structure S_slots_place_int where
  xstate : Int
  xc : S_api_Cap
  xv : Int
def S_slots_place_int.cells (x : S_slots_place_int) : _root_.List Value := [(Value.int .u8 x.xstate), (Value.int .i64 x.xc.Obj), (Value.int .u64 x.xc.Pass.Hi), (Value.int .u64 x.xc.Pass.Lo), (Value.int .i64 x.xv)]
def S_slots_place_int.val (x : S_slots_place_int) : Value := .agg (S_slots_place_int.cells x).toArray
def S_slots_place_int.ty : Ty := tStruct [(tInt .u8), (tInt .i64), (tInt .u64), (tInt .u64), (tInt .i64)] S_slots_place_int.val S_slots_place_int.cells (fun y => ⟨y.1, ⟨y.2.1, ⟨y.2.2.1, y.2.2.2.1⟩⟩, y.2.2.2.2⟩) (fun _ => rfl) (fun _ => rfl) (fun _ => rfl)
structure S_api_Token where
  Cap : S_api_Cap
  Rights : Int
  Parent : Int
def S_api_Token.cells (x : S_api_Token) : _root_.List Value := [(Value.int .i64 x.Cap.Obj), (Value.int .u64 x.Cap.Pass.Hi), (Value.int .u64 x.Cap.Pass.Lo), (Value.int .i64 x.Rights), (Value.int .i64 x.Parent)]
def S_api_Token.val (x : S_api_Token) : Value := .agg (S_api_Token.cells x).toArray
def S_api_Token.ty : Ty := tStruct [(tInt .i64), (tInt .u64), (tInt .u64), (tInt .i64), (tInt .i64)] S_api_Token.val S_api_Token.cells (fun y => ⟨⟨y.1, ⟨y.2.1, y.2.2.1⟩⟩, y.2.2.2.1, y.2.2.2.2⟩) (fun _ => rfl) (fun _ => rfl) (fun _ => rfl)
structure S_law14_Op where
  Kind : Int
  Obj : Int
  At : Int
  Rights : Int
  X : S_api_Cap
def S_law14_Op.cells (x : S_law14_Op) : _root_.List Value := [(Value.int .i64 x.Kind), (Value.int .i64 x.Obj), (Value.int .i64 x.At), (Value.int .i64 x.Rights), (Value.int .i64 x.X.Obj), (Value.int .u64 x.X.Pass.Hi), (Value.int .u64 x.X.Pass.Lo)]
def S_law14_Op.val (x : S_law14_Op) : Value := .agg (S_law14_Op.cells x).toArray
def S_law14_Op.ty : Ty := tStruct [(tInt .i64), (tInt .i64), (tInt .i64), (tInt .i64), (tInt .i64), (tInt .u64), (tInt .u64)] S_law14_Op.val S_law14_Op.cells (fun y => ⟨y.1, y.2.1, y.2.2.1, y.2.2.2.1, ⟨y.2.2.2.2.1, ⟨y.2.2.2.2.2.1, y.2.2.2.2.2.2⟩⟩⟩) (fun _ => rfl) (fun _ => rfl) (fun _ => rfl)
structure S_runtime_boundsError where
  xx : Int
  xy : Int
  xsigned : Bool
  xcode : Int
def S_runtime_boundsError.cells (x : S_runtime_boundsError) : _root_.List Value := [(Value.int .i64 x.xx), (Value.int .i64 x.xy), (Value.bool x.xsigned), (Value.int .u8 x.xcode)]
def S_runtime_boundsError.val (x : S_runtime_boundsError) : Value := .agg (S_runtime_boundsError.cells x).toArray
def S_runtime_boundsError.ty : Ty := tStruct [(tInt .i64), (tInt .i64), tBool, (tInt .u8)] S_runtime_boundsError.val S_runtime_boundsError.cells (fun y => ⟨y.1, y.2.1, y.2.2.1, y.2.2.2⟩) (fun _ => rfl) (fun _ => rfl) (fun _ => rfl)
structure S_runtime_errorAddressString where
  xmsg : ByteArray
  xaddr : Int
def S_runtime_errorAddressString.cells (x : S_runtime_errorAddressString) : _root_.List Value := [(Value.string x.xmsg), (Value.int .u64 x.xaddr)]
def S_runtime_errorAddressString.val (x : S_runtime_errorAddressString) : Value := .agg (S_runtime_errorAddressString.cells x).toArray
def S_runtime_errorAddressString.ty : Ty := tStruct [tStr, (tInt .u64)] S_runtime_errorAddressString.val S_runtime_errorAddressString.cells (fun y => ⟨y.1, y.2⟩) (fun _ => rfl) (fun _ => rfl) (fun _ => rfl)
structure S_runtime_TypeAssertionError where
  x_interface : Option Addr
  xconcrete : Option Addr
  xasserted : Option Addr
  xmissingMethod : ByteArray
def S_runtime_TypeAssertionError.cells (x : S_runtime_TypeAssertionError) : _root_.List Value := [(Value.pointer x.x_interface), (Value.pointer x.xconcrete), (Value.pointer x.xasserted), (Value.string x.xmissingMethod)]
def S_runtime_TypeAssertionError.val (x : S_runtime_TypeAssertionError) : Value := .agg (S_runtime_TypeAssertionError.cells x).toArray
def S_runtime_TypeAssertionError.ty : Ty := tStruct [tPtr, tPtr, tPtr, tStr] S_runtime_TypeAssertionError.val S_runtime_TypeAssertionError.cells (fun y => ⟨y.1, y.2.1, y.2.2.1, y.2.2.2⟩) (fun _ => rfl) (fun _ => rfl) (fun _ => rfl)
structure S_ref11_Place where
  Live : Bool
  Cap : S_api_Cap
  Rights : Int
  Parent : Int
  When : Int
def S_ref11_Place.cells (x : S_ref11_Place) : _root_.List Value := [(Value.bool x.Live), (Value.int .i64 x.Cap.Obj), (Value.int .u64 x.Cap.Pass.Hi), (Value.int .u64 x.Cap.Pass.Lo), (Value.int .i64 x.Rights), (Value.int .i64 x.Parent), (Value.int .i64 x.When)]
def S_ref11_Place.val (x : S_ref11_Place) : Value := .agg (S_ref11_Place.cells x).toArray
def S_ref11_Place.ty : Ty := tStruct [tBool, (tInt .i64), (tInt .u64), (tInt .u64), (tInt .i64), (tInt .i64), (tInt .i64)] S_ref11_Place.val S_ref11_Place.cells (fun y => ⟨y.1, ⟨y.2.1, ⟨y.2.2.1, y.2.2.2.1⟩⟩, y.2.2.2.2.1, y.2.2.2.2.2.1, y.2.2.2.2.2.2⟩) (fun _ => rfl) (fun _ => rfl) (fun _ => rfl)
abbrev N_api_Word : Nat := 30
abbrev N_api_Cap : Nat := 36
abbrev N_P_catalogue_Catalogue : Nat := 41
abbrev N_law14_Set : Nat := 44
abbrev N_Sl_api_Token : Nat := 52
abbrev N_api_Token : Nat := 55
abbrev N_ref14_World : Nat := 74
abbrev N_draws_Draws : Nat := 83
abbrev N_M_i64_i64 : Nat := 84
abbrev N_quota_Quota : Nat := 86
abbrev N_P_kin_Tree : Nat := 89
abbrev N_catalogue_Catalogue : Nat := 94
abbrev N_ref04_Draws : Nat := 105
abbrev N_ref11_Catalogue : Nat := 108
abbrev N_ref12_Quota : Nat := 111
abbrev N_P_derive_refusal : Nat := 112
abbrev N_slots_Table_int : Nat := 135
abbrev N_kin_Tree : Nat := 138
abbrev N_slots_place_int : Nat := 180
abbrev N_kin_node : Nat := 182
abbrev N_ref11_Place : Nat := 207
def tys : List (Nat × Ty) := [(1, tPV), (2, (tInt .i64)), (3, (tInt .i64)), (4, tBool), (5, (tInt .u8)), (6, (tInt .u8)), (7, S_runtime_boundsError.ty), (8, S_runtime_boundsError.ty), (9, tStr), (10, tStr), (11, tStr), (12, (tInt .u64)), (13, S_runtime_errorAddressString.ty), (14, S_runtime_errorAddressString.ty), (15, tPtr), (16, tPtr), (17, tPtr), (20, tPV), (21, (tInt .i32)), (22, tSl), (23, S_law14_World.ty), (24, S_law14_World.ty), (25, tPV), (26, tPV), (27, tPV), (28, (tInt .u64)), (29, S_api_Word.ty), (30, S_api_Word.ty), (31, tPtr), (32, tPtr), (34, tPV), (35, S_api_Cap.ty), (36, S_api_Cap.ty), (37, (tInt .i64)), (39, tPV), (40, tPtr), (41, tPtr), (42, tPtr), (43, S_law14_Set.ty), (44, S_law14_Set.ty), (45, tPV), (46, tPV), (47, tPV), (48, tPV), (49, tSl), (50, S_law14_Op.ty), (51, S_law14_Op.ty), (52, tSl), (53, tPV), (54, S_api_Token.ty), (55, S_api_Token.ty), (56, tPV), (57, tPV), (59, tPV), (61, tPV), (63, tPV), (64, tPtr), (66, tPV), (67, tPtr), (69, tPV), (70, tPtr), (72, tPV), (73, S_ref14_World.ty), (74, S_ref14_World.ty), (75, tPV), (76, tPV), (77, tPV), (79, tPV), (80, tPV), (81, tSl), (82, S_draws_Draws.ty), (83, S_draws_Draws.ty), (84, tMap), (85, S_quota_Quota.ty), (86, S_quota_Quota.ty), (88, tPtr), (89, tPtr), (90, S_catalogue_parts.ty), (91, S_catalogue_parts.ty), (92, tSl), (93, S_catalogue_Catalogue.ty), (94, S_catalogue_Catalogue.ty), (95, tPV), (96, tPV), (97, tPV), (98, tPV), (99, tPV), (101, tPV), (103, tPV), (104, S_ref04_Draws.ty), (105, S_ref04_Draws.ty), (106, tSl), (107, S_ref11_Catalogue.ty), (108, S_ref11_Catalogue.ty), (109, tSl), (110, S_ref12_Quota.ty), (111, S_ref12_Quota.ty), (112, tPtr), (113, tPV), (114, tPtr), (115, S_derive_refusal.ty), (116, S_derive_refusal.ty), (117, tPV), (118, tPV), (120, tPV), (122, tPV), (123, tPV), (125, tPV), (126, tPV), (127, tPV), (128, tPV), (129, tPV), (130, tPV), (131, tPV), (132, tPV), (133, tSl), (134, S_slots_Table_int.ty), (135, S_slots_Table_int.ty), (136, tSl), (137, S_kin_Tree.ty), (138, S_kin_Tree.ty), (140, (tInt .u64)), (143, tPV), (144, tPV), (145, tPV), (146, tPV), (147, (tInt .u8)), (148, tPV), (149, tPV), (150, tPV), (151, tPtr), (152, S_derive_met.ty), (153, S_derive_met.ty), (154, tPV), (155, tPV), (156, tPV), (157, tPV), (158, tPV), (159, tPV), (160, tPV), (163, tPtr), (164, tPV), (165, tPV), (166, tPV), (167, tPV), (169, tPV), (170, tPV), (171, tPV), (172, tPV), (173, tSl), (174, tPV), (175, tPV), (177, tPV), (178, (tInt .u8)), (179, S_slots_place_int.ty), (180, S_slots_place_int.ty), (181, S_kin_node.ty), (182, S_kin_node.ty), (183, tPV), (184, tPtr), (185, tPV), (186, tPV), (187, tPV), (188, tPtr), (189, (tInt .u64)), (190, tPV), (191, S_runtime_TypeAssertionError.ty), (192, S_runtime_TypeAssertionError.ty), (196, tPV), (197, (tInt .u32)), (198, (tInt .u8)), (199, tPV), (200, tPtr), (201, (tInt .i32)), (202, (tInt .i32)), (205, tPV), (206, S_ref11_Place.ty), (207, S_ref11_Place.ty), (208, tPV), (209, tPV), (212, tPtr), (213, tPV), (214, (tInt .u16)), (217, tSl), (218, (tInt .i32)), (221, tPtr)]
theorem callee4 : Callee Tryd.prog 4 Tryd.f4 := ⟨Tryd.func4, by kernel_rfl, by kernel_rfl⟩
theorem callee5 : Callee Tryd.prog 5 Tryd.f5 := ⟨Tryd.func5, by kernel_rfl, by kernel_rfl⟩
theorem callee6 : Callee Tryd.prog 6 Tryd.f6 := ⟨Tryd.func6, by kernel_rfl, by kernel_rfl⟩
theorem callee7 : Callee Tryd.prog 7 Tryd.f7 := ⟨Tryd.func7, by kernel_rfl, by kernel_rfl⟩
theorem callee8 : Callee Tryd.prog 8 Tryd.f8 := ⟨Tryd.func8, by kernel_rfl, by kernel_rfl⟩
theorem callee9 : Callee Tryd.prog 9 Tryd.f9 := ⟨Tryd.func9, by kernel_rfl, by kernel_rfl⟩
theorem callee10 : Callee Tryd.prog 10 Tryd.f10 := ⟨Tryd.func10, by kernel_rfl, by kernel_rfl⟩
theorem callee11 : Callee Tryd.prog 11 Tryd.f11 := ⟨Tryd.func11, by kernel_rfl, by kernel_rfl⟩
theorem callee12 : Callee Tryd.prog 12 Tryd.f12 := ⟨Tryd.func12, by kernel_rfl, by kernel_rfl⟩
theorem callee13 : Callee Tryd.prog 13 Tryd.f13 := ⟨Tryd.func13, by kernel_rfl, by kernel_rfl⟩
theorem callee14 : Callee Tryd.prog 14 Tryd.f14 := ⟨Tryd.func14, by kernel_rfl, by kernel_rfl⟩
theorem callee15 : Callee Tryd.prog 15 Tryd.f15 := ⟨Tryd.func15, by kernel_rfl, by kernel_rfl⟩
theorem callee16 : Callee Tryd.prog 16 Tryd.f16 := ⟨Tryd.func16, by kernel_rfl, by kernel_rfl⟩
theorem callee17 : Callee Tryd.prog 17 Tryd.f17 := ⟨Tryd.func17, by kernel_rfl, by kernel_rfl⟩
theorem callee18 : Callee Tryd.prog 18 Tryd.f18 := ⟨Tryd.func18, by kernel_rfl, by kernel_rfl⟩
theorem callee19 : Callee Tryd.prog 19 Tryd.f19 := ⟨Tryd.func19, by kernel_rfl, by kernel_rfl⟩
theorem callee20 : Callee Tryd.prog 20 Tryd.f20 := ⟨Tryd.func20, by kernel_rfl, by kernel_rfl⟩
theorem callee21 : Callee Tryd.prog 21 Tryd.f21 := ⟨Tryd.func21, by kernel_rfl, by kernel_rfl⟩
theorem callee22 : Callee Tryd.prog 22 Tryd.f22 := ⟨Tryd.func22, by kernel_rfl, by kernel_rfl⟩
theorem callee23 : Callee Tryd.prog 23 Tryd.f23 := ⟨Tryd.func23, by kernel_rfl, by kernel_rfl⟩
theorem callee24 : Callee Tryd.prog 24 Tryd.f24 := ⟨Tryd.func24, by kernel_rfl, by kernel_rfl⟩
theorem callee25 : Callee Tryd.prog 25 Tryd.f25 := ⟨Tryd.func25, by kernel_rfl, by kernel_rfl⟩
theorem callee26 : Callee Tryd.prog 26 Tryd.f26 := ⟨Tryd.func26, by kernel_rfl, by kernel_rfl⟩
theorem callee27 : Callee Tryd.prog 27 Tryd.f27 := ⟨Tryd.func27, by kernel_rfl, by kernel_rfl⟩
theorem callee28 : Callee Tryd.prog 28 Tryd.f28 := ⟨Tryd.func28, by kernel_rfl, by kernel_rfl⟩
theorem callee29 : Callee Tryd.prog 29 Tryd.f29 := ⟨Tryd.func29, by kernel_rfl, by kernel_rfl⟩
theorem callee30 : Callee Tryd.prog 30 Tryd.f30 := ⟨Tryd.func30, by kernel_rfl, by kernel_rfl⟩
theorem callee32 : Callee Tryd.prog 32 Tryd.f32 := ⟨Tryd.func32, by kernel_rfl, by kernel_rfl⟩
theorem callee33 : Callee Tryd.prog 33 Tryd.f33 := ⟨Tryd.func33, by kernel_rfl, by kernel_rfl⟩
theorem callee34 : Callee Tryd.prog 34 Tryd.f34 := ⟨Tryd.func34, by kernel_rfl, by kernel_rfl⟩
theorem callee35 : Callee Tryd.prog 35 Tryd.f35 := ⟨Tryd.func35, by kernel_rfl, by kernel_rfl⟩
theorem callee36 : Callee Tryd.prog 36 Tryd.f36 := ⟨Tryd.func36, by kernel_rfl, by kernel_rfl⟩
theorem callee37 : Callee Tryd.prog 37 Tryd.f37 := ⟨Tryd.func37, by kernel_rfl, by kernel_rfl⟩
theorem callee38 : Callee Tryd.prog 38 Tryd.f38 := ⟨Tryd.func38, by kernel_rfl, by kernel_rfl⟩
theorem callee39 : Callee Tryd.prog 39 Tryd.f39 := ⟨Tryd.func39, by kernel_rfl, by kernel_rfl⟩
theorem callee40 : Callee Tryd.prog 40 Tryd.f40 := ⟨Tryd.func40, by kernel_rfl, by kernel_rfl⟩
theorem callee41 : Callee Tryd.prog 41 Tryd.f41 := ⟨Tryd.func41, by kernel_rfl, by kernel_rfl⟩
theorem callee42 : Callee Tryd.prog 42 Tryd.f42 := ⟨Tryd.func42, by kernel_rfl, by kernel_rfl⟩
theorem callee43 : Callee Tryd.prog 43 Tryd.f43 := ⟨Tryd.func43, by kernel_rfl, by kernel_rfl⟩
theorem callee44 : Callee Tryd.prog 44 Tryd.f44 := ⟨Tryd.func44, by kernel_rfl, by kernel_rfl⟩
theorem callee45 : Callee Tryd.prog 45 Tryd.f45 := ⟨Tryd.func45, by kernel_rfl, by kernel_rfl⟩
theorem callee46 : Callee Tryd.prog 46 Tryd.f46 := ⟨Tryd.func46, by kernel_rfl, by kernel_rfl⟩
theorem callee47 : Callee Tryd.prog 47 Tryd.f47 := ⟨Tryd.func47, by kernel_rfl, by kernel_rfl⟩
theorem callee52 : Callee Tryd.prog 52 Tryd.f52 := ⟨Tryd.func52, by kernel_rfl, by kernel_rfl⟩
theorem callee53 : Callee Tryd.prog 53 Tryd.f53 := ⟨Tryd.func53, by kernel_rfl, by kernel_rfl⟩
theorem callee54 : Callee Tryd.prog 54 Tryd.f54 := ⟨Tryd.func54, by kernel_rfl, by kernel_rfl⟩
theorem callee55 : Callee Tryd.prog 55 Tryd.f55 := ⟨Tryd.func55, by kernel_rfl, by kernel_rfl⟩
theorem callee56 : Callee Tryd.prog 56 Tryd.f56 := ⟨Tryd.func56, by kernel_rfl, by kernel_rfl⟩
theorem callee57 : Callee Tryd.prog 57 Tryd.f57 := ⟨Tryd.func57, by kernel_rfl, by kernel_rfl⟩
theorem callee58 : Callee Tryd.prog 58 Tryd.f58 := ⟨Tryd.func58, by kernel_rfl, by kernel_rfl⟩
theorem callee59 : Callee Tryd.prog 59 Tryd.f59 := ⟨Tryd.func59, by kernel_rfl, by kernel_rfl⟩
theorem callee60 : Callee Tryd.prog 60 Tryd.f60 := ⟨Tryd.func60, by kernel_rfl, by kernel_rfl⟩
theorem callee61 : Callee Tryd.prog 61 Tryd.f61 := ⟨Tryd.func61, by kernel_rfl, by kernel_rfl⟩
theorem callee62 : Callee Tryd.prog 62 Tryd.f62 := ⟨Tryd.func62, by kernel_rfl, by kernel_rfl⟩
theorem callee63 : Callee Tryd.prog 63 Tryd.f63 := ⟨Tryd.func63, by kernel_rfl, by kernel_rfl⟩
theorem callee67 : Callee Tryd.prog 67 Tryd.f67 := ⟨Tryd.func67, by kernel_rfl, by kernel_rfl⟩
theorem callee68 : Callee Tryd.prog 68 Tryd.f68 := ⟨Tryd.func68, by kernel_rfl, by kernel_rfl⟩
theorem callee69 : Callee Tryd.prog 69 Tryd.f69 := ⟨Tryd.func69, by kernel_rfl, by kernel_rfl⟩
theorem callee70 : Callee Tryd.prog 70 Tryd.f70 := ⟨Tryd.func70, by kernel_rfl, by kernel_rfl⟩
theorem callee71 : Callee Tryd.prog 71 Tryd.f71 := ⟨Tryd.func71, by kernel_rfl, by kernel_rfl⟩
theorem callee72 : Callee Tryd.prog 72 Tryd.f72 := ⟨Tryd.func72, by kernel_rfl, by kernel_rfl⟩
theorem callee73 : Callee Tryd.prog 73 Tryd.f73 := ⟨Tryd.func73, by kernel_rfl, by kernel_rfl⟩
theorem callee74 : Callee Tryd.prog 74 Tryd.f74 := ⟨Tryd.func74, by kernel_rfl, by kernel_rfl⟩
theorem callee75 : Callee Tryd.prog 75 Tryd.f75 := ⟨Tryd.func75, by kernel_rfl, by kernel_rfl⟩
end Go.Proofs.YtdleanjofhghnaaDoor.K
namespace Go.Proofs.YtdleanjofhghnaaDoor.K
open Go Go.ChangeShapes Go.WideShapes Go.ChangeAt Go.RowKit Go.Proofs
theorem own : ownKnob Tryd.prog.godebug = none := by kernel_rfl
theorem laid : laidOutB Tryd.prog = true := by kernel_rfl
section
variable {HH : Type} {enc : TypeId × Value → HH} {W : World} {base : Nat} {v : Value} {d : DataW HH} {ps : List MemPlace}
theorem trod_field {t : TypeId} {fs : Array Field} {n : Nat} {cs : List Value} {y : DataW HH × List MemPlace} (ht : Tryd.prog.underlying t = some (.struct fs)) (h : DataW.trod enc Tryd.prog W 0 (fun _ => true) true n t cs = some y) (i : Nat) (f : Field) (hf : fs[i]? = some f) :
    ∃ y' n', DataW.trod enc Tryd.prog W 0 (fun _ => true) true n' f.type ((cs.drop f.offset).take (Tryd.prog.cellsOf f.type)) = some y' := by
  obtain ⟨xs, n', _, _, _, hl, hh⟩ := DataW.trod_struct ht h
  have hi : i < xs.length := by
    rw [hl]
    rcases Nat.lt_or_ge i fs.size with q | q
    · exact q
    · rw [Array.getElem?_eq_none q] at hf; cases hf
  have := hh i f hf
  rw [List.getElem?_eq_getElem hi] at this
  exact ⟨xs[i], n', this⟩
theorem open_intC {e : TypeId} {k : IntKind} (hu : Tryd.prog.underlying e = some (.int k)) {n : Nat} {cs : List Value} {y : DataW HH × List MemPlace} (h : DataW.trod enc Tryd.prog W 0 (fun _ => true) true n e cs = some y) : ∃ x : Int, cs = cInt k x ∧ (k.min ≤ x ∧ x ≤ k.max) := by
  obtain ⟨x, e, _, w⟩ := DataW.trod_int (k := k) hu h
  have w : (decide (k.min ≤ x) && decide (x ≤ k.max)) = true := w
  rw [Bool.and_eq_true, decide_eq_true_eq, decide_eq_true_eq] at w
  exact ⟨x, e, w⟩
theorem open_slC {t e : TypeId} {T : Type} {cells : T → List Value} {Good : T → Prop} {sz : Nat} (hs : ∀ x, (cells x).length = sz) (hpos : 0 < sz) (hc : Tryd.prog.cellsOf e = sz) (ht : Tryd.prog.underlying t = some (.slice e))
    (hT : ∀ n cs (y : DataW HH × List MemPlace), DataW.trod enc Tryd.prog W 0 (fun _ => true) true n e cs = some y → ∃ x, cs = cells x ∧ Good x) {n : Nat} {cs : List Value} {y : DataW HH × List MemPlace} (h : DataW.trod enc Tryd.prog W 0 (fun _ => true) true n t cs = some y) :
    ∃ s : Sl, cs = cSl s ∧ ∃ xs, Arr cells (heapH W) s xs ∧ (∀ x ∈ xs, Good x) ∧ s.cap ≤ maxLen := by
  obtain ⟨d, ps⟩ := y
  obtain ⟨s, xs, e, a, g, c, _⟩ := open_arrC cells Good hs hpos hc ht hT h
  exact ⟨s, e, xs, a, g, c⟩
set_option maxRecDepth 100000 in
theorem open_str {t : TypeId} {fs : Array Field} (ht : Tryd.prog.underlying t = some (.struct fs)) (hval : Value.okWide Tryd.prog W .any base t v) (h : DataW.Trod enc Tryd.prog W 0 (fun _ => true) true t v d ps) : ∃ cs : List Value, v = .agg cs.toArray ∧ ∃ n y, DataW.trod enc Tryd.prog W 0 (fun _ => true) true n t cs = some y := by
  obtain ⟨cs, rfl, _⟩ := okWide_struct ht hval
  obtain ⟨fuel, hf⟩ := h
  exact ⟨cs.toList, by simp, fuel, _, hf⟩
end
end Go.Proofs.YtdleanjofhghnaaDoor.K
namespace Go.Proofs.YtdleanjofhghnaaDoor.K
open Go
def asum : List (Int × Int) → Int
  | [] => 0
  | p :: r => p.2 + asum r
theorem asum_perm {l m : List (Int × Int)} (h : l.Perm m) : asum l = asum m := by
  induction h with
  | nil => rfl
  | cons x _ ih => simp only [asum, ih]
  | swap x y l => simp only [asum]; omega
  | trans _ _ a b => exact a.trans b
theorem asum_nonneg {l : List (Int × Int)} (h : ∀ q ∈ l, 1 ≤ q.2) : (l.length : Int) ≤ asum l := by
  induction l with
  | nil => exact Int.le_refl _
  | cons p r ih =>
    have h1 := ih fun q hq => h q (List.mem_cons_of_mem _ hq)
    have h2 := h p (List.mem_cons_self ..)
    simp only [asum, List.length_cons]
    omega
theorem asum_set (k v : Int) : ∀ l : List (Int × Int), asum (aset l k v) = asum l - (alook l k).getD 0 + v := by
  intro l
  induction l with
  | nil => show (v + 0 : Int) = 0 - 0 + v; omega
  | cons p r ih =>
    obtain ⟨a, w⟩ := p
    rw [aset_cons, alook_cons]
    by_cases e : k = a
    · rw [if_pos e, if_pos e]; simp only [asum, Option.getD_some]; omega
    · rw [if_neg e, if_neg e]; simp only [asum, ih]; omega
theorem asum_del (k : Int) : ∀ l : List (Int × Int), asum (adel l k) = asum l - (alook l k).getD 0 := by
  intro l
  induction l with
  | nil => rfl
  | cons p r ih =>
    obtain ⟨a, w⟩ := p
    rw [adel_cons, alook_cons]
    by_cases e : k = a
    · rw [if_pos e, if_pos e]; simp only [asum, Option.getD_some]; omega
    · rw [if_neg e, if_neg e]; simp only [asum, ih]; omega
section
variable {K V : Type} [DecidableEq K]
theorem adel_sub (k : K) : ∀ (l : List (K × V)) (q : K × V), q ∈ adel l k → q ∈ l := by
  intro l
  induction l with
  | nil => intro q h; exact h
  | cons p r ih =>
    obtain ⟨a, w⟩ := p
    intro q h
    rw [adel_cons] at h
    by_cases e : k = a
    · rw [if_pos e] at h; exact List.mem_cons_of_mem _ h
    · rw [if_neg e] at h
      rcases List.mem_cons.1 h with z | z
      · exact List.mem_cons.2 (.inl z)
      · exact List.mem_cons_of_mem _ (ih q z)
theorem aset_mem (k : K) (v : V) : ∀ (l : List (K × V)) (q : K × V), q ∈ aset l k v → q = (k, v) ∨ q ∈ l := by
  intro l
  induction l with
  | nil => intro q h; exact .inl (by simpa [aset, aidx] using h)
  | cons p r ih =>
    obtain ⟨a, w⟩ := p
    intro q h
    rw [aset_cons] at h
    by_cases e : k = a
    · rw [if_pos e] at h
      rcases List.mem_cons.1 h with z | z
      · exact .inl z
      · exact .inr (List.mem_cons_of_mem _ z)
    · rw [if_neg e] at h
      rcases List.mem_cons.1 h with z | z
      · exact .inr (List.mem_cons.2 (.inl z))
      · exact (ih q z).imp id (List.mem_cons_of_mem _)
theorem alook_mem {l : List (K × V)} {k : K} {v : V} (h : alook l k = some v) : (k, v) ∈ l := by
  induction l with
  | nil => cases h
  | cons p r ih =>
    obtain ⟨a, w⟩ := p
    rw [alook_cons] at h
    by_cases e : k = a
    · rw [if_pos e] at h; cases h; subst e; exact List.mem_cons_self ..
    · rw [if_neg e] at h; exact List.mem_cons_of_mem _ (ih h)
theorem Once.look {l : List (K × V)} (x : Once l) {k : K} {v : V} (h : (k, v) ∈ l) : alook l k = some v := by
  unfold Once at x
  induction l with
  | nil => cases h
  | cons p r ih =>
    obtain ⟨a, w⟩ := p
    rw [List.map_cons, List.nodup_cons] at x
    rw [alook_cons]
    rcases List.mem_cons.1 h with z | z
    · cases z; rw [if_pos rfl]
    · rw [if_neg (fun e => x.1 (by rw [← e]; exact List.mem_map.2 ⟨_, z, rfl⟩)), ih x.2 z]
end
theorem i64_eq {x : Int} (h1 : -9223372036854775808 ≤ x) (h2 : x < 9223372036854775808) : IntKind.i64.wrap x = x := by rw [IntKind.wrap_i64]; omega
theorem iAdd_eq {a b : Int} (h1 : -9223372036854775808 ≤ a + b) (h2 : a + b < 9223372036854775808) : iAdd .i64 a b = a + b := i64_eq h1 h2
theorem iSub_eq {a b : Int} (h1 : -9223372036854775808 ≤ a - b) (h2 : a - b < 9223372036854775808) : iSub .i64 a b = a - b := i64_eq h1 h2
theorem wrap_u64 (x : Int) : IntKind.u64.wrap x = x % 18446744073709551616 := by
  unfold IntKind.wrap
  simp [IntKind.signed, IntKind.bits]
theorem u_wrap {n : Nat} (h : n < 2 ^ 64) : IntKind.u64.wrap (n : Int) = (n : Int) := by rw [wrap_u64]; omega
theorem u_bv {n : Nat} (h : n < 2 ^ 64) : (BitVec.ofInt 64 (n : Int)).toNat = n := by
  rw [BitVec.ofInt_natCast, BitVec.toNat_ofNat]; exact Nat.mod_eq_of_lt h
theorem u_and {a b : Nat} (ha : a < 2 ^ 64) (hb : b < 2 ^ 64) : iAnd .u64 (a : Int) (b : Int) = ((a &&& b : Nat) : Int) := by
  show IntKind.u64.wrap ((BitVec.ofInt 64 (a : Int) &&& BitVec.ofInt 64 (b : Int)).toNat : Int) = _
  rw [BitVec.toNat_and, u_bv ha, u_bv hb, u_wrap (Nat.and_lt_two_pow _ hb)]
theorem pow_lt {n : Nat} (h : n < 64) : 2 ^ n < 2 ^ 64 := Nat.pow_lt_pow_right (by decide) h
theorem u_shl1 {n : Nat} (h : n < 64) : iShl .u64 1 (n : Int) = ((2 ^ n : Nat) : Int) := by
  show IntKind.u64.wrap (1 * 2 ^ (min (n : Int).toNat 64)) = _
  rw [Int.toNat_natCast, Nat.min_eq_left (by omega), Int.one_mul]
  have : ((2 : Int) ^ n) = ((2 ^ n : Nat) : Int) := by simp
  rw [this, u_wrap (pow_lt h)]
theorem u_mask {n : Nat} (h : n < 64) : iSub .u64 (iShl .u64 1 (n : Int)) 1 = ((2 ^ n - 1 : Nat) : Int) := by
  rw [u_shl1 h]
  show IntKind.u64.wrap (((2 ^ n : Nat) : Int) - 1) = _
  have h1 : 0 < 2 ^ n := Nat.two_pow_pos n
  have h2 := pow_lt h
  rw [show ((2 ^ n : Nat) : Int) - 1 = ((2 ^ n - 1 : Nat) : Int) by omega, u_wrap (by omega)]
theorem u_low {a n : Nat} (ha : a < 2 ^ 64) (h : n < 64) : iAnd .u64 (a : Int) (iSub .u64 (iShl .u64 1 (n : Int)) 1) = ((a % 2 ^ n : Nat) : Int) := by
  rw [u_mask h, u_and ha (by have := pow_lt h; omega), Nat.and_two_pow_sub_one_eq_mod]
abbrev N_int : Nat := 3
theorem ci_len : ∀ x : Int, (cInt .i64 x).length = 1 := fun _ => rfl
theorem ia (a b : Nat) (h : a + b < 2 ^ 62) : iAdd .i64 (a : Int) (b : Int) = ((a + b : Nat) : Int) := (iAdd_eq (a := (a : Int)) (b := (b : Int)) (by omega) (by omega)).trans (by omega)
theorem ia1 (a : Nat) (h : a < 2 ^ 61) : iAdd .i64 (a : Int) 1 = ((a + 1 : Nat) : Int) := ia a 1 (by omega)
theorem is_ (a b : Nat) (h : a < 2 ^ 62) (hb : b ≤ a) : iSub .i64 (a : Int) (b : Int) = ((a - b : Nat) : Int) := (iSub_eq (a := (a : Int)) (b := (b : Int)) (by omega) (by omega)).trans (by omega)
theorem is1 (a : Nat) (h : a < 2 ^ 62) (hb : 1 ≤ a) : iSub .i64 (a : Int) 1 = ((a - 1 : Nat) : Int) := is_ a 1 h hb
theorem cb_len : ∀ x : Bool, (cBool x).length = 1 := fun _ => rfl
theorem ci_plain : ∀ x : Int, (cInt .i64 x).all plainVal = true := fun _ => rfl
theorem iMul_eq {a b : Int} (h1 : -9223372036854775808 ≤ a * b) (h2 : a * b < 9223372036854775808) : iMul .i64 a b = a * b := i64_eq h1 h2
end Go.Proofs.YtdleanjofhghnaaDoor.K
namespace Go.Proofs.YtdleanjofhghnaaDoor.K
open Go Go.Proofs
def m_mix_Hash (a0 : Int) (a1 : S_api_Word) (a2 : Int) (K : (Int) → H → Prop) : H → Prop :=
 mLoop (fun (rec2 : (Int × Int) → H → Prop) (s1 : Int × Int) =>
 mIf (decide (s1.2 = 1)) (
 rec2 ((iXor .u64 (iMul .u64 (iXor .u64 s1.1 a1.Hi) 11400714819323198485) (iShr .u64 (iMul .u64 (iXor .u64 s1.1 a1.Hi) 11400714819323198485) 29)), (iAdd .i64 s1.2 1))
 ) (
 mIf (decide (s1.2 = 2)) (
 rec2 ((iXor .u64 (iMul .u64 (iXor .u64 s1.1 a1.Lo) 11400714819323198485) (iShr .u64 (iMul .u64 (iXor .u64 s1.1 a1.Lo) 11400714819323198485) 29)), (iAdd .i64 s1.2 1))
 ) (
 mIf (decide (s1.2 = 3)) (
 mIf (decide (a2 ≤ 0)) (
 K 0
 ) (
 mIf (decide (64 ≤ a2)) (
 K s1.1
 ) (
 mNN a2 <|
 K (iAnd .u64 s1.1 (iSub .u64 (iShl .u64 1 a2) 1))
 )
 )
 ) (
 rec2 ((iXor .u64 (iMul .u64 (iXor .u64 s1.1 (IntKind.wrap .u64 a0)) 11400714819323198485) (iShr .u64 (iMul .u64 (iXor .u64 s1.1 (IntKind.wrap .u64 a0)) 11400714819323198485) 29)), (iAdd .i64 s1.2 1))
 )
 )
 )
 ) (5903417616801668165, 0)
def x_mix_Hash : Cx Tryd.prog := ⟨tys, [], [4], [], mixed⟩
def h_mix_Hash : Hint := (.seq .d (.blk (.seq .d (.seq .d (.seq .d (.seq (.blk (.loop [.slot 7 (tInt .u64), .slot 8 (tInt .i64)] 17179869056 [] .d)) .d))))))
def s_mix_Hash : Spec Tryd.prog := mkSpec x_mix_Hash 75 Tryd.f75 [(tInt .i64), S_api_Word.ty, (tInt .i64)] [(tInt .u64)] true h_mix_Hash (fun a => m_mix_Hash a.1 a.2.1 a.2.2) (fun a K h => by kernel_rfl) callee75 rfl
def m_slots_New_int (a0 : Int) (a1 : Int) (K : (Option Addr × Int) → H → Prop) : H → Prop :=
 mIf ((((decide (a0 < 1)) || (decide (256 < a0))) || (decide (a1 < 0))) || (decide (64 < a1))) (
 K (none, 16)
 ) (
 mLoop (fun (rec2 : Int → H → Prop) (s1 : Int) =>
 mIf (decide (s1 < (iMul .i64 2 a0))) (
 rec2 (iMul .i64 s1 2)
 ) (
 mMake 180 40 #[(Value.int .u8 0), (Value.int .i64 0), (Value.int .u64 0), (Value.int .u64 0), (Value.int .i64 0)] s1 s1 fun s3 =>
 mNew 135 #[(Value.int .i64 a0), (Value.int .i64 a1), (Sl.val s3), (Value.int .i64 0), (Value.int .i64 0)] fun ad4 =>
 K ((some ad4), 0)
 )
 ) 1
 )
def x_slots_New_int : Cx Tryd.prog := ⟨tys, [], [], [], mixed⟩
def h_slots_New_int : Hint := (.seq .d (.seq (.seq (.reg (.run [3, 7, 11] (.sel 9 12 7168 (.run [15, 19, 23] .nil) (.run [15, 19, 23] .nil) (.run [27] (.sel 13 16 114688 (.run [31, 35, 39] .nil) (.run [31, 35, 39] .nil) (.run [43] (.sel 17 20 1835008 (.run [47, 51, 55] .nil) (.run [47, 51, 55] .nil) .nil))))))) .d) (.seq .d (.seq (.blk (.loop [.slot 6 (tInt .i64)] 132120640 [] .d)) .d))))
def s_slots_New_int : Spec Tryd.prog := mkSpec x_slots_New_int 29 Tryd.f29 [(tInt .i64), (tInt .i64)] [tPtr, (tInt .i64)] false h_slots_New_int (fun a => m_slots_New_int a.1 a.2) (fun a K h => by kernel_rfl) callee29 rfl
def m_slots_Table_int_find (a0 : Option Addr) (a1 : S_api_Cap) (K : (Int × Int) → H → Prop) : H → Prop :=
 mDeref a0 fun ad1 =>
 mLoad cSl (ad1.add 2) fun x2 =>
 mDeref a0 fun ad3 =>
 mLoad (cInt .i64) (ad3.add 1) fun x4 =>
 mPure (m_mix_Hash a1.Obj a1.Pass x4) fun r5 =>
 mNZ (IntKind.wrap .u64 (x2.len : Int)) <|
 mLoop (fun (rec7 : (Int × Int) → H → Prop) (s6 : Int × Int) =>
 mIf (decide (s6.2 < (x2.len : Int))) (
 mNZ (x2.len : Int) <|
 mDeref a0 fun ad8 =>
 mLoad cSl (ad8.add 2) fun x9 =>
 mIdx x9 (iRem .i64 (iAdd .i64 (IntKind.wrap .i64 (iRem .u64 r5 (IntKind.wrap .u64 (x2.len : Int)))) s6.2) (x2.len : Int)) 5 fun ad10 =>
 mLoad (cInt .u8) (ad10.add 0) fun x11 =>
 mIf (decide (x11 = 0)) (
 mIf (decide (s6.1 < 0)) (
 K ((-1), (iRem .i64 (iAdd .i64 (IntKind.wrap .i64 (iRem .u64 r5 (IntKind.wrap .u64 (x2.len : Int)))) s6.2) (x2.len : Int)))
 ) (
 K ((-1), s6.1)
 )
 ) (
 mLoad (cInt .u8) (ad10.add 0) fun x12 =>
 mIf (decide (x12 = 2)) (
 mIf (decide (s6.1 < 0)) (
 rec7 ((iRem .i64 (iAdd .i64 (IntKind.wrap .i64 (iRem .u64 r5 (IntKind.wrap .u64 (x2.len : Int)))) s6.2) (x2.len : Int)), (iAdd .i64 s6.2 1))
 ) (
 rec7 (s6.1, (iAdd .i64 s6.2 1))
 )
 ) (
 mLoad S_api_Cap.cells (ad10.add 1) fun x13 =>
 mIf ((decide (x13.Obj = a1.Obj)) && (((decide (x13.Pass.Hi = a1.Pass.Hi)) && ((decide (x13.Pass.Lo = a1.Pass.Lo)) && true)) && true)) (
 K ((iRem .i64 (iAdd .i64 (IntKind.wrap .i64 (iRem .u64 r5 (IntKind.wrap .u64 (x2.len : Int)))) s6.2) (x2.len : Int)), s6.1)
 ) (
 rec7 (s6.1, (iAdd .i64 s6.2 1))
 )
 )
 )
 ) (
 K ((-1), s6.1)
 )
 ) ((-1), 0)
def x_slots_Table_int_find : Cx Tryd.prog := ⟨tys, [s_mix_Hash], [3], [], mixed⟩
def h_slots_Table_int_find : Hint := (.seq .d (.seq .d (.seq (.reg (.run [0, 8, 16, 20, 24, 36, 40, 5, 13, 30, 32, 44, 48, 52, 56] .nil)) (.seq (.seq .d (.blk (.loop [.slot 8 (tInt .i64), .slot 31 (tInt .i64)] 18889465931476433375024 [] (.seq .d (.seq .d (.seq (.blk (.seq .d (.seq .d (.seq .d (.blk (.seq .d (.cond .d (.seq .d (.cond .d (.seq (.reg (.run [0, 4, 8, 17, 14, 20, 24] .nil)) .d)))))))))) .d)))))) .d))))
def s_slots_Table_int_find : Spec Tryd.prog := mkSpec x_slots_Table_int_find 70 Tryd.f70 [tPtr, S_api_Cap.ty] [(tInt .i64), (tInt .i64)] false h_slots_Table_int_find (fun a => m_slots_Table_int_find a.1 a.2) (fun a K h => by kernel_rfl) callee70 rfl
def m_slots_Table_int_put (a0 : Option Addr) (a1 : S_api_Cap) (a2 : Int) (K : (Unit) → H → Prop) : H → Prop :=
 m_slots_Table_int_find a0 a1 fun r1 =>
 mJoin (fun (_s2 : Unit) =>
 mDeref a0 fun ad4 =>
 mLoad cSl (ad4.add 2) fun x5 =>
 mIdx x5 r1.2 5 fun ad6 =>
 mStore ad6 [(Value.int .u8 1), (Value.int .i64 a1.Obj), (Value.int .u64 a1.Pass.Hi), (Value.int .u64 a1.Pass.Lo), (Value.int .i64 a2)] <|
 mDeref a0 fun ad7 =>
 mLoad (cInt .i64) (ad7.add 3) fun x8 =>
 mDeref a0 fun ad9 =>
 mStore (ad9.add 3) [(Value.int .i64 (iAdd .i64 x8 1))] <|
 K ()
 ) (fun j3 =>
 mDeref a0 fun ad10 =>
 mLoad cSl (ad10.add 2) fun x11 =>
 mIdx x11 r1.2 5 fun ad12 =>
 mLoad (cInt .u8) (ad12.add 0) fun x13 =>
 mIf (decide (x13 = 0)) (
 mDeref a0 fun ad14 =>
 mLoad (cInt .i64) (ad14.add 4) fun x15 =>
 mDeref a0 fun ad16 =>
 mStore (ad16.add 4) [(Value.int .i64 (iAdd .i64 x15 1))] <|
 j3 ()
 ) (
 j3 ()
 )
 )
def x_slots_Table_int_put : Cx Tryd.prog := ⟨tys, [s_slots_Table_int_find], [4], [], mixed⟩
def h_slots_Table_int_put : Hint := (.seq .d (.seq .d (.join [] 1073725440 [] .d (.seq (.reg (.run [0, 4, 8, 16, 24, 21, 28, 14, 32, 39] .nil)) .d))))
def s_slots_Table_int_put : Spec Tryd.prog := mkSpec x_slots_Table_int_put 74 Tryd.f74 [tPtr, S_api_Cap.ty, (tInt .i64)] [] false h_slots_Table_int_put (fun a => m_slots_Table_int_put a.1 a.2.1 a.2.2) (fun a K h => by kernel_rfl) callee74 rfl
def m_slots_Table_int_anew (a0 : Option Addr) (K : (Unit) → H → Prop) : H → Prop :=
 mDeref a0 fun ad1 =>
 mLoad cSl (ad1.add 2) fun x2 =>
 mLoop (fun (rec4 : (Sl × Int) → H → Prop) (s3 : Sl × Int) =>
 mIf (decide (s3.2 < (x2.len : Int))) (
 mIdx x2 s3.2 5 fun ad5 =>
 mLoad S_slots_place_int.cells ad5 fun x6 =>
 mIf (decide (x6.xstate = 1)) (
 mApp 180 5 40 #[(Value.int .u8 0), (Value.int .i64 0), (Value.int .u64 0), (Value.int .u64 0), (Value.int .i64 0)] 1 [(Value.int .u8 x6.xstate), (Value.int .i64 x6.xc.Obj), (Value.int .u64 x6.xc.Pass.Hi), (Value.int .u64 x6.xc.Pass.Lo), (Value.int .i64 x6.xv)] s3.1 fun s7 =>
 rec4 (s7, (iAdd .i64 s3.2 1))
 ) (
 rec4 (s3.1, (iAdd .i64 s3.2 1))
 )
 ) (
 mDeref a0 fun ad8 =>
 mLoad cSl (ad8.add 2) fun x9 =>
 mClear #[(Value.int .u8 0), (Value.int .i64 0), (Value.int .u64 0), (Value.int .u64 0), (Value.int .i64 0)] x9 <|
 mDeref a0 fun ad10 =>
 mStore (ad10.add 3) [(Value.int .i64 0)] <|
 mDeref a0 fun ad11 =>
 mStore (ad11.add 4) [(Value.int .i64 0)] <|
 mLoop (fun (rec13 : Int → H → Prop) (s12 : Int) =>
 mIf (decide (s12 < (s3.1.len : Int))) (
 mIdx s3.1 s12 5 fun ad14 =>
 mLoad S_slots_place_int.cells ad14 fun x15 =>
 m_slots_Table_int_put a0 x15.xc x15.xv fun _ =>
 rec13 (iAdd .i64 s12 1)
 ) (
 K ()
 )
 ) 0
 )
 ) (Sl.nil, 0)
def x_slots_Table_int_anew : Cx Tryd.prog := ⟨tys, [s_slots_Table_int_put], [4, 6, 21], [], mixed⟩
def h_slots_Table_int_anew : Hint := (.seq .d (.seq (.seq .d (.blk (.loop [.slot 2 tSl, .slot 12 (tInt .i64)] 16773140 [] .d))) (.seq .d (.seq .d (.seq .d (.blk (.loop [.slot 36 (tInt .i64)] 140668768878656 [] .d)))))))
def s_slots_Table_int_anew : Spec Tryd.prog := mkSpec x_slots_Table_int_anew 73 Tryd.f73 [tPtr] [] false h_slots_Table_int_anew (fun a => m_slots_Table_int_anew a) (fun a K h => by kernel_rfl) callee73 rfl
def m_slots_Table_int_Put (a0 : Option Addr) (a1 : S_api_Cap) (a2 : Int) (K : (Int) → H → Prop) : H → Prop :=
 m_slots_Table_int_find a0 a1 fun r1 =>
 mIf (decide (0 ≤ r1.1)) (
 K 19
 ) (
 mDeref a0 fun ad2 =>
 mDeref a0 fun ad3 =>
 mLoad (cInt .i64) (ad2.add 3) fun x4 =>
 mLoad (cInt .i64) (ad3.add 0) fun x5 =>
 mIf (decide (x5 ≤ x4)) (
 K 10
 ) (
 mJoin (fun (_s6 : Unit) =>
 m_slots_Table_int_put a0 a1 a2 fun _ =>
 K 0
 ) (fun j7 =>
 mDeref a0 fun ad9 =>
 mDeref a0 fun ad10 =>
 mLoad (cInt .i64) (ad9.add 4) fun x11 =>
 mLoad cSl (ad10.add 2) fun x12 =>
 mIf (decide ((iMul .i64 7 (x12.len : Int)) < (iMul .i64 8 (iAdd .i64 x11 1)))) (
 m_slots_Table_int_anew a0 fun _ =>
 j7 ()
 ) (
 j7 ()
 )
 )
 )
 )
def x_slots_Table_int_Put : Cx Tryd.prog := ⟨tys, [s_slots_Table_int_find, s_slots_Table_int_anew, s_slots_Table_int_put], [4], [], mixed⟩
def h_slots_Table_int_Put : Hint := (.seq .d (.seq .d (.seq (.seq (.reg (.run [0, 4, 8, 16, 20, 24, 14, 30, 32] .nil)) .d) (.join [] 2198956146688 [] (.seq (.reg (.run [0, 4, 8, 24, 28, 32, 14, 16, 20, 38, 40, 44, 48] .nil)) .d) .d))))
def s_slots_Table_int_Put : Spec Tryd.prog := mkSpec x_slots_Table_int_Put 69 Tryd.f69 [tPtr, S_api_Cap.ty, (tInt .i64)] [(tInt .i64)] false h_slots_Table_int_Put (fun a => m_slots_Table_int_Put a.1 a.2.1 a.2.2) (fun a K h => by kernel_rfl) callee69 rfl
def m_slots_Table_int_Get (a0 : Option Addr) (a1 : S_api_Cap) (K : (Int × Bool) → H → Prop) : H → Prop :=
 m_slots_Table_int_find a0 a1 fun r1 =>
 mIf (decide (0 ≤ r1.1)) (
 mDeref a0 fun ad2 =>
 mLoad cSl (ad2.add 2) fun x3 =>
 mIdx x3 r1.1 5 fun ad4 =>
 mLoad (cInt .i64) (ad4.add 4) fun x5 =>
 K (x5, true)
 ) (
 K (0, false)
 )
def x_slots_Table_int_Get : Cx Tryd.prog := ⟨tys, [s_slots_Table_int_find], [3], [], mixed⟩
def h_slots_Table_int_Get : Hint := .d
def s_slots_Table_int_Get : Spec Tryd.prog := mkSpec x_slots_Table_int_Get 56 Tryd.f56 [tPtr, S_api_Cap.ty] [(tInt .i64), tBool] false h_slots_Table_int_Get (fun a => m_slots_Table_int_Get a.1 a.2) (fun a K h => by kernel_rfl) callee56 rfl
def m_mask_Valid (a0 : Int) (K : (Bool) → H → Prop) : H → Prop :=
 K ((decide (1 ≤ a0)) && (decide (a0 ≤ 31)))
def x_mask_Valid : Cx Tryd.prog := ⟨tys, [], [], [], mixed⟩
def h_mask_Valid : Hint := (.seq .d (.seq (.reg (.run [3, 7, 11] (.sel 5 8 448 (.run [15, 19, 23] .nil) (.run [15, 19, 23] .nil) (.run [27] .nil)))) .d))
def s_mask_Valid : Spec Tryd.prog := mkSpec x_mask_Valid 53 Tryd.f53 [(tInt .i64)] [tBool] true h_mask_Valid (fun a => m_mask_Valid a) (fun a K h => by kernel_rfl) callee53 rfl
def m_mask_Part (a0 : Int) (a1 : Int) (K : (Bool) → H → Prop) : H → Prop :=
 mPure (m_mask_Valid a0) fun r1 =>
 mIf r1 (
 mPure (m_mask_Valid a1) fun r3 =>
 K (r3 && (decide ((iAnd .i64 a0 a1) = a0)))
 ) (
 K false
 )
def x_mask_Part : Cx Tryd.prog := ⟨tys, [s_mask_Valid], [], [], mixed⟩
def h_mask_Part : Hint := (.seq .d (.seq (.reg (.run [3, 7, 11] (.split 7 (.run [15, 19, 23, 27] (.sel 11 17 258048 (.run [31, 35, 39, 43, 47, 51] .nil) (.run [31, 35, 39, 43, 47, 51] .nil) (.run [55] .nil))) (.run [15, 19, 23, 27, 31, 35, 39, 43, 47, 51, 55] .nil)))) .d))
def s_mask_Part : Spec Tryd.prog := mkSpec x_mask_Part 41 Tryd.f41 [(tInt .i64), (tInt .i64)] [tBool] true h_mask_Part (fun a => m_mask_Part a.1 a.2) (fun a K h => by kernel_rfl) callee41 rfl
def m_mask_Has (a0 : Int) (a1 : Int) (K : (Bool) → H → Prop) : H → Prop :=
 mPure (m_mask_Part a1 a0) fun r1 =>
 K r1
def x_mask_Has : Cx Tryd.prog := ⟨tys, [s_mask_Part], [], [], mixed⟩
def h_mask_Has : Hint := .d
def s_mask_Has : Spec Tryd.prog := mkSpec x_mask_Has 40 Tryd.f40 [(tInt .i64), (tInt .i64)] [tBool] true h_mask_Has (fun a => m_mask_Has a.1 a.2) (fun a K h => by kernel_rfl) callee40 rfl
end Go.Proofs.YtdleanjofhghnaaDoor.K
namespace Go.Proofs.YtdleanjofhghnaaDoor.K
open Go
instance : DecidableEq S_api_Word := fun a b => decidable_of_iff (a.Hi = b.Hi ∧ a.Lo = b.Lo) ⟨fun ⟨h1, h2⟩ => by cases a; cases b; simp_all, fun e => by subst e; exact ⟨rfl, rfl⟩⟩
instance : DecidableEq S_api_Cap := fun a b => decidable_of_iff (a.Obj = b.Obj ∧ a.Pass = b.Pass) ⟨fun ⟨h1, h2⟩ => by cases a; cases b; simp_all, fun e => by subst e; exact ⟨rfl, rfl⟩⟩
theorem cap_eqB (x y : S_api_Cap) : ((decide (x.Obj = y.Obj)) && (((decide (x.Pass.Hi = y.Pass.Hi)) && ((decide (x.Pass.Lo = y.Pass.Lo)) && true)) && true)) = decide (x = y) := by
  obtain ⟨a, b, c⟩ := x
  obtain ⟨a', b', c'⟩ := y
  rw [Bool.eq_iff_iff]
  simp only [Bool.and_eq_true, decide_eq_true_eq, Bool.and_true, S_api_Cap.mk.injEq, S_api_Word.mk.injEq]
def mixR (h v : Int) : Int := iXor .u64 (iMul .u64 (iXor .u64 h v) 11400714819323198485) (iShr .u64 (iMul .u64 (iXor .u64 h v) 11400714819323198485) 29)
def hash (obj : Int) (w : S_api_Word) (knob : Int) : Int :=
  if knob ≤ 0 then 0 else if 64 ≤ knob then mixR (mixR (mixR 5903417616801668165 (IntKind.wrap .u64 obj)) w.Hi) w.Lo
  else iAnd .u64 (mixR (mixR (mixR 5903417616801668165 (IntKind.wrap .u64 obj)) w.Hi) w.Lo) (iSub .u64 (iShl .u64 1 knob) 1)
theorem t_Hash {h : H} {obj : Int} {w : S_api_Word} {knob : Int} {K : Int → H → Prop} (y : K (hash obj w knob) h) : m_mix_Hash obj w knob K h := by
  unfold m_mix_Hash
  refine ⟨4, ?_⟩
  refine w_ifF rfl (w_ifF rfl (w_ifF rfl ?_))
  refine w_ifT rfl ?_
  refine w_ifF rfl (w_ifT rfl ?_)
  refine w_ifF rfl (w_ifF rfl (w_ifT rfl ?_))
  unfold hash at y
  refine w_if' (fun c => by rw [if_pos c] at y; exact y) fun c => ?_
  rw [if_neg c] at y
  refine w_if' (fun c2 => by rw [if_pos c2] at y; exact y) fun c2 => ?_
  rw [if_neg c2] at y
  exact w_nn (by omega) y
theorem wrap_nat (x : Int) : ∃ n : Nat, IntKind.u64.wrap x = n ∧ n < 2 ^ 64 := ⟨(x % 18446744073709551616).toNat, by rw [wrap_u64]; omega, by omega⟩
theorem hash_nat (obj : Int) (w : S_api_Word) (knob : Int) : ∃ n : Nat, hash obj w knob = n ∧ n < 2 ^ 64 := by
  unfold hash
  split
  · exact ⟨0, rfl, by decide⟩
  · split
    · exact wrap_nat _
    · exact wrap_nat _
theorem w_hash {h : H} {obj : Int} {w : S_api_Word} {knob : Int} {k : Int → H → Prop} (y : k (hash obj w knob) h) : mPure (m_mix_Hash obj w knob) k h := w_pure _ (fun _ _ y => t_Hash y) y
def home (knob : Int) (n : Nat) (c : S_api_Cap) : Nat := (hash c.Obj c.Pass knob).toNat % n
def path (knob : Int) (n : Nat) (c : S_api_Cap) (i : Nat) : Nat := (home knob n c + i) % n
section
variable {knob : Int} {n : Nat} {c : S_api_Cap}
theorem home_lt (hn : 0 < n) : home knob n c < n := Nat.mod_lt _ hn
theorem path_lt (hn : 0 < n) (i : Nat) : path knob n c i < n := Nat.mod_lt _ hn
theorem path_eq {i : Nat} (hi : i < n) : path knob n c i = if home knob n c + i < n then home knob n c + i else home knob n c + i - n := by
  have := home_lt (knob := knob) (c := c) (show 0 < n by omega)
  unfold path
  split
  · rename_i q; exact Nat.mod_eq_of_lt q
  · rename_i q; rw [Nat.mod_eq_sub_mod (by omega), Nat.mod_eq_of_lt (by omega)]
theorem path_inj {i j : Nat} (hi : i < n) (hj : j < n) (e : path knob n c i = path knob n c j) : i = j := by
  rw [path_eq hi, path_eq hj] at e
  split at e <;> split at e <;> omega
theorem path_sur {j : Nat} (hj : j < n) : ∃ i, i < n ∧ path knob n c i = j := by
  have := home_lt (knob := knob) (c := c) (show 0 < n by omega)
  by_cases q : home knob n c ≤ j
  · exact ⟨j - home knob n c, by omega, by rw [path_eq (by omega), if_pos (by omega)]; omega⟩
  · exact ⟨j + n - home knob n c, by omega, by rw [path_eq (by omega), if_neg (by omega)]; omega⟩
theorem path_code {i : Nat} (hn : 0 < n) (hm : n ≤ 512) (hi : i < n) : iRem .i64 (iAdd .i64 (IntKind.wrap .i64 (iRem .u64 (hash c.Obj c.Pass knob) (IntKind.wrap .u64 (n : Int)))) (i : Int)) (n : Int) = ((path knob n c i : Nat) : Int) := by
  obtain ⟨m, e, hm'⟩ := hash_nat c.Obj c.Pass knob
  have e1 : IntKind.u64.wrap (n : Int) = n := u_wrap (by omega)
  have e2 : iRem .u64 (m : Int) (n : Int) = ((m % n : Nat) : Int) := rfl
  have hlt : m % n < n := Nat.mod_lt _ hn
  rw [e, e1, e2, i64_eq (by omega) (by omega), iAdd_eq (by omega) (by omega)]
  unfold path home
  rw [e]
  show (((m % n : Nat) : Int) + (i : Int)).tmod n = _
  rw [← Int.natCast_add]
  rfl
end
inductive Plc
  | free
  | dead
  | full (c : S_api_Cap) (v : Int)
def Plc.pl : Plc → S_slots_place_int
  | .free => ⟨0, ⟨0, ⟨0, 0⟩⟩, 0⟩
  | .dead => ⟨2, ⟨0, ⟨0, 0⟩⟩, 0⟩
  | .full c v => ⟨1, c, v⟩
def Plc.ent : Plc → Option (S_api_Cap × Int)
  | .full c v => some (c, v)
  | _ => none
def plC (p : Plc) : List Value := S_slots_place_int.cells p.pl
theorem pl_len : ∀ x, (plC x).length = 5 := fun _ => rfl
def ents (ps : List Plc) : List (S_api_Cap × Int) := ps.filterMap Plc.ent
theorem ents_mem {ps : List Plc} {c : S_api_Cap} {v : Int} : (c, v) ∈ ents ps ↔ ∃ j : Nat, ps[j]? = some (.full c v) := by
  unfold ents
  rw [List.mem_filterMap]
  constructor
  · rintro ⟨p, hp, e⟩
    obtain ⟨j, hj⟩ := List.mem_iff_getElem?.1 hp
    refine ⟨j, ?_⟩
    cases p <;> simp [Plc.ent] at e
    obtain ⟨rfl, rfl⟩ := e
    exact hj
  · rintro ⟨j, hj⟩
    exact ⟨_, List.mem_iff_getElem?.2 ⟨j, hj⟩, rfl⟩
theorem ents_append (a b : List Plc) : ents (a ++ b) = ents a ++ ents b := List.filterMap_append
theorem ents_put {ps : List Plc} {j : Nat} {p : Plc} (hj : ps[j]? = some p) (he : p.ent = none) (c : S_api_Cap) (v : Int) : (ents (ps.set j (.full c v))).Perm ((c, v) :: ents ps) := by
  have hlt := lt_of_get hj
  have e1 : ps.set j (.full c v) = ps.take j ++ .full c v :: ps.drop (j + 1) := by rw [List.set_eq_take_append_cons_drop, if_pos hlt]
  rw [e1]
  conv => rhs; rw [split_at hj]
  rw [ents_append, ents_append]
  have e2 : ents (.full c v :: ps.drop (j + 1)) = (c, v) :: ents (ps.drop (j + 1)) := rfl
  have e3 : ents (p :: ps.drop (j + 1)) = ents (ps.drop (j + 1)) := by unfold ents; rw [List.filterMap_cons, he]
  rw [e2, e3]
  exact List.perm_middle
theorem ents_le : ∀ ps : List Plc, (ents ps).length ≤ ps.length := fun _ => List.length_filterMap_le _ _
theorem ents_all {ps : List Plc} (h : ∀ q ∈ ps, q.ent ≠ none) : (ents ps).length = ps.length := by
  induction ps with
  | nil => rfl
  | cons p r ih =>
    have hp := h p (List.mem_cons_self ..)
    have := ih fun q hq => h q (List.mem_cons_of_mem _ hq)
    cases p <;> first | exact absurd rfl hp | skip
    show ((ents r).length + 1) = _
    rw [this]; rfl
structure TabWF (knob : Int) (ps : List Plc) : Prop where
  one : Once (ents ps)
  way : ∀ c v i, i < ps.length → ps[path knob ps.length c i]? = some (.full c v) → ∀ j, j < i → ps[path knob ps.length c j]? ≠ some .free
def Spot (knob : Int) (ps : List Plc) (c : S_api_Cap) (o : Int) : Prop :=
  (o = -1 ∧ ∀ q ∈ ps, q.ent ≠ none) ∨ ∃ i p, i < ps.length ∧ o = ((path knob ps.length c i : Nat) : Int) ∧ ps[path knob ps.length c i]? = some p ∧ p.ent = none ∧ ∀ j, j < i → ps[path knob ps.length c j]? ≠ some .free
theorem TabWF.absent {knob : Int} {ps : List Plc} (w : TabWF knob ps) {c : S_api_Cap} {m : Nat} (hm : m ≤ ps.length) (hne : ∀ j, j < m → ∀ v, ps[path knob ps.length c j]? ≠ some (.full c v)) (hend : m = ps.length ∨ ps[path knob ps.length c m]? = some .free) (v : Int) : (c, v) ∉ ents ps := fun hv => by
  obtain ⟨j, hj⟩ := ents_mem.1 hv
  obtain ⟨i, hi, rfl⟩ := path_sur (knob := knob) (c := c) (lt_of_get hj)
  rcases Nat.lt_or_ge i m with q | q
  · exact hne i q v hj
  · rcases hend with e | e
    · omega
    · rcases Nat.lt_or_ge m i with r | r
      · exact w.way c v i hi hj m r e
      · obtain rfl : i = m := by omega
        rw [hj] at e; cases e
theorem TabWF.put {knob : Int} {ps : List Plc} (w : TabWF knob ps) {c : S_api_Cap} {v : Int} (abs : ∀ v, (c, v) ∉ ents ps) {i : Nat} {p : Plc} (hi : i < ps.length) (hp : ps[path knob ps.length c i]? = some p) (he : p.ent = none) (hw : ∀ j, j < i → ps[path knob ps.length c j]? ≠ some .free) :
    TabWF knob (ps.set (path knob ps.length c i) (.full c v)) := by
  have hl : (ps.set (path knob ps.length c i) (.full c v)).length = ps.length := List.length_set ..
  have get : ∀ k, (ps.set (path knob ps.length c i) (.full c v))[k]? = if path knob ps.length c i = k then some (.full c v) else ps[k]? := fun k => by
    rw [List.getElem?_set]
    split
    · rw [if_pos (lt_of_get hp)]
    · rfl
  refine ⟨?_, fun c' v' i' hi' hf j hj => ?_⟩
  · unfold Once
    have := (ents_put hp he c v).map (·.1)
    refine (this.nodup_iff).2 ?_
    rw [List.map_cons, List.nodup_cons]
    refine ⟨fun q => ?_, w.one⟩
    obtain ⟨z, hz, e⟩ := List.mem_map.1 q
    obtain ⟨a, b⟩ := z
    cases e
    exact abs _ hz
  · rw [hl] at hi' hf ⊢
    rw [get] at hf ⊢
    split
    · exact fun q => by cases q
    · rename_i hne
      split at hf
      · rename_i e
        cases hf
        have := path_inj hi hi' e
        subst this
        exact hw j hj
      · exact w.way c' v' i' hi' hf j hj
theorem TabWF.none (knob : Int) (n : Nat) : TabWF knob (List.replicate n .free) := by
  have he : ents (List.replicate n .free) = [] := by
    unfold ents
    rw [List.filterMap_eq_nil_iff]
    intro a ha
    rw [(List.mem_replicate.1 ha).2]; rfl
  refine ⟨by rw [he]; exact List.nodup_nil, fun c v i hi hf => ?_⟩
  have : (c, v) ∈ ents (List.replicate n .free) := ents_mem.2 ⟨_, hf⟩
  rw [he] at this; cases this
structure TableAt (h : H) (p : Nat) (s : Sl) (most knob : Int) (ps : List Plc) (live used : Int) : Prop where
  cell : h p = some (.cells (S_slots_Table_int.cells ⟨most, knob, s, live, used⟩).toArray N_slots_Table_int (0, 0))
  buf : Buf plC 5 N_slots_place_int h s ps
  len : 0 < ps.length ∧ ps.length ≤ 512
  wf : TabWF knob ps
section
variable {h : H} {p : Nat} {s : Sl} {most knob : Int} {ps : List Plc} {live used : Int}
theorem TableAt.f (x : TableAt h p s most knob ps live used) {n : Nat} {l1 l2 l3 : List Value} (e : S_slots_Table_int.cells ⟨most, knob, s, live, used⟩ = l1 ++ l2 ++ l3) (hn : l1.length = n) : At h ((⟨p, 0, none⟩ : Addr).add n) l2 := by
  have hc := x.cell
  rw [e] at hc
  have : (⟨p, 0, none⟩ : Addr).add n = ⟨p, n, none⟩ := by
    unfold Addr.add; split
    · rename_i q; subst q; rfl
    · simp
  rw [this]
  exact At.own hc hn
theorem TableAt.f0 (x : TableAt h p s most knob ps live used) : At h ((⟨p, 0, none⟩ : Addr).add 0) (cInt .i64 most) := x.f (l1 := []) (l3 := (S_slots_Table_int.cells ⟨most, knob, s, live, used⟩).drop 1) rfl rfl
theorem TableAt.f1 (x : TableAt h p s most knob ps live used) : At h ((⟨p, 0, none⟩ : Addr).add 1) (cInt .i64 knob) := x.f (l1 := (S_slots_Table_int.cells ⟨most, knob, s, live, used⟩).take 1) (l3 := (S_slots_Table_int.cells ⟨most, knob, s, live, used⟩).drop 2) rfl rfl
theorem TableAt.f2 (x : TableAt h p s most knob ps live used) : At h ((⟨p, 0, none⟩ : Addr).add 2) (cSl s) := x.f (l1 := (S_slots_Table_int.cells ⟨most, knob, s, live, used⟩).take 2) (l3 := (S_slots_Table_int.cells ⟨most, knob, s, live, used⟩).drop 3) rfl rfl
theorem TableAt.f3 (x : TableAt h p s most knob ps live used) : At h ((⟨p, 0, none⟩ : Addr).add 3) (cInt .i64 live) := x.f (l1 := (S_slots_Table_int.cells ⟨most, knob, s, live, used⟩).take 3) (l3 := (S_slots_Table_int.cells ⟨most, knob, s, live, used⟩).drop 4) rfl rfl
theorem TableAt.f4 (x : TableAt h p s most knob ps live used) : At h ((⟨p, 0, none⟩ : Addr).add 4) (cInt .i64 used) := x.f (l1 := (S_slots_Table_int.cells ⟨most, knob, s, live, used⟩).take 4) (l3 := []) rfl rfl
theorem TableAt.apart (x : TableAt h p s most knob ps live used) : ¬ s.foot p := fun f => (x.buf.typed f).ne (Typed.of x.cell) (by decide) rfl
theorem t_find (x : TableAt h p s most knob ps live used) {c : S_api_Cap} {K : Int × Int → H → Prop} (hit : ∀ (j : Nat) v o, ps[j]? = some (.full c v) → K ((j : Int), o) h)
    (miss : ∀ o, (∀ v, (c, v) ∉ ents ps) → Spot knob ps c o → K (-1, o) h) : m_slots_Table_int_find (some ⟨p, 0, none⟩) c K h := by
  unfold m_slots_Table_int_find
  have hl := x.buf.len
  obtain ⟨h0, h1⟩ := x.len
  refine w_deref (w_load x.f2 (w_deref (w_load x.f1 (w_hash ⟨?_, ?_⟩))))
  · rw [u_wrap (by omega)]; omega
  rw [hl]
  refine w_for ps.length (fun i (z : Int × Int) h' => h = h' ∧ z.2 = (i : Int) ∧ (∀ j, j < i → ps[path knob ps.length c j]? ≠ some .free ∧ ∀ v, ps[path knob ps.length c j]? ≠ some (.full c v)) ∧
    ((z.1 = -1 ∧ ∀ j, j < i → ∀ q, ps[path knob ps.length c j]? = some q → q.ent ≠ none) ∨ ∃ j, j < i ∧ z.1 = ((path knob ps.length c j : Nat) : Int) ∧ ps[path knob ps.length c j]? = some .dead)) ?_ ⟨rfl, rfl, fun j hj => by omega, .inl ⟨rfl, fun j hj => by omega⟩⟩
  rintro rec i ⟨o, ii⟩ h' hi ⟨rfl, e2, hne, ho⟩ more
  have e2 : ii = (i : Int) := e2
  subst e2
  have spotD : ∀ {m : Nat}, (∃ j, j < m ∧ o = ((path knob ps.length c j : Nat) : Int) ∧ ps[path knob ps.length c j]? = some .dead) → m ≤ i → Spot knob ps c o := fun ⟨j, hj, e, hd⟩ hm => .inr ⟨j, .dead, by omega, e, hd, rfl, fun k hk => (hne k (by omega)).1⟩
  refine w_if' (fun ci => ?_) fun ci => ?_
  · have ci : (i : Int) < (ps.length : Int) := ci
    have hi' : i < ps.length := by omega
    refine ⟨by show ((ps.length : Nat) : Int) ≠ 0; omega, w_deref (w_load x.f2 ?_)⟩
    show mIdx s (iRem .i64 (iAdd .i64 (IntKind.wrap .i64 (iRem .u64 (hash c.Obj c.Pass knob) (IntKind.wrap .u64 (ps.length : Int)))) (i : Int)) (ps.length : Int)) 5 _ h
    rw [path_code h0 h1 hi']
    have hlt := path_lt (knob := knob) (c := c) h0 i
    obtain ⟨q, hq⟩ : ∃ q, ps[path knob ps.length c i]? = some q := ⟨_, List.getElem?_eq_getElem hlt⟩
    refine w_idx pl_len x.buf.arr hq rfl fun a ha hat => ?_
    have hst : At h (a.add 0) (cInt .u8 q.pl.xstate) := At.sub (l1 := []) (l3 := (plC q).drop 1) hat rfl
    refine w_load hst ?_
    cases q with
    | free =>
      refine w_ifT rfl ?_
      have abs := x.wf.absent (c := c) hi (fun j hj => (hne j hj).2) (.inr hq)
      refine w_if' (fun co => ?_) fun co => ?_
      · exact miss _ abs (.inr ⟨i, .free, hi', rfl, hq, rfl, fun j hj => (hne j hj).1⟩)
      · rcases ho with ⟨e, _⟩ | ho
        · have co : ¬ o < 0 := co
          have e : o = -1 := e
          omega
        · exact miss _ abs (spotD ho (Nat.le_refl _))
    | dead =>
      refine w_ifF rfl (w_load hst (w_ifT rfl ?_))
      have hne' : ∀ j, j < i + 1 → ps[path knob ps.length c j]? ≠ some .free ∧ ∀ v, ps[path knob ps.length c j]? ≠ some (.full c v) := fun j hj => by
        rcases Nat.lt_or_ge j i with r | r
        · exact hne j r
        · obtain rfl : j = i := by omega
          rw [hq]; exact ⟨fun e => (by cases e), fun v e => (by cases e)⟩
      refine w_if' (fun co => ?_) fun co => ?_
      · exact more _ _ hi' ⟨rfl, by rw [iAdd_eq (by omega) (by omega)]; rfl, hne', .inr ⟨i, by omega, rfl, hq⟩⟩
      · refine more _ _ hi' ⟨rfl, by rw [iAdd_eq (by omega) (by omega)]; rfl, hne', ?_⟩
        rcases ho with ⟨e, _⟩ | ⟨j, hj, e, hd⟩
        · have co : ¬ o < 0 := co
          have e : o = -1 := e
          omega
        · exact .inr ⟨j, by omega, e, hd⟩
    | full c' v =>
      refine w_ifF rfl (w_load hst (w_ifF rfl ?_))
      refine w_load (v := c') (At.sub (l1 := (plC (.full c' v)).take 1) (l3 := (plC (.full c' v)).drop 4) hat rfl) ?_
      rw [cap_eqB]
      refine w_if' (fun cc => ?_) fun cc => ?_
      · subst cc
        exact hit _ v _ hq
      · refine more _ _ hi' ⟨rfl, by rw [iAdd_eq (by omega) (by omega)]; rfl, fun j hj => ?_, ?_⟩
        · rcases Nat.lt_or_ge j i with r | r
          · exact hne j r
          · obtain rfl : j = i := by omega
            rw [hq]; exact ⟨fun e => (by cases e), fun v e => (by cases e; exact cc rfl)⟩
        · rcases ho with ⟨e, ha⟩ | ⟨j, hj, e, hd⟩
          · refine .inl ⟨e, fun j hj z hz => ?_⟩
            rcases Nat.lt_or_ge j i with r | r
            · exact ha j r z hz
            · obtain rfl : j = i := by omega
              rw [hq] at hz; cases hz; exact fun e => by cases e
          · exact .inr ⟨j, by omega, e, hd⟩
  · have ci : ¬ (i : Int) < (ps.length : Int) := ci
    have hi' : i = ps.length := by omega
    have abs := x.wf.absent (c := c) hi (fun j hj => (hne j hj).2) (.inl hi')
    refine miss _ abs ?_
    rcases ho with ⟨e, ha⟩ | ho
    · refine .inl ⟨e, fun q hq => ?_⟩
      obtain ⟨k, hk⟩ := List.mem_iff_getElem?.1 hq
      obtain ⟨j, hj, rfl⟩ := path_sur (knob := knob) (c := c) (lt_of_get hk)
      exact ha j (by omega) q hk
    · exact spotD ho (Nat.le_refl _)
end
theorem pt_add (p n : Nat) : (⟨p, 0, none⟩ : Addr).add n = ⟨p, n, none⟩ := by rw [addr_add, Nat.zero_add]
theorem w_clear {T : Type} {cells : T → List Value} {sz : Nat} {e : TypeId} (hs : ∀ x, (cells x).length = sz) {h : H} (z0 : T) {zero : Array Value} (hz : zero = (cells z0).toArray) {s : Sl} {xs : List T} (x : Buf cells sz e h s xs) {k : H → Prop}
    (y : ∀ h', Buf cells sz e h' s (List.replicate xs.length z0) → But s.foot h h' → (∀ b, h' b = none → h b = none) → k h') : mClear zero s k h := by
  have hl := x.len
  rcases x.at_ with ⟨ha, h0⟩ | ⟨b, z, fz, ha, hb, hlen, hth⟩
  · have hc := x.cap
    have h1 : xs.length = 0 := by omega
    have : xs = [] := List.length_eq_zero_iff.1 h1
    subst this
    exact .inl ⟨.inl ha, y h x (.refl _ _) fun _ q => q⟩
  · by_cases h0 : s.len = 0
    · have : xs = [] := List.length_eq_zero_iff.1 (by omega)
      subst this
      exact .inl ⟨.inr h0, y h x (.refl _ _) fun _ q => q⟩
    · refine .inr ⟨h0, _, ha, ?_⟩
      rw [zero_flat hs z0 hz, hl]
      have hb' : h b = some (.cells ([] ++ flat cells xs ++ z).toArray e fz) := hb
      refine w_storeF (l1 := []) rfl hb' (by rw [List.nil_append, hlen]; exact hth) rfl (by rw [flat_len hs, flat_len hs, List.length_replicate]) ?_
      refine y _ ⟨by rw [List.length_replicate]; exact hl, x.cap, .inr ⟨b, z, fz, ha, upd_same _ _ _, ?_, hth⟩⟩ (But.upd ⟨_, ha, rfl⟩) fun c hc => (upd_none.1 hc).2
      rw [← hlen, List.length_append, List.length_append, flat_len hs, flat_len hs, List.length_replicate]
structure TChg (p : Nat) (s : Sl) (h h' : H) : Prop where
  but : But (fun c => c = p ∨ s.foot c) h h'
  dom : ∀ c, h' c = none → h c = none
theorem TChg.refl (p : Nat) (s : Sl) (h : H) : TChg p s h h := ⟨.refl _ _, fun _ e => e⟩
theorem TChg.keeps {p : Nat} {s : Sl} {h h' : H} (k : Keeps h h') : TChg p s h h' := ⟨.of k, fun _ e => k.fresh e⟩
theorem TChg.trans {p : Nat} {s : Sl} {h h1 h2 : H} (x : TChg p s h h1) (y : TChg p s h1 h2) : TChg p s h h2 := ⟨x.but.trans y.but fun _ f => .inl f, fun c e => x.dom c (y.dom c e)⟩
section
variable {h : H} {p : Nat} {s : Sl} {most knob : Int} {ps : List Plc} {live used : Int}
theorem TableAt.keep {h' : H} (x : TableAt h p s most knob ps live used) (k : Keeps h h') : TableAt h' p s most knob ps live used := ⟨k _ _ x.cell, x.buf.keep k, x.len, x.wf⟩
theorem TableAt.but {h' : H} {F : Nat → Prop} (x : TableAt h p s most knob ps live used) (k : But F h h') (f : ∀ c, F c → c ≠ p ∧ ¬ s.foot c) : TableAt h' p s most knob ps live used :=
  ⟨k _ _ x.cell fun q => (f _ q).1 rfl, x.buf.but k fun a ha q => (f _ q).2 ⟨a, ha, rfl⟩, x.len, x.wf⟩
theorem TableAt.store (x : TableAt h p s most knob ps live used) {n : Nat} {l1 l2 l3 new : List Value} {live' used' : Int} (e : S_slots_Table_int.cells ⟨most, knob, s, live, used⟩ = l1 ++ l2 ++ l3) (e' : S_slots_Table_int.cells ⟨most, knob, s, live', used'⟩ = l1 ++ new ++ l3) (hn : l1.length = n) (hl : new.length = l2.length) {k : H → Prop}
    (y : ∀ h', TableAt h' p s most knob ps live' used' → TChg p s h h' → k h') : mStore ((⟨p, 0, none⟩ : Addr).add n) new k h := by
  have hc := x.cell
  rw [e] at hc
  refine w_store (pt_add p n) hc hn hl ?_
  rw [← e']
  exact y _ ⟨upd_same _ _ _, x.buf.but (F := (· = p)) (But.upd rfl) fun a ha q => x.apart ⟨a, ha, q⟩, x.len, x.wf⟩ ⟨But.upd (.inl rfl), fun c q => (upd_none.1 q).2⟩
theorem TableAt.setLive (x : TableAt h p s most knob ps live used) {v : Int} {k : H → Prop} (y : ∀ h', TableAt h' p s most knob ps v used → TChg p s h h' → k h') : mStore ((⟨p, 0, none⟩ : Addr).add 3) [.int .i64 v] k h :=
  x.store (n := 3) (new := [.int .i64 v]) (live' := v) (used' := used) (l1 := (S_slots_Table_int.cells ⟨most, knob, s, live, used⟩).take 3) (l2 := [.int .i64 live]) (l3 := (S_slots_Table_int.cells ⟨most, knob, s, live, used⟩).drop 4) rfl rfl rfl rfl y
theorem TableAt.setUsed (x : TableAt h p s most knob ps live used) {v : Int} {k : H → Prop} (y : ∀ h', TableAt h' p s most knob ps live v → TChg p s h h' → k h') : mStore ((⟨p, 0, none⟩ : Addr).add 4) [.int .i64 v] k h :=
  x.store (n := 4) (new := [.int .i64 v]) (live' := live) (used' := v) (l1 := (S_slots_Table_int.cells ⟨most, knob, s, live, used⟩).take 4) (l2 := [.int .i64 used]) (l3 := []) rfl rfl rfl rfl y
theorem TableAt.place (x : TableAt h p s most knob ps live used) {h' : H} {ps' : List Plc} (b : Buf plC 5 N_slots_place_int h' s ps') (k : But s.foot h h') (l : ps'.length = ps.length) (w : TabWF knob ps') : TableAt h' p s most knob ps' live used :=
  ⟨k _ _ x.cell x.apart, b, by rw [l]; exact x.len, w⟩
theorem t_put (x : TableAt h p s most knob ps live used) (hl : 0 ≤ live ∧ live ≤ 512) (hu : 0 ≤ used ∧ used ≤ 512) {c : S_api_Cap} {v : Int} (abs : ∀ v, (c, v) ∉ ents ps) (room : (ents ps).length < ps.length) {K : Unit → H → Prop}
    (y : ∀ h' ps' used', TableAt h' p s most knob ps' (live + 1) used' → (ents ps').Perm ((c, v) :: ents ps) → ps'.length = ps.length → used ≤ used' → used' ≤ used + 1 → TChg p s h h' → K () h') : m_slots_Table_int_put (some ⟨p, 0, none⟩) c v K h := by
  unfold m_slots_Table_int_put
  refine t_find x (fun j v o e => absurd (ents_mem.2 ⟨j, e⟩) (abs v)) fun o _ sp => ?_
  rcases sp with ⟨_, hall⟩ | ⟨i, q, hi, rfl, hq, he, hw⟩
  · rw [ents_all hall] at room; omega
  have hlt := lt_of_get hq
  refine w_joinP (fun _ h1 => ∃ used', TableAt h1 p s most knob ps live used' ∧ TChg p s h h1 ∧ used ≤ used' ∧ used' ≤ used + 1) (fun j hj => ?_) ?_
  · refine w_deref (w_load x.f2 (w_field pl_len x.buf.arr hq rfl (v' := q.pl.xstate) (cells' := cInt .u8) (l1 := []) (l3 := (plC q).drop 1) rfl rfl ?_))
    refine w_if (fun _ => ?_) fun _ => hj _ _ ⟨used, x, .refl .., Int.le_refl _, by omega⟩
    refine w_deref (w_load x.f4 (w_deref ?_))
    rw [iAdd_eq (by omega) (by omega)]
    exact x.setUsed fun h1 x1 t1 => hj _ _ ⟨used + 1, x1, t1, by omega, Int.le_refl _⟩
  · rintro _ h1 ⟨used', x1, t1, u1, u2⟩
    refine w_deref (w_load x1.f2 (w_put pl_len x1.buf hlt rfl (.full c v) rfl fun h2 b2 k2 d2 => ?_))
    have x2 := x1.place b2 k2 (List.length_set ..) (x.wf.put abs hi hq he hw)
    refine w_deref (w_load x2.f3 (w_deref ?_))
    rw [iAdd_eq (by omega) (by omega)]
    refine x2.setLive fun h3 x3 t3 => y h3 _ used' x3 (ents_put hq he c v) (List.length_set ..) u1 u2 ?_
    exact (t1.trans ⟨k2.mono fun _ f => .inr f, d2⟩).trans t3
def isFull (q : Plc) : Bool := q.ent.isSome
theorem ents_filter (ps : List Plc) : ents (ps.filter isFull) = ents ps := by
  induction ps with
  | nil => rfl
  | cons q r ih =>
    unfold ents at ih ⊢
    cases q with
    | full c v =>
      rw [List.filter_cons_of_pos rfl, List.filterMap_cons, List.filterMap_cons, ih]
    | free => rw [List.filter_cons_of_neg (by simp [isFull, Plc.ent]), List.filterMap_cons, ih]; rfl
    | dead => rw [List.filter_cons_of_neg (by simp [isFull, Plc.ent]), List.filterMap_cons, ih]; rfl
theorem t_anew (x : TableAt h p s most knob ps live used) (room : 2 * (ents ps).length ≤ ps.length) {K : Unit → H → Prop}
    (y : ∀ h' ps' used', TableAt h' p s most knob ps' ((ents ps).length : Nat) used' → (ents ps').Perm (ents ps) → ps'.length = ps.length → 0 ≤ used' → 2 * used' ≤ ps.length → TChg p s h h' → K () h') : m_slots_Table_int_anew (some ⟨p, 0, none⟩) K h := by
  unfold m_slots_Table_int_anew
  have hl := x.buf.len
  obtain ⟨h0, h1⟩ := x.len
  refine w_deref (w_load x.f2 ?_)
  refine w_for ps.length (fun i (z : Sl × Int) h' => z.2 = (i : Int) ∧ Buf plC 5 N_slots_place_int h' z.1 ((ps.take i).filter isFull) ∧ Keeps h h' ∧ (∀ c, z.1.foot c → h c = none)) ?_ ⟨rfl, Buf.nil, .refl _, fun c ⟨a, ha, _⟩ => by cases ha⟩
  rintro rec i ⟨s2, ii⟩ h2 hi ⟨e2, bu2, k2, fr2⟩ more
  have e2 : ii = (i : Int) := e2
  subst e2
  have x2 := x.keep k2
  refine w_if' (fun ci => ?_) fun ci => ?_
  · have ci : (i : Int) < (s.len : Int) := ci
    have hi' : i < ps.length := by omega
    obtain ⟨q, hq⟩ : ∃ q, ps[i]? = some q := ⟨_, List.getElem?_eq_getElem hi'⟩
    refine w_idx pl_len x2.buf.arr hq rfl fun a _ ha => w_load (v := q.pl) ha ?_
    have htk : ps.take (i + 1) = ps.take i ++ [q] := by rw [List.take_add_one, hq]; rfl
    have hlen : ((ps.take i).filter isFull).length ≤ 512 := Nat.le_trans (List.length_filter_le _ _) (by rw [List.length_take]; omega)
    have nofull : isFull q = false → (ps.take (i + 1)).filter isFull = (ps.take i).filter isFull := fun e => by rw [htk, List.filter_append]; simp [e]
    have skip : isFull q = false → rec (s2, iAdd .i64 (i : Int) 1) h2 := fun e => more _ _ hi' ⟨ia1 i (by omega), by rw [nofull e]; exact bu2, k2, fr2⟩
    cases q with
    | free => exact w_ifF rfl (skip rfl)
    | dead => exact w_ifF rfl (skip rfl)
    | full c v =>
      refine w_ifT rfl (w_app (by_ := 40) pl_len rfl bu2 [.full c v] rfl rfl (.inl (by simp only [List.length_singleton]; omega)) fun s3 h3 bu3 b3 f3 d3 => ?_)
      refine more _ _ hi' ⟨ia1 i (by omega), ?_, k2.but b3 fun n f => fr2 n f, fun c f => (f3 c f).elim (fr2 c) k2.fresh⟩
      rw [htk, List.filter_append]
      exact bu3
  · have ci : ¬ (i : Int) < (s.len : Int) := ci
    have hi' : i = ps.length := by omega
    subst hi'
    rw [List.take_length] at bu2
    have hf : ∀ q ∈ ps.filter isFull, ∃ c v, q = .full c v := fun q hq => by
      have := (List.mem_filter.1 hq).2
      cases q with
      | full c v => exact ⟨c, v, rfl⟩
      | _ => cases this
    have hents := ents_filter ps
    have hcnt : (ps.filter isFull).length = (ents ps).length := by
      rw [← hents, ents_all]
      intro q hq
      obtain ⟨c, v, rfl⟩ := hf q hq
      exact fun e => by cases e
    refine w_deref (w_load x2.f2 (w_clear pl_len .free rfl x2.buf fun h3 b3 k3 d3 => ?_))
    have x3 := x2.place b3 k3 (List.length_replicate ..) (TabWF.none knob ps.length)
    have ap2 : ∀ c, s2.foot c → c ≠ p ∧ ¬ s.foot c := fun c f => ⟨fun e => (by subst e; have := fr2 _ f; rw [x.cell] at this; cases this), fun g => x.buf.has g (fr2 _ f)⟩
    have bu3 := bu2.but k3 fun a ha f => (ap2 _ ⟨a, ha, rfl⟩).2 f
    refine w_deref (x3.setLive fun h4 x4 t4 => w_deref (x4.setUsed fun h5 x5 t5 => ?_))
    have t45 := t4.trans t5
    have bu5 := bu3.but t45.but fun a ha f => f.elim (ap2 _ ⟨a, ha, rfl⟩).1 (ap2 _ ⟨a, ha, rfl⟩).2
    have t05 : TChg p s h h5 := ((TChg.keeps k2).trans ⟨k3.mono fun _ f => .inr f, d3⟩).trans t45
    have hl2 := bu2.len
    refine w_for (ps.filter isFull).length (fun i (z : Int) h' => z = (i : Int) ∧ Buf plC 5 N_slots_place_int h' s2 (ps.filter isFull) ∧ TChg p s h h' ∧ ∃ ps' used', TableAt h' p s most knob ps' (i : Nat) used' ∧ (ents ps').Perm (ents ((ps.filter isFull).take i)) ∧ ps'.length = ps.length ∧ 0 ≤ used' ∧ used' ≤ i) ?_
      ⟨rfl, bu5, t05, _, 0, x5, ?_, List.length_replicate .., Int.le_refl _, by omega⟩
    · rintro rec i z h6 hi ⟨rfl, bu6, t6, ps6, used6, x6, pm6, l6, u6, u6'⟩ more
      refine w_if' (fun ci => ?_) fun ci => ?_
      · have ci : (i : Int) < (s2.len : Int) := ci
        have hi' : i < (ps.filter isFull).length := by omega
        obtain ⟨q, hq⟩ : ∃ q, (ps.filter isFull)[i]? = some q := ⟨_, List.getElem?_eq_getElem hi'⟩
        obtain ⟨c, v, rfl⟩ := hf q (List.mem_of_getElem? hq)
        refine w_idx pl_len bu6.arr hq rfl fun a _ ha => w_load (v := (Plc.full c v).pl) ha ?_
        have htk : (ps.filter isFull).take (i + 1) = (ps.filter isFull).take i ++ [.full c v] := by rw [List.take_add_one, hq]; rfl
        have hone : Once (ents ((ps.filter isFull).take (i + 1))) := by
          have : Once (ents (ps.filter isFull)) := by rw [hents]; exact x.wf.one
          rw [← List.take_append_drop (i + 1) (ps.filter isFull), ents_append] at this
          unfold Once at this ⊢
          rw [List.map_append] at this
          exact (List.nodup_append.1 this).1
        have abs : ∀ v', (c, v') ∉ ents ps6 := fun v' hv => by
          have hv := pm6.subset hv
          rw [htk, ents_append] at hone
          unfold Once at hone
          rw [List.map_append, List.nodup_append] at hone
          exact hone.2.2 c (List.mem_map.2 ⟨_, hv, rfl⟩) c (by simp [ents, Plc.ent]) rfl
        have hle : (ents ps6).length ≤ i := by rw [pm6.length_eq]; exact Nat.le_trans (ents_le _) (by rw [List.length_take]; omega)
        refine t_put x6 ⟨by omega, by omega⟩ ⟨by omega, by omega⟩ abs (by omega) fun h7 ps7 used7 x7 pm7 l7 u7 u7' t7 => ?_
        refine more _ _ hi' ⟨ia1 i (by omega), bu6.but t7.but fun a ha f => f.elim (ap2 _ ⟨a, ha, rfl⟩).1 (ap2 _ ⟨a, ha, rfl⟩).2, t6.trans t7, ps7, used7, ?_, ?_, l7.trans l6, by omega, by omega⟩
        · rw [show ((i + 1 : Nat) : Int) = (i : Int) + 1 by omega]; exact x7
        · rw [htk, ents_append]
          exact (pm7.trans (pm6.cons _)).trans (List.perm_append_comm (l₁ := [(c, v)]))
      · have ci : ¬ (i : Int) < (s2.len : Int) := ci
        have hi' : i = (ps.filter isFull).length := by omega
        subst hi'
        rw [List.take_length, hents] at pm6
        exact y h6 ps6 used6 (by rw [← hcnt]; exact x6) pm6 l6 u6 (by omega) t6
    · rw [List.take_zero]
      unfold ents
      rw [List.filterMap_eq_nil_iff.2 fun a ha => by rw [(List.mem_replicate.1 ha).2]; rfl]
      exact .refl _
end
structure Tab (h : H) (p : Nat) (s : Sl) (most knob : Int) (l : List (S_api_Cap × Int)) : Prop where
  ex : ∃ ps used, TableAt h p s most knob ps (l.length : Nat) used ∧ (ents ps).Perm l ∧ 0 ≤ used ∧ used ≤ ps.length ∧ 2 * most ≤ ps.length ∧ (l.length : Int) ≤ most
section
variable {h : H} {p : Nat} {s : Sl} {most knob : Int} {l : List (S_api_Cap × Int)}
theorem Tab.keep {h' : H} (x : Tab h p s most knob l) (k : Keeps h h') : Tab h' p s most knob l := by
  obtain ⟨ps, used, a, b⟩ := x.ex
  exact ⟨ps, used, a.keep k, b⟩
theorem Tab.but {h' : H} {F : Nat → Prop} (x : Tab h p s most knob l) (k : But F h h') (f : ∀ c, F c → c ≠ p ∧ ¬ s.foot c) : Tab h' p s most knob l := by
  obtain ⟨ps, used, a, b⟩ := x.ex
  exact ⟨ps, used, a.but k f, b⟩
theorem Tab.once (x : Tab h p s most knob l) : Once l := by
  obtain ⟨ps, used, a, b, _⟩ := x.ex
  exact (b.map Prod.fst).nodup_iff.1 a.wf.one
theorem Tab.typed (x : Tab h p s most knob l) {c : Nat} (f : c = p ∨ s.foot c) : Typed h N_slots_Table_int c ∨ Typed h N_slots_place_int c := by
  obtain ⟨ps, used, a, b, _⟩ := x.ex
  rcases f with rfl | f
  · exact .inl (Typed.of a.cell)
  · exact .inr (a.buf.typed f)
theorem t_TGet (x : Tab h p s most knob l) {c : S_api_Cap} {K : Int × Bool → H → Prop} (y : K ((alook l c).getD 0, (alook l c).isSome) h) : m_slots_Table_int_Get (some ⟨p, 0, none⟩) c K h := by
  obtain ⟨ps, used, a, b, _⟩ := x.ex
  unfold m_slots_Table_int_Get
  refine t_find a (fun j v o e => w_ifT (by simp) ?_) fun o abs _ => w_ifF (by simp) ?_
  · have : alook l c = some v := x.once.look (b.subset (ents_mem.2 ⟨j, e⟩))
    rw [this] at y
    exact w_deref (w_load a.f2 (w_field pl_len a.buf.arr e rfl (v' := v) (cells' := cInt .i64) (l1 := (plC (.full c v)).take 4) (l3 := []) rfl rfl y))
  · have : alook l c = none := by
      cases e : alook l c with
      | none => rfl
      | some v => exact absurd (b.symm.subset (alook_mem e)) (abs v)
    rw [this] at y
    exact y
theorem t_TPut (x : Tab h p s most knob l) {c : S_api_Cap} {v : Int} {K : Int → H → Prop} (y1 : alook l c ≠ none → K 19 h) (y2 : alook l c = none → most ≤ l.length → K 10 h)
    (y : alook l c = none → (l.length : Int) < most → ∀ h', Tab h' p s most knob (l ++ [(c, v)]) → TChg p s h h' → K 0 h') : m_slots_Table_int_Put (some ⟨p, 0, none⟩) c v K h := by
  obtain ⟨ps, used, a, b, u0, u1, mp, ml⟩ := x.ex
  unfold m_slots_Table_int_Put
  obtain ⟨h0, h1⟩ := a.len
  have hle := b.length_eq
  refine t_find a (fun j w o e => w_ifT (by simp) ?_) fun o abs _ => w_ifF (by simp) ?_
  · refine y1 ?_
    rw [x.once.look (b.subset (ents_mem.2 ⟨j, e⟩))]; simp
  have hno : alook l c = none := by
    cases e : alook l c with
    | none => rfl
    | some v => exact absurd (b.symm.subset (alook_mem e)) (abs v)
  refine w_deref (w_deref (w_load a.f3 (w_load a.f0 (w_if' (fun cm => ?_) fun cm => ?_))))
  · exact y2 hno cm
  have cm : ¬ most ≤ ((l.length : Nat) : Int) := cm
  refine w_joinP (fun _ h1 => ∃ ps1 used1, TableAt h1 p s most knob ps1 (l.length : Nat) used1 ∧ (ents ps1).Perm l ∧ 0 ≤ used1 ∧ used1 + 1 ≤ ps1.length ∧ 2 * most ≤ ps1.length ∧ TChg p s h h1) (fun j hj => ?_) ?_
  · refine w_deref (w_deref (w_load a.f4 (w_load a.f2 (w_if' (fun ca => ?_) fun ca => ?_))))
    · refine t_anew a (by omega) fun h2 ps2 used2 x2 pm2 l2 u2 u2' t2 => hj _ _ ⟨ps2, used2, ?_, pm2.trans b, u2, by omega, by omega, t2⟩
      rw [hle] at x2; exact x2
    · have hsl := a.buf.len
      rw [show (iMul .i64 7 (s.len : Int) < iMul .i64 8 (iAdd .i64 used 1)) ↔ (7 * (s.len : Int) < 8 * (used + 1)) by rw [iMul_eq (by omega) (by omega), iAdd_eq (by omega) (by omega), iMul_eq (by omega) (by omega)]] at ca
      exact hj _ _ ⟨ps, used, a, b, u0, by omega, mp, .refl ..⟩
  · rintro _ h2 ⟨ps1, used1, x1, b1, v0, v1, mp1, t1⟩
    have hl1 := b1.length_eq
    have := x1.len
    refine t_put x1 ⟨by omega, by omega⟩ ⟨by omega, by omega⟩ (fun w hw => abs w (b.symm.subset (b1.subset hw))) (by omega) fun h3 ps3 used3 x3 pm3 l3 w1 w2 t3 => ?_
    refine y hno (by omega) h3 ⟨ps3, used3, ?_, ?_, by omega, by omega, by omega, by simp only [List.length_append, List.length_singleton]; omega⟩ (t1.trans t3)
    · rw [List.length_append, List.length_singleton]
      exact x3
    · exact (pm3.trans (b1.cons _)).trans (List.perm_append_comm (l₁ := [(c, v)]))
theorem t_TNew {most knob : Int} {K : Option Addr × Int → H → Prop} (bad : (most < 1 ∨ 256 < most ∨ knob < 0 ∨ 64 < knob) → K (none, 16) h)
    (good : 1 ≤ most → most ≤ 256 → 0 ≤ knob → knob ≤ 64 → ∀ p s h', Tab h' p s most knob [] → Keeps h h' → h p = none → (∀ c, s.foot c → h c = none) → K (some ⟨p, 0, none⟩, 0) h') : m_slots_New_int most knob K h := by
  unfold m_slots_New_int
  refine w_if (fun c => bad ?_) fun c => ?_
  · simp only [Bool.or_eq_true, decide_eq_true_eq] at c; omega
  · simp only [Bool.or_eq_false_iff, decide_eq_false_iff_not] at c
    have m2 : iMul .i64 2 most = 2 * most := iMul_eq (by omega) (by omega)
    refine w_for 9 (fun i (z : Int) h' => z = ((2 ^ i : Nat) : Int) ∧ h = h') ?_ ⟨rfl, rfl⟩
    rintro rec i z h' hi ⟨rfl, rfl⟩ more
    have hp : 0 < 2 ^ i := Nat.pow_pos (by decide)
    have hp9 : 2 ^ i ≤ 2 ^ 9 := Nat.pow_le_pow_right (by decide) hi
    rw [m2]
    refine w_if' (fun ci => ?_) fun ci => ?_
    · have ci : ((2 ^ i : Nat) : Int) < 2 * most := ci
      have h9 : i < 9 := by
        rcases Nat.lt_or_ge i 9 with q | q
        · exact q
        · obtain rfl : i = 9 := by omega
          have : ((2 ^ 9 : Nat) : Int) = 512 := rfl
          omega
      refine more _ _ h9 ⟨?_, rfl⟩
      rw [iMul_eq (by omega) (by omega), Nat.pow_succ]; omega
    · have ci : ¬ ((2 ^ i : Nat) : Int) < 2 * most := ci
      generalize 2 ^ i = n at *
      have hn : n ≤ 512 := by omega
      refine w_make pl_len .free rfl rfl rfl (by omega) (by omega) fun s h1 bu k1 f1 _ => w_new fun p fp => ?_
      have hpn : h p = none := k1.fresh fp
      refine good (by omega) (by omega) (by omega) (by omega) p s _ ⟨List.replicate n .free, 0, ⟨upd_same _ _ _, bu.keep (.new fp), by rw [List.length_replicate]; omega, TabWF.none knob n⟩, ?_, Int.le_refl _, by omega, by rw [List.length_replicate]; omega, by simp only [List.length_nil]; omega⟩ (k1.trans (.new fp)) hpn f1
      have he : ents (List.replicate n .free) = [] := by
        unfold ents
        rw [List.filterMap_eq_nil_iff]
        intro a ha
        rw [(List.mem_replicate.1 ha).2]; rfl
      rw [he]
end
theorem w_Valid {h : H} {r : Int} {k : Bool → H → Prop} (y : k (decide (1 ≤ r ∧ r ≤ 31)) h) : mPure (m_mask_Valid r) k h := by
  refine w_pure _ (fun _ _ z => ?_) y
  unfold m_mask_Valid
  rw [← Bool.decide_and]; exact z
def partOf (sub r : Int) : Bool := decide (1 ≤ sub ∧ sub ≤ 31) && (decide (1 ≤ r ∧ r ≤ 31) && decide (iAnd .i64 sub r = sub))
theorem t_Part {h : H} {sub r : Int} {K : Bool → H → Prop} (y : K (partOf sub r) h) : m_mask_Part sub r K h := by
  unfold m_mask_Part
  unfold partOf at y
  refine w_Valid (w_if (fun c => ?_) fun c => ?_)
  · rw [c, Bool.true_and] at y; exact w_Valid y
  · rw [c] at y; exact y
theorem w_Part {h : H} {sub r : Int} {k : Bool → H → Prop} (y : k (partOf sub r) h) : mPure (m_mask_Part sub r) k h := w_pure _ (fun _ _ z => t_Part z) y
theorem callV_of {P : Program} (s : Spec P) {first cap : Array Value} {args : List Value} (a : Den s.A) (e : first ++ args.toArray ++ cap = (valsD s.A a).toArray) {k : Den s.R → HP} {h : H} (hm : s.m a k h) :
    mCallV P (fun r => outV (valsD s.R r)) (.func (.func s.f) first cap) args k h := by
  obtain ⟨fn, c⟩ := s.callee
  exact .inl ⟨_, fn, first, cap, rfl, c, by rw [e]; exact s.ok a k h hm⟩
section
variable {T : Type} {cells : T → List Value} {sz by_ : Nat} {e : TypeId} {h : H}
theorem Buf.front {s : Sl} {xs : List T} (x : Buf cells sz e h s xs) {n : Nat} (hn : n ≤ xs.length) : Buf cells sz e h ⟨s.a, n, s.cap⟩ (xs.take n) := by
  have hl := x.len
  have hc := x.cap
  refine ⟨by show n = _; rw [List.length_take]; omega, by show n ≤ s.cap; omega, x.at_.imp id fun ⟨b, z, fz, ha, hb, hz, ht⟩ => ⟨b, flat cells (xs.drop n) ++ z, fz, ha, ?_, ?_, ht⟩⟩
  · rw [← List.append_assoc, ← flat_append, List.take_append_drop]; exact hb
  · rw [← List.append_assoc, ← flat_append, List.take_append_drop]; exact hz
end
section
variable {h : H}
theorem w_reverse {s : Sl} {xs : List Int} (x : Buf (cInt .i64) 1 N_int h s xs) (hn : xs.length ≤ 2 ^ 40) {K : Unit → H → Prop} (y : ∀ h', Buf (cInt .i64) 1 N_int h' s xs.reverse → But s.foot h h' → (∀ b, h' b = none → h b = none) → K () h') :
    mLoop (fun (rec : (Int × Int) → H → Prop) (z : Int × Int) => mIf (decide (z.1 < z.2)) (mIdx s z.2 1 fun a => mIdx s z.1 1 fun b => mLoad (cInt .i64) a fun u => mLoad (cInt .i64) b fun v => mIdx s z.1 1 fun c => mStore c [.int .i64 u] <| mIdx s z.2 1 fun d => mStore d [.int .i64 v] <| rec (iAdd .i64 z.1 1, iSub .i64 z.2 1)) (K ())) (0, iSub .i64 (s.len : Int) 1) h := by
  have hl := x.len
  refine w_for xs.length (fun i (z : Int × Int) h' => z = ((i : Int), (xs.length : Int) - 1 - i) ∧ 2 * i ≤ xs.length + 1 ∧ ∃ ys, Buf (cInt .i64) 1 N_int h' s ys ∧ ys.length = xs.length ∧ (∀ k, k < xs.length → ys[k]? = if k < i ∨ xs.length - i ≤ k then xs[xs.length - 1 - k]? else xs[k]?) ∧ But s.foot h h' ∧ ∀ b, h' b = none → h b = none) ?_
    ⟨by rw [iSub_eq (by omega) (by omega), hl]; simp, by omega, xs, x, rfl, fun k hk => by rw [if_neg (by omega)], .refl _ _, fun _ q => q⟩
  rintro rec i z h' hi ⟨rfl, h2, ys, bu, hy, hg, bt, dm⟩ more
  refine w_if' (fun c => ?_) fun c => ?_
  · have c : (i : Int) < (xs.length : Int) - 1 - i := c
    have hij : i < xs.length - 1 - i := by omega
    have ej : (xs.length : Int) - 1 - i = ((xs.length - 1 - i : Nat) : Int) := by omega
    show mIdx s ((xs.length : Int) - 1 - i) 1 _ h'
    rw [ej]
    obtain ⟨u, hu⟩ : ∃ u, ys[xs.length - 1 - i]? = some u := ⟨_, List.getElem?_eq_getElem (by omega)⟩
    obtain ⟨v, hv⟩ : ∃ v, ys[i]? = some v := ⟨_, List.getElem?_eq_getElem (by omega)⟩
    refine w_idx ci_len bu.arr hu rfl fun a _ ha => w_idx ci_len bu.arr hv rfl fun b _ hb => w_load ha (w_load hb ?_)
    refine w_put ci_len bu (i := i) (by omega) rfl u rfl fun h3 bu3 b3 d3 => ?_
    refine w_put ci_len bu3 (i := xs.length - 1 - i) (by rw [List.length_set]; omega) rfl v rfl fun h4 bu4 b4 d4 => ?_
    refine more _ _ (by omega) ⟨?_, by omega, _, bu4, by rw [List.length_set, List.length_set]; exact hy, fun k hk => ?_, (bt.trans b3 fun _ f => .inl f).trans b4 fun _ f => .inl f, fun b q => dm b (d3 b (d4 b q))⟩
    · show (iAdd .i64 (i : Int) 1, iSub .i64 ((xs.length - 1 - i : Nat) : Int) 1) = _
      rw [iAdd_eq (by omega) (by omega), iSub_eq (by omega) (by omega)]
      refine Prod.ext ?_ ?_ <;> dsimp only <;> omega
    · rw [List.getElem?_set, List.getElem?_set, List.length_set]
      have h1 := hg (xs.length - 1 - i) (by omega)
      have h3 := hg i (by omega)
      rw [if_neg (by omega), hu] at h1
      rw [if_neg (by omega), hv] at h3
      by_cases q1 : xs.length - 1 - i = k
      · rw [if_pos q1, if_pos (by omega), if_pos (by omega), h3]; congr 1; omega
      · rw [if_neg q1]
        by_cases q2 : i = k
        · rw [if_pos q2, if_pos (by omega), if_pos (by omega), h1]; congr 1; omega
        · rw [if_neg q2, hg k hk]
          by_cases q3 : k < i ∨ xs.length - i ≤ k
          · rw [if_pos q3, if_pos (by omega)]
          · rw [if_neg q3, if_neg (by omega)]
  · have c : ¬ (i : Int) < (xs.length : Int) - 1 - i := c
    have e : ys = xs.reverse := by
      apply List.ext_getElem?
      intro k
      rcases Nat.lt_or_ge k xs.length with q | q
      · rw [hg k q, List.getElem?_reverse q]
        split
        · rfl
        · congr 1; omega
      · rw [List.getElem?_eq_none (by omega), List.getElem?_eq_none (by rw [List.length_reverse]; exact q)]
    rw [e] at bu
    exact y h' bu bt dm
end
theorem w_clone {T : Type} {cells : T → List Value} {sz by_ : Nat} {e : TypeId} (hs : ∀ x, (cells x).length = sz) (hp : ∀ x, (cells x).all plainVal = true) {zero : Array Value} (hz : zero.size = sz) {h : H} {s : Sl} {xs : List T} (x : Arr cells h s xs) (room : xs.length * by_ ≤ 2 ^ 48) {k : Sl → H → Prop}
    (y : ∀ s' h', Buf cells sz e h' s' xs → Keeps h h' → (∀ b, s'.foot b → h b = none) → k s' h') :
    mIf (s.a.isNone) (k Sl.nil) (mNew e #[] fun ad => mAppend e sz by_ zero (⟨some ad, 0, 0⟩ : Sl) s fun s2 => k s2) h := by
  refine w_if (fun c => ?_) fun c => w_new fun b hb => ?_
  · have hx : xs = [] := by
      rcases List.eq_nil_or_concat xs with q | ⟨r, a, q⟩
      · exact q
      · obtain ⟨a', ha, _⟩ := x.at_ (by rw [q]; simp)
        rw [ha] at c; cases c
    subst hx
    exact y _ _ Buf.nil (.refl _) fun b ⟨a, ha, _⟩ => by cases ha
  · have bu : Buf cells sz e (upd h b (.cells #[] e (0, 0))) ⟨some ⟨b, 0, none⟩, 0, 0⟩ ([] : List T) := ⟨rfl, Nat.le_refl _, .inr ⟨b, [], (0, 0), rfl, upd_same _ _ _, by simp [flat], thawed0 _⟩⟩
    refine w_append hs hp hz bu (x.keep (.new hb)) (.inr ⟨rfl, room⟩) fun s' h' bu' b' f' n' => ?_
    rw [List.nil_append] at bu'
    have foot : ∀ c, (⟨some ⟨b, 0, none⟩, 0, 0⟩ : Sl).foot c → h c = none := fun c ⟨a, ha, hc⟩ => by
      cases ha; subst hc; exact hb
    refine y s' h' bu' (Keeps.but (.new hb) b' foot) fun c fc => ?_
    rcases f' c fc with q | q
    · exact foot c q
    · exact (upd_none.1 q).2
structure KChg (F F' : Nat → Prop) (h h' : H) : Prop where
  but : But F h h'
  foot : ∀ c, F' c → F c ∨ h c = none
  dom : ∀ c, h' c = none → h c = none
theorem KChg.refl (F : Nat → Prop) (h : H) : KChg F F h h := ⟨.refl _ _, fun _ f => .inl f, fun _ e => e⟩
theorem KChg.trans {F1 F2 F3 : Nat → Prop} {h1 h2 h3 : H} (x : KChg F1 F2 h1 h2) (y : KChg F2 F3 h2 h3) : KChg F1 F3 h1 h3 :=
  ⟨x.but.trans y.but fun n f => x.foot n f, fun c f => (y.foot c f).elim (x.foot c) fun e => .inr (x.dom c e), fun c e => x.dom c (y.dom c e)⟩
section
variable {h : H}
theorem w_box {t : TypeId} {c : Array Value} {k : Addr → H → Prop} (y : ∀ b h', h b = none → h' b = some (.cells c t (0, 0)) → Keeps h h' → k ⟨b, 0, none⟩ h') : mNew t c k h := w_new fun b hb => y b _ hb (upd_same _ _ _) (.new hb)
theorem w_setBox {b : Nat} {old new : List Value} {t : TypeId} {k : H → Prop} (e : h b = some (.cells old.toArray t (0, 0))) (hn : new.length = old.length) (y : ∀ h', h' b = some (.cells new.toArray t (0, 0)) → But (· = b) h h' → (∀ c, h' c = none → h c = none) → k h') : mStore ⟨b, 0, none⟩ new k h :=
  w_store (l1 := []) (l2 := old) (l3 := []) rfl (by rw [List.nil_append, List.append_nil]; exact e) rfl hn (by rw [List.nil_append, List.append_nil]; exact y _ (upd_same _ _ _) (.upd rfl) fun c q => (upd_none.1 q).2)
theorem at_box {b : Nat} {cs : List Value} {t : TypeId} {fz : Nat × Nat} (e : h b = some (.cells cs.toArray t fz)) : At h ⟨b, 0, none⟩ cs := At.own (l1 := []) (l3 := []) (by rw [List.nil_append, List.append_nil]; exact e) rfl
theorem Buf.one {T : Type} {cells : T → List Value} {sz : Nat} {e : TypeId} (hs : ∀ x, (cells x).length = sz) {b : Nat} {x : T} (q : h b = some (.cells (cells x).toArray e (0, 0))) : Buf cells sz e h ⟨some ⟨b, 0, none⟩, 1, 1⟩ [x] := by
  have e1 : flat cells [x] ++ [] = cells x := by simp [flat]
  exact ⟨rfl, Nat.le_refl _, .inr ⟨b, [], (0, 0), rfl, by rw [e1]; exact q, by rw [e1, hs]; simp, thawed0 _⟩⟩
end
theorem partOf_r {r u : Int} (h : partOf r u = true) : 1 ≤ r ∧ r ≤ 31 := by
  unfold partOf at h
  rw [Bool.and_eq_true] at h
  exact of_decide_eq_true h.1
end Go.Proofs.YtdleanjofhghnaaDoor.K
namespace Go.Proofs.YtdleanjofhghnaaDoor.K
open Go Go.Proofs
def m_slices_Clone_int_int (a0 : Sl) (K : (Sl) → H → Prop) : H → Prop :=
 mIf (a0.a.isNone) (
 K Sl.nil
 ) (
 mNew 3 #[] fun ad1 =>
 mAppend 3 1 8 #[(Value.int .i64 0)] (⟨some ad1, 0, 0⟩ : Sl) a0 fun s2 =>
 K s2
 )
def x_slices_Clone_int_int : Cx Tryd.prog := ⟨tys, [], [], [], mixed⟩
def h_slices_Clone_int_int : Hint := .d
def s_slices_Clone_int_int : Spec Tryd.prog := mkSpec x_slices_Clone_int_int 71 Tryd.f71 [tSl] [tSl] false h_slices_Clone_int_int (fun a => m_slices_Clone_int_int a) (fun a K h => by kernel_rfl) callee71 rfl
def m_slices_Reverse_int_int (a0 : Sl) (K : (Unit) → H → Prop) : H → Prop :=
 mLoop (fun (rec2 : (Int × Int) → H → Prop) (s1 : Int × Int) =>
 mIf (decide (s1.1 < s1.2)) (
 mIdx a0 s1.2 1 fun ad3 =>
 mIdx a0 s1.1 1 fun ad4 =>
 mLoad (cInt .i64) ad3 fun x5 =>
 mLoad (cInt .i64) ad4 fun x6 =>
 mIdx a0 s1.1 1 fun ad7 =>
 mStore ad7 [(Value.int .i64 x5)] <|
 mIdx a0 s1.2 1 fun ad8 =>
 mStore ad8 [(Value.int .i64 x6)] <|
 rec2 ((iAdd .i64 s1.1 1), (iSub .i64 s1.2 1))
 ) (
 K ()
 )
 ) (0, (iSub .i64 (a0.len : Int) 1))
def x_slices_Reverse_int_int : Cx Tryd.prog := ⟨tys, [], [], [], mixed⟩
def h_slices_Reverse_int_int : Hint := (.seq .d (.blk (.loop [.slot 2 (tInt .i64), .slot 3 (tInt .i64)] 268435340 [] (.seq .d (.seq (.blk (.reg (.run [0, 4, 8, 12, 16, 20, 24, 32, 36, 40, 30, 46, 48, 55, 56, 63] .nil))) .d)))))
def s_slices_Reverse_int_int : Spec Tryd.prog := mkSpec x_slices_Reverse_int_int 63 Tryd.f63 [tSl] [] false h_slices_Reverse_int_int (fun a => m_slices_Reverse_int_int a) (fun a K h => by kernel_rfl) callee63 rfl
def m_kin_New (a0 : Int) (K : (Option Addr × Int) → H → Prop) : H → Prop :=
 mIf ((decide (a0 < 0)) || (decide (1024 < a0))) (
 K (none, 16)
 ) (
 mMake 182 40 #[(Value.bool false), (Value.int .i64 0), (Sl.val Sl.nil)] a0 a0 fun s1 =>
 mNew 138 #[(Sl.val s1)] fun ad2 =>
 K ((some ad2), 0)
 )
def x_kin_New : Cx Tryd.prog := ⟨tys, [], [], [], mixed⟩
def h_kin_New : Hint := (.seq .d (.seq (.seq (.reg (.run [3, 7, 11] (.sel 6 9 896 (.run [15, 19, 23] .nil) (.run [15, 19, 23] .nil) .nil))) .d) .d))
def s_kin_New : Spec Tryd.prog := mkSpec x_kin_New 30 Tryd.f30 [(tInt .i64)] [tPtr, (tInt .i64)] false h_kin_New (fun a => m_kin_New a) (fun a K h => by kernel_rfl) callee30 rfl
def m_kin_Tree_number (a0 : Option Addr) (a1 : Int) (K : (Bool) → H → Prop) : H → Prop :=
 mIf (decide (0 ≤ a1)) (
 mDeref a0 fun ad3 =>
 mLoad cSl (ad3.add 0) fun x4 =>
 K (decide (a1 < (x4.len : Int)))
 ) (
 K false
 )
def x_kin_Tree_number : Cx Tryd.prog := ⟨tys, [], [], [], mixed⟩
def h_kin_Tree_number : Hint := (.seq .d (.seq (.reg (.run [3, 7, 11] (.split 7 (.run [15, 19, 23, 27, 31, 35, 39, 43, 47] .nil) (.run [15, 19, 23, 27, 31, 35, 39, 43, 47] .nil)))) .d))
def s_kin_Tree_number : Spec Tryd.prog := mkSpec x_kin_Tree_number 67 Tryd.f67 [tPtr, (tInt .i64)] [tBool] false h_kin_Tree_number (fun a => m_kin_Tree_number a.1 a.2) (fun a K h => by kernel_rfl) callee67 rfl
def m_kin_Tree_Has (a0 : Option Addr) (a1 : Int) (K : (Bool) → H → Prop) : H → Prop :=
 m_kin_Tree_number a0 a1 fun r1 =>
 mIf r1 (
 mDeref a0 fun ad6 =>
 mLoad cSl (ad6.add 0) fun x7 =>
 mIdx x7 a1 3 fun ad8 =>
 mLoad cBool (ad8.add 0) fun x9 =>
 K x9
 ) (
 K false
 )
def x_kin_Tree_Has : Cx Tryd.prog := ⟨tys, [s_kin_Tree_number], [], [], mixed⟩
def h_kin_Tree_Has : Hint := (.seq .d (.seq (.reg (.run [3, 7, 11, 15] (.split 8 (.run [19, 23, 27, 31, 35, 39, 43, 47, 51, 55] .nil) (.run [19, 23, 27, 31, 35, 39, 43, 47, 51, 55] .nil)))) .d))
def s_kin_Tree_Has : Spec Tryd.prog := mkSpec x_kin_Tree_Has 61 Tryd.f61 [tPtr, (tInt .i64)] [tBool] false h_kin_Tree_Has (fun a => m_kin_Tree_Has a.1 a.2) (fun a K h => by kernel_rfl) callee61 rfl
def m_kin_Tree_at (a0 : Option Addr) (a1 : Int) (K : (Option Addr) → H → Prop) : H → Prop :=
 mDeref a0 fun ad1 =>
 mLoad cSl (ad1.add 0) fun x2 =>
 mIdx x2 a1 3 fun ad3 =>
 K (some ad3)
def x_kin_Tree_at : Cx Tryd.prog := ⟨tys, [], [], [], mixed⟩
def h_kin_Tree_at : Hint := .d
def s_kin_Tree_at : Spec Tryd.prog := mkSpec x_kin_Tree_at 72 Tryd.f72 [tPtr, (tInt .i64)] [tPtr] false h_kin_Tree_at (fun a => m_kin_Tree_at a.1 a.2) (fun a K h => by kernel_rfl) callee72 rfl
def m_kin_Tree_add (a0 : Option Addr) (a1 : Int) (a2 : Int) (K : (Int) → H → Prop) : H → Prop :=
 m_kin_Tree_Has a0 a1 fun r1 =>
 mIf r1 (
 K 19
 ) (
 mCallV (T := Option Addr) Tryd.prog (fun r => (Value.pointer r)) (⟨Value.func (.func 72) #[(Value.pointer a0)] #[], rfl, rfl⟩ : PV).1 [(Value.int .i64 a1)] fun r2 =>
 mDeref r2 fun ad3 =>
 mStore ad3 [(Value.bool true), (Value.int .i64 a2), (Sl.val Sl.nil)] <|
 mIf (decide (0 ≤ a2)) (
 mCallV (T := Option Addr) Tryd.prog (fun r => (Value.pointer r)) (⟨Value.func (.func 72) #[(Value.pointer a0)] #[], rfl, rfl⟩ : PV).1 [(Value.int .i64 a2)] fun r4 =>
 mDeref r4 fun ad5 =>
 mLoad cSl (ad5.add 2) fun x6 =>
 mApp 3 1 8 #[(Value.int .i64 0)] 1 [(Value.int .i64 a1)] x6 fun s7 =>
 mDeref r4 fun ad8 =>
 mStore (ad8.add 2) [(Sl.val s7)] <|
 K 0
 ) (
 K 0
 )
 )
def x_kin_Tree_add : Cx Tryd.prog := ⟨tys, [s_kin_Tree_Has], [31], [], mixed⟩
def h_kin_Tree_add : Hint := .d
def s_kin_Tree_add : Spec Tryd.prog := mkSpec x_kin_Tree_add 68 Tryd.f68 [tPtr, (tInt .i64), (tInt .i64)] [(tInt .i64)] false h_kin_Tree_add (fun a => m_kin_Tree_add a.1 a.2.1 a.2.2) (fun a K h => by kernel_rfl) callee68 rfl
def m_kin_Tree_Root (a0 : Option Addr) (a1 : Int) (K : (Int) → H → Prop) : H → Prop :=
 m_kin_Tree_number a0 a1 fun r1 =>
 mIf (!r1) (
 K 20
 ) (
 m_kin_Tree_add a0 a1 (-1) fun r2 =>
 K r2
 )
def x_kin_Tree_Root : Cx Tryd.prog := ⟨tys, [s_kin_Tree_number, s_kin_Tree_add], [], [], mixed⟩
def h_kin_Tree_Root : Hint := .d
def s_kin_Tree_Root : Spec Tryd.prog := mkSpec x_kin_Tree_Root 54 Tryd.f54 [tPtr, (tInt .i64)] [(tInt .i64)] false h_kin_Tree_Root (fun a => m_kin_Tree_Root a.1 a.2) (fun a K h => by kernel_rfl) callee54 rfl
def m_kin_Tree_Child (a0 : Option Addr) (a1 : Int) (a2 : Int) (K : (Int) → H → Prop) : H → Prop :=
 m_kin_Tree_number a0 a2 fun r1 =>
 mJoin (fun (s3 : Bool) =>
 mIf s3 (
 K 20
 ) (
 m_kin_Tree_add a0 a2 a1 fun r5 =>
 K r5
 )
 ) (fun j4 =>
 mIf (!r1) (
 j4 true
 ) (
 m_kin_Tree_Has a0 a1 fun r6 =>
 j4 (!r6)
 ))
def x_kin_Tree_Child : Cx Tryd.prog := ⟨tys, [s_kin_Tree_Has, s_kin_Tree_number, s_kin_Tree_add], [], [], mixed⟩
def h_kin_Tree_Child : Hint := (.seq .d (.seq (.seq (.reg (.run [3, 7, 11, 15, 19] (.join [.slot 16 tBool] 126976 [] (.split 11 (.run [23, 27, 31, 35, 39] .nil) (.run [23, 27, 31, 35, 39] .nil)) .nil))) .d) .d))
def s_kin_Tree_Child : Spec Tryd.prog := mkSpec x_kin_Tree_Child 59 Tryd.f59 [tPtr, (tInt .i64), (tInt .i64)] [(tInt .i64)] false h_kin_Tree_Child (fun a => m_kin_Tree_Child a.1 a.2.1 a.2.2) (fun a K h => by kernel_rfl) callee59 rfl
def m_kin_Tree_Children (a0 : Option Addr) (a1 : Int) (K : (Sl) → H → Prop) : H → Prop :=
 m_kin_Tree_Has a0 a1 fun r1 =>
 mIf (!r1) (
 K Sl.nil
 ) (
 m_kin_Tree_at a0 a1 fun r2 =>
 mDeref r2 fun ad3 =>
 mLoad cSl (ad3.add 2) fun x4 =>
 m_slices_Clone_int_int x4 fun r5 =>
 K r5
 )
def x_kin_Tree_Children : Cx Tryd.prog := ⟨tys, [s_kin_Tree_Has, s_slices_Clone_int_int, s_kin_Tree_at], [], [], mixed⟩
def h_kin_Tree_Children : Hint := .d
def s_kin_Tree_Children : Spec Tryd.prog := mkSpec x_kin_Tree_Children 62 Tryd.f62 [tPtr, (tInt .i64)] [tSl] false h_kin_Tree_Children (fun a => m_kin_Tree_Children a.1 a.2) (fun a K h => by kernel_rfl) callee62 rfl
def m_walk_told_1 (a0 : PV) (a1 : Addr) (K : (Unit) → H → Prop) : H → Prop :=
 mLoad cPV a1 fun x1 =>
 mCallV (T := Sl) Tryd.prog (fun r => (Sl.val r)) x1.1 [] fun r2 =>
 mLoop (fun (rec4 : Int → H → Prop) (s3 : Int) =>
 mIf (decide (s3 < (r2.len : Int))) (
 mIdx r2 s3 1 fun ad5 =>
 mLoad (cInt .i64) ad5 fun x6 =>
 mCallV (T := Bool) Tryd.prog (fun r => (Value.bool r)) a0.1 [(Value.int .i64 x6)] fun r7 =>
 mIf (!r7) (
 K ()
 ) (
 rec4 (iAdd .i64 s3 1)
 )
 ) (
 K ()
 )
 ) 0
def x_walk_told_1 : Cx Tryd.prog := ⟨tys, [], [], [], mixed⟩
def h_walk_told_1 : Hint := (.seq .d (.blk (.loop [.slot 8 (tInt .i64)] 130832 [] .d)))
def s_walk_told_1 : Spec Tryd.prog := mkSpec x_walk_told_1 60 Tryd.f60 [tPV, tAdr] [] false h_walk_told_1 (fun a => m_walk_told_1 a.1 a.2) (fun a K h => by kernel_rfl) callee60 rfl
def m_walk_told (a0 : PV) (K : (PV) → H → Prop) : H → Prop :=
 mNew 131 #[a0.1] fun ad1 =>
 K (⟨Value.func (.func 60) #[] #[(Value.pointer (some ad1))], rfl, rfl⟩ : PV)
def x_walk_told : Cx Tryd.prog := ⟨tys, [], [], [], mixed⟩
def h_walk_told : Hint := .d
def s_walk_told : Spec Tryd.prog := mkSpec x_walk_told 44 Tryd.f44 [tPV] [tPV] false h_walk_told (fun a => m_walk_told a) (fun a K h => by kernel_rfl) callee44 rfl
def m_walk_down (a0 : Option Addr) (a1 : Int) (a2 : Bool) (K : (Sl) → H → Prop) : H → Prop :=
 m_kin_Tree_Has a0 a1 fun r1 =>
 mIf (!r1) (
 K Sl.nil
 ) (
 mNew 3 #[(Value.int .i64 a1)] fun ad2 =>
 mLoop (fun (rec4 : (Sl × Sl) → H → Prop) (s3 : Sl × Sl) =>
 mIf (decide (0 < (s3.2.len : Int))) (
 mIdx s3.2 (iSub .i64 (s3.2.len : Int) 1) 1 fun ad5 =>
 mLoad (cInt .i64) ad5 fun x6 =>
 mCut s3.2 0 (iSub .i64 (s3.2.len : Int) 1) 1 fun s7 =>
 mApp 3 1 8 #[(Value.int .i64 0)] 1 [(Value.int .i64 x6)] s3.1 fun s8 =>
 m_kin_Tree_Children a0 x6 fun r9 =>
 mJoin (fun (_s10 : Unit) =>
 mAppend 3 1 8 #[(Value.int .i64 0)] s7 r9 fun s12 =>
 rec4 (s8, s12)
 ) (fun j11 =>
 mIf (!a2) (
 m_slices_Reverse_int_int r9 fun _ =>
 j11 ()
 ) (
 j11 ()
 )
 )
 ) (
 K s3.1
 )
 ) (Sl.nil, (⟨some ad2, 1, 1⟩ : Sl))
 )
def x_walk_down : Cx Tryd.prog := ⟨tys, [s_kin_Tree_Has, s_kin_Tree_Children, s_slices_Reverse_int_int], [33], [], mixed⟩
def h_walk_down : Hint := (.seq .d (.seq .d (.seq .d (.seq .d (.seq (.blk (.loop [.slot 7 tSl, .slot 8 tSl] 35184371830656 [] (.seq .d (.blk (.seq .d (.seq .d (.seq .d (.seq .d (.seq .d (.join [] 4123168604160 [] .d .d)))))))))) .d)))))
def s_walk_down : Spec Tryd.prog := mkSpec x_walk_down 46 Tryd.f46 [tPtr, (tInt .i64), tBool] [tSl] false h_walk_down (fun a => m_walk_down a.1 a.2.1 a.2.2) (fun a K h => by kernel_rfl) callee46 rfl
def m_walk_Down_1 (a0 : Addr) (a1 : Addr) (K : (Sl) → H → Prop) : H → Prop :=
 mLoad cPtr a0 fun x1 =>
 mLoad (cInt .i64) a1 fun x2 =>
 m_walk_down x1 x2 false fun r3 =>
 K r3
def x_walk_Down_1 : Cx Tryd.prog := ⟨tys, [s_walk_down], [], [], mixed⟩
def h_walk_Down_1 : Hint := .d
def s_walk_Down_1 : Spec Tryd.prog := mkSpec x_walk_Down_1 45 Tryd.f45 [tAdr, tAdr] [tSl] false h_walk_Down_1 (fun a => m_walk_Down_1 a.1 a.2) (fun a K h => by kernel_rfl) callee45 rfl
def m_walk_Down (a0 : Option Addr) (a1 : Int) (K : (PV) → H → Prop) : H → Prop :=
 mNew 89 #[(Value.pointer a0)] fun ad1 =>
 mNew 3 #[(Value.int .i64 a1)] fun ad2 =>
 m_walk_told (⟨Value.func (.func 45) #[] #[(Value.pointer (some ad1)), (Value.pointer (some ad2))], rfl, rfl⟩ : PV) fun r3 =>
 K r3
def x_walk_Down : Cx Tryd.prog := ⟨tys, [s_walk_told], [], [], mixed⟩
def h_walk_Down : Hint := .d
def s_walk_Down : Spec Tryd.prog := mkSpec x_walk_Down 26 Tryd.f26 [tPtr, (tInt .i64)] [tPV] false h_walk_Down (fun a => m_walk_Down a.1 a.2) (fun a K h => by kernel_rfl) callee26 rfl
end Go.Proofs.YtdleanjofhghnaaDoor.K
