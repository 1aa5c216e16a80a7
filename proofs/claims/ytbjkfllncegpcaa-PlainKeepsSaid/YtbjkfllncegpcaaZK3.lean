/- plainKeeps: true at every input, the arguments as they were: no condition. Part 3 of 6. -/
import Derived.Test.YtbjkfllncegpcaaZK2
namespace Go.Proofs.Ytbjkfllncegpcaa.K
open Go
section
variable {h : H}
theorem w_for {σ : Type} {F : (σ → H → Prop) → σ → H → Prop} (n : Nat) (I : Nat → σ → H → Prop)
    (step : ∀ (rec : σ → H → Prop) (j : Nat) (s : σ) (h : H), j ≤ n → I j s h → (∀ s' h', j < n → I (j + 1) s' h' → rec s' h') → F rec s h) {s : σ} (i : I 0 s h) : mLoop F s h := by
  suffices ∀ (m : Nat) (j : Nat) (s : σ) (h : H), j ≤ n → n - j ≤ m → I j s h → ∃ N, loopF F N s h from this n 0 s h (Nat.zero_le _) (Nat.sub_le _ _) i
  intro m
  induction m with
  | zero =>
    intro j s h hj hm i
    exact ⟨1, step _ j s h hj i fun s' h' q => by omega⟩
  | succ m ih =>
    intro j s h hj hm i
    have key : ∀ (N : Nat) (F' : σ → H → Prop), True := fun _ _ => trivial
    have all : ∀ (M : Nat) (j : Nat) (s : σ) (h : H), j ≤ n → n - j < M → I j s h → loopF F M s h := by
      intro M
      induction M with
      | zero => intro j s h _ q; omega
      | succ M ihM => exact fun j s h hj q i => step _ j s h hj i fun s' h' lt i' => ihM (j + 1) s' h' lt (by omega) i'
    exact ⟨n - j + 1, all _ j s h hj (Nat.lt_succ_self _) i⟩
theorem w_get {T T' : Type} {cells : T → List Value} {cells' : T' → List Value} {sz : Nat} (hs : ∀ x, (cells x).length = sz) {s : Sl} {xs : List T} (x : Arr cells h s xs) {i : Nat} {v : T} (e : xs[i]? = some v) {j : Int} (hj : j = i) {v' : T'} (hv : cells' v' = cells v) {k : T' → H → Prop}
    (y : k v' h) : mIdx s j sz (fun a => mLoad cells' a k) h := by
  refine w_idx hs x e hj fun a _ ha => w_load (v := v') ?_ y
  rw [hv]; exact ha
theorem w_put {T : Type} {cells : T → List Value} {sz : Nat} {e : TypeId} (hs : ∀ x, (cells x).length = sz) {s : Sl} {xs : List T} (x : Buf cells sz e h s xs) {i : Nat} (hi : i < xs.length) {j : Int} (hj : j = i) (v' : T) {new : List Value} (hv : cells v' = new) {k : H → Prop}
    (y : ∀ h', Buf cells sz e h' s (xs.set i v') → But s.foot h h' → (∀ b, h' b = none → h b = none) → k h') : mIdx s j sz (fun a => mStore a new k) h := by
  refine w_idx hs x.arr (List.getElem?_eq_getElem hi) hj fun a ha _ => ?_
  refine w_set hs x (v' := v') (List.getElem?_eq_getElem hi) ha (c1 := []) (c2 := cells xs[i]) (c3 := []) (new := new) (by simp) (by simp [hv]) (by rw [← hv, hs, hs]) (add_zero a).symm y
theorem flat_rep {T : Type} {cells : T → List Value} {sz : Nat} (hs : ∀ x, (cells x).length = sz) (z : T) : ∀ (n i : Nat), (flat cells (List.replicate n z))[i]? = if i < n * sz then (cells z)[i % sz]? else none := by
  intro n
  induction n with
  | zero => intro i; simp [flat]
  | succ n ih =>
    intro i
    rw [List.replicate_succ, flat_cons, List.getElem?_append, hs]
    split
    · rename_i hi
      have : sz ≤ (n + 1) * sz := Nat.le_mul_of_pos_left _ (Nat.succ_pos n)
      rw [if_pos (by omega), Nat.mod_eq_of_lt hi]
    · rename_i hi
      rw [ih, Nat.succ_mul]
      have e : (i - sz) % sz = i % sz := by
        conv => rhs; rw [show i = i - sz + sz by omega, Nat.add_mod_right]
      rw [e]
      by_cases c : i < n * sz + sz
      · rw [if_pos c, if_pos (by omega)]
      · rw [if_neg c, if_neg (by omega)]
theorem zero_flat {T : Type} {cells : T → List Value} {sz : Nat} (hs : ∀ x, (cells x).length = sz) (z : T) {zero : Array Value} (hz : zero = (cells z).toArray) (n : Nat) : (Builtin.zeroCells zero n).toList = flat cells (List.replicate n z) := by
  subst hz
  apply List.ext_getElem?
  intro i
  rw [flat_rep hs]
  unfold Builtin.zeroCells
  rw [Array.getElem?_toList, Array.getElem?_map, Array.getElem?_range]
  have hsz : (cells z).toArray.size = sz := by rw [List.size_toArray, hs]
  rw [hsz]
  split
  · rename_i hi
    rw [Option.map_some]
    have hpos : 0 < sz := by
      rcases Nat.eq_zero_or_pos sz with q | q
      · rw [q, Nat.mul_zero] at hi; omega
      · exact q
    have hlt : i % sz < (cells z).length := by rw [hs]; exact Nat.mod_lt _ hpos
    rw [List.getElem?_eq_getElem hlt]
    simp [hlt]
  · rfl
theorem w_make {T : Type} {cells : T → List Value} {sz by_ : Nat} {e : TypeId} (hs : ∀ x, (cells x).length = sz) (z : T) {zero : Array Value} (hz : zero = (cells z).toArray) {n : Nat} {i j : Int} (hi : i = n) (hj : j = n) (hn : n ≤ 9223372036854775807) (hb : by_ * n ≤ 2 ^ 48) {k : Sl → H → Prop}
    (y : ∀ s h', Buf cells sz e h' s (List.replicate n z) → Keeps h h' → (∀ b, s.foot b → h b = none) → s.cap = n → k s h') : mMake e by_ zero i j k h := by
  subst hi; subst hj
  refine ⟨by omega, by omega, by omega, by exact_mod_cast hb, fun b hb => ?_⟩
  rw [Int.toNat_natCast]
  refine y _ _ ⟨by simp, Nat.le_refl _, .inr ⟨b, [], (0, 0), rfl, ?_, ?_, thawed0 _⟩⟩ (.new hb) (fun c ⟨a, ha, hc⟩ => by cases ha; subst hc; exact hb) rfl
  · rw [upd_same, List.append_nil, ← zero_flat hs z hz]
  · rw [List.append_nil, flat_len hs, List.length_replicate]
theorem w_joinV {σ : Type} {rest : σ → H → Prop} {body : (σ → H → Prop) → H → Prop} (v : σ) (hb : ∀ j : σ → H → Prop, j v h → body j h) (hr : rest v h) : mJoin rest body h := hb rest hr
theorem w_both {A B : H → Prop} (x : A h) (y : B h) : mBoth A B h := ⟨x, y⟩
def cU8 (b : UInt8) : List Value := [.int .u8 b.toNat]
theorem u8_len : ∀ b, (cU8 b).length = 1 := fun _ => rfl
theorem u8_plain : ∀ b, (cU8 b).all plainVal = true := fun _ => rfl
end
section
variable {K V : Type}
structure MapOf (kc : K → Value) (vc : V → Value) (h : H) (b : Nat) (l : List (K × V)) : Prop where
  ex : ∃ es cl, h b = some (.map es cl) ∧ es.toList.map (fun e => (e.key, e.val)) = l.map (fun p => (kc p.1, vc p.2)) ∧ (es.toList.map (·.born)).Nodup ∧ ∀ c ∈ es.toList.map (·.born), c < cl
theorem MapOf.keep {kc : K → Value} {vc : V → Value} {h h' : H} {b : Nat} {l : List (K × V)} (x : MapOf kc vc h b l) (k : Keeps h h') : MapOf kc vc h' b l := by
  obtain ⟨es, cl, e, r⟩ := x.ex
  exact ⟨es, cl, k _ _ e, r⟩
theorem MapOf.but {kc : K → Value} {vc : V → Value} {h h' : H} {b : Nat} {l : List (K × V)} {F : Nat → Prop} (x : MapOf kc vc h b l) (k : But F h h') (f : ¬ F b) : MapOf kc vc h' b l := by
  obtain ⟨es, cl, e, r⟩ := x.ex
  exact ⟨es, cl, k _ _ e f, r⟩
theorem w_makeMap {h : H} {kk : Option Nat → H → Prop} (kc : K → Value) (vc : V → Value) (y : ∀ b h', h b = none → MapOf kc vc h' b [] → Keeps h h' → kk (some b) h') : mMakeMap kk h := fun b hb =>
  y b _ hb ⟨#[], 0, upd_same _ _ _, rfl, List.nodup_nil, fun e he => by simp at he⟩ (.new hb)
variable [DecidableEq K]
def aidx : List (K × V) → K → Option (Nat × V)
  | [], _ => none
  | (a, v) :: r, k => if k = a then some (0, v) else (aidx r k).map fun p => (p.1 + 1, p.2)
def alook (l : List (K × V)) (k : K) : Option V := (aidx l k).map (·.2)
def aset (l : List (K × V)) (k : K) (v : V) : List (K × V) := match aidx l k with
  | none => l ++ [(k, v)]
  | some (i, _) => l.set i (k, v)
def adel (l : List (K × V)) (k : K) : List (K × V) := match aidx l k with
  | none => l
  | some (i, _) => l.eraseIdx i
theorem set_same {T : Type} {l : List T} {i : Nat} {x : T} (h : l[i]? = some x) : l.set i x = l := by
  apply List.ext_getElem?
  intro j
  rw [List.getElem?_set]
  by_cases q : i = j
  · subst q
    rw [if_pos rfl, h, if_pos (lt_of_get h)]
  · rw [if_neg q]
theorem aidx_some {k : K} {v : V} : ∀ {l : List (K × V)} {i : Nat}, aidx l k = some (i, v) → l[i]? = some (k, v) := by
  intro l
  induction l with
  | nil => intro i h; cases h
  | cons p r ih =>
    obtain ⟨a, w⟩ := p
    intro i h
    unfold aidx at h
    by_cases e : k = a
    · rw [if_pos e] at h; cases h; subst e; rfl
    · rw [if_neg e] at h
      cases hr : aidx r k with
      | none => rw [hr] at h; cases h
      | some q => rw [hr] at h; cases h; exact ih hr
def KeyEq (eq : Value → Value → Option Bool) (kc : K → Value) : Prop := ∀ a b, eq (kc a) (kc b) = some (decide (a = b))
variable {kc : K → Value} {vc : V → Value} {eq : Value → Value → Option Bool} {h : H} {b : Nat} {l : List (K × V)}
theorem ents_find (he : KeyEq eq kc) (k : K) : ∀ (es : List MapEntry) (l : List (K × V)) (i : Nat), es.map (fun e => (e.key, e.val)) = l.map (fun p => (kc p.1, vc p.2)) → findR eq (kc k) es i = (aidx l k).map fun p => (i + p.1, vc p.2) := by
  intro es
  induction es with
  | nil =>
    intro l i h
    cases l with
    | nil => rfl
    | cons => cases h
  | cons e r ih =>
    intro l i h
    cases l with
    | nil => cases h
    | cons p q =>
      obtain ⟨a, v⟩ := p
      rw [List.map_cons, List.map_cons] at h
      injection h with h1 h2
      have h3 : e.key = kc a := (Prod.mk.inj h1).1
      have h4 : e.val = vc v := (Prod.mk.inj h1).2
      unfold findR aidx
      rw [h3, he k a]
      by_cases e : k = a
      · rw [decide_eq_true e, if_pos e, h4]; rfl
      · rw [decide_eq_false e, if_neg e]
        simp only
        rw [ih q (i + 1) h2]
        cases aidx q k with
        | none => rfl
        | some z => simp only [Option.map_some]; congr 2; omega
theorem ents_keys (he : KeyEq eq kc) (k : K) {es : Array MapEntry} {l : List (K × V)} (h : es.toList.map (fun e => (e.key, e.val)) = l.map (fun p => (kc p.1, vc p.2))) : Keys eq (kc k) es := fun e hm => by
  have : (e.key, e.val) ∈ es.toList.map (fun e => (e.key, e.val)) := List.mem_map_of_mem hm
  rw [h] at this
  obtain ⟨p, _, hp⟩ := List.mem_map.1 this
  have : kc p.1 = e.key := (Prod.mk.inj hp).1
  exact ⟨_, by rw [← this]; exact he k p.1⟩
theorem w_lookup (he : KeyEq eq kc) (x : MapOf kc vc h b l) {z : V} {k : K} {kk : V × Bool → H → Prop} (y : kk ((alook l k).getD z, (alook l k).isSome) h) : mLookup eq vc z (some b) (kc k) kk h := by
  obtain ⟨es, cl, e, hm, _⟩ := x.ex
  refine ⟨es, cl, e, ents_keys he k hm, ?_⟩
  rw [ents_find he k es.toList l 0 hm]
  unfold alook at y
  cases ha : aidx l k with
  | none => rw [ha] at y; exact y
  | some p => rw [ha] at y; exact ⟨p.2, rfl, y⟩
theorem w_mapSet (he : KeyEq eq kc) (x : MapOf kc vc h b l) {k : K} {v : V} {key val : Value} (hk : key = kc k) (hv : val = vc v) {kk : H → Prop} (y : ∀ h', MapOf kc vc h' b (aset l k v) → But (· = b) h h' → (∀ c, h' c = none → h c = none) → kk h') : mMapSet eq (some b) key val kk h := by
  subst hk; subst hv
  obtain ⟨es, cl, e, hm, hp, hb⟩ := x.ex
  refine ⟨b, es, cl, rfl, e, ents_keys he k hm, ?_⟩
  have hf := ents_find he k es.toList l 0 hm
  have hlen : es.toList.length = l.length := by have := congrArg List.length hm; simpa using this
  cases ha : aidx l k with
  | none =>
    rw [ha] at hf
    have hf : findR eq (kc k) es.toList 0 = none := hf
    rw [hf]
    refine y _ ⟨_, _, upd_same _ _ _, ?_, ?_, ?_⟩ (But.upd rfl) fun c hc => (upd_none.1 hc).2
    · unfold aset; rw [ha]
      simp only [Array.toList_push, List.map_append, hm, List.map_cons, List.map_nil]
    · rw [Array.toList_push, List.map_append, List.nodup_append]
      refine ⟨hp, by simp, fun a ha c hc => ?_⟩
      simp only [List.map_cons, List.map_nil, List.mem_singleton] at hc
      subst hc
      have := hb a ha
      omega
    · intro a ha
      rw [Array.toList_push, List.map_append, List.mem_append] at ha
      rcases ha with q | q
      · have := hb a q; omega
      · simp only [List.map_cons, List.map_nil, List.mem_singleton] at q
        omega
  | some p =>
    obtain ⟨i, w⟩ := p
    rw [ha] at hf
    have hf : findR eq (kc k) es.toList 0 = some (0 + i, vc w) := hf
    rw [Nat.zero_add] at hf
    rw [hf]
    have hi := aidx_some ha
    have hlt := lt_of_get hi
    obtain ⟨e0, h0, hk0⟩ : ∃ e0, es.toList[i]? = some e0 ∧ e0.key = kc k := by
      have hg := congrArg (·[i]?) hm
      simp only [List.getElem?_map, hi, Option.map_some] at hg
      cases h0 : es.toList[i]? with
      | none => rw [h0] at hg; cases hg
      | some e0 => rw [h0] at hg; exact ⟨e0, rfl, (Prod.mk.inj (Option.some.inj hg)).1⟩
    have ha0 : es[i]? = some e0 := by rw [← Array.getElem?_toList]; exact h0
    have hmod : (es.modify i fun e => { e with key := kc k, val := vc v }).toList = es.toList.set i { e0 with key := kc k, val := vc v } := by
      rw [Array.toList_modify]
      apply List.ext_getElem?
      intro j
      rw [List.getElem?_modify, List.getElem?_set]
      by_cases q : i = j
      · subst q
        rw [h0, if_pos rfl, if_pos (by omega)]
        simp
      · rw [if_neg q]; simp [q]
    refine ⟨by rw [ha0]; simp [hk0], y _ ⟨_, _, upd_same _ _ _, ?_, ?_, ?_⟩ (But.upd rfl) fun c hc => (upd_none.1 hc).2⟩
    · unfold aset
      rw [ha, hmod, List.map_set, List.map_set, hm]
    · rw [hmod, List.map_set]
      have : (es.toList.map (·.born)).set i e0.born = es.toList.map (·.born) := set_same (by rw [List.getElem?_map, h0]; rfl)
      rw [this]; exact hp
    · rw [hmod, List.map_set]
      have : (es.toList.map (·.born)).set i e0.born = es.toList.map (·.born) := set_same (by rw [List.getElem?_map, h0]; rfl)
      rw [this]; exact hb
theorem map_eraseIdx {S T : Type} (f : S → T) : ∀ (l : List S) (i : Nat), (l.eraseIdx i).map f = (l.map f).eraseIdx i := by
  intro l
  induction l with
  | nil => intro i; rfl
  | cons a r ih =>
    intro i
    cases i with
    | zero => rfl
    | succ i => simp only [List.eraseIdx_cons_succ, List.map_cons, ih]
theorem w_mapDel (he : KeyEq eq kc) (x : MapOf kc vc h b l) {k : K} {key : Value} (hk : key = kc k) {kk : H → Prop} (y : ∀ h', MapOf kc vc h' b (adel l k) → But (· = b) h h' → (∀ c, h' c = none → h c = none) → kk h') : mMapDel eq (some b) key kk h := by
  subst hk
  have x0 := x
  obtain ⟨es, cl, e, hm, hp, hb⟩ := x.ex
  refine ⟨es, cl, e, ents_keys he k hm, ?_⟩
  have hf := ents_find he k es.toList l 0 hm
  have hlen : es.toList.length = l.length := by have := congrArg List.length hm; simpa using this
  cases ha : aidx l k with
  | none =>
    rw [ha] at hf
    have hf : findR eq (kc k) es.toList 0 = none := hf
    rw [hf]
    exact y _ (by unfold adel; rw [ha]; exact x0) (.refl _ _) fun _ q => q
  | some p =>
    obtain ⟨i, w⟩ := p
    rw [ha] at hf
    have hf : findR eq (kc k) es.toList 0 = some (0 + i, vc w) := hf
    rw [Nat.zero_add] at hf
    rw [hf]
    have hlt := lt_of_get (aidx_some ha)
    have hsz : i < es.size := by rw [← Array.length_toList]; omega
    have hmod : (es.eraseIdxIfInBounds i).toList = es.toList.eraseIdx i := by
      rw [Array.toList_eraseIdxIfInBounds]
    refine y _ ⟨_, _, upd_same _ _ _, ?_, ?_, ?_⟩ (But.upd rfl) fun c hc => (upd_none.1 hc).2
    · unfold adel
      rw [ha, hmod, map_eraseIdx, map_eraseIdx, hm]
    · rw [hmod, map_eraseIdx]
      exact hp.sublist (List.eraseIdx_sublist _ _)
    · rw [hmod, map_eraseIdx]
      exact fun c hc => hb c ((List.eraseIdx_sublist _ _).subset hc)
omit [DecidableEq K] in
theorem w_mapLen (x : MapOf kc vc h b l) (hl : l.length ≤ 9223372036854775807) {kk : Int → H → Prop} (y : kk (l.length : Nat) h) : mMapLen (some b) kk h := by
  obtain ⟨es, cl, e, hm, _⟩ := x.ex
  have hlen : es.toList.length = l.length := by have := congrArg List.length hm; simpa using this
  have hs : es.size = l.length := by rw [← Array.length_toList]; exact hlen
  exact ⟨es, cl, e, by omega, by rw [hs]; exact y⟩
end
section
variable {K V : Type}
def entOf (kc : K → Value) (vc : V → Value) (t : Nat × K × V) : MapEntry := ⟨kc t.2.1, vc t.2.2, t.1⟩
theorem typed (kc : K → Value) (vc : V → Value) : ∀ (es : List MapEntry) (l : List (K × V)), es.map (fun e => (e.key, e.val)) = l.map (fun p => (kc p.1, vc p.2)) → ∃ te : List (Nat × K × V), es = te.map (entOf kc vc) ∧ l = te.map (·.2) := by
  intro es
  induction es with
  | nil =>
    intro l h
    cases l with
    | nil => exact ⟨[], rfl, rfl⟩
    | cons => cases h
  | cons e r ih =>
    intro l h
    cases l with
    | nil => cases h
    | cons p q =>
      rw [List.map_cons, List.map_cons] at h
      injection h with h1 h2
      obtain ⟨te, rfl, rfl⟩ := ih q h2
      refine ⟨(e.born, p) :: te, ?_, rfl⟩
      rw [List.map_cons]
      congr 1
      obtain ⟨ek, ev_, eb⟩ := e
      cases (Prod.mk.inj h1).1
      cases (Prod.mk.inj h1).2
      rfl
structure IterOf (kc : K → Value) (vc : V → Value) (h : H) (it : Addr) (b : Nat) (l rest : List (K × V)) (at_ : Option (K × V)) : Prop where
  ex : ∃ (te : List (Nat × K × V)) (cl : Nat) (seen : Array Nat), it.off = 0 ∧ h it.block = some (.mapIter (some b) cl seen cl) ∧ h b = some (.map (te.map (entOf kc vc)).toArray cl) ∧ l = te.map (·.2) ∧ (te.map (·.1)).Nodup ∧ (∀ t ∈ te, t.1 < cl) ∧
    rest = (te.filter fun t => !seen.contains t.1).map (·.2) ∧ ∀ p, at_ = some p → ∃ t ∈ te, t.2 = p ∧ seen.back? = some t.1
variable {kc : K → Value} {vc : V → Value} {h : H} {b : Nat} {l rest : List (K × V)}
theorem IterOf.but {it : Addr} {o : Option (K × V)} {F : Nat → Prop} {h' : H} (x : IterOf kc vc h it b l rest o) (k : But F h h') (f1 : ¬ F it.block) (f2 : ¬ F b) : IterOf kc vc h' it b l rest o := by
  obtain ⟨te, cl, seen, h0, h1, h2, r⟩ := x.ex
  exact ⟨te, cl, seen, h0, k _ _ h1 f1, k _ _ h2 f2, r⟩
theorem IterOf.keep {it : Addr} {o : Option (K × V)} {h' : H} (x : IterOf kc vc h it b l rest o) (k : Keeps h h') : IterOf kc vc h' it b l rest o := by
  obtain ⟨te, cl, seen, h0, h1, h2, r⟩ := x.ex
  exact ⟨te, cl, seen, h0, k _ _ h1, k _ _ h2, r⟩
theorem w_range (x : MapOf kc vc h b l) {kk : Addr → H → Prop} (y : ∀ it h', h it.block = none → IterOf kc vc h' it b l l none → Keeps h h' → kk it h') : mRange (some b) kk h := by
  obtain ⟨es, cl, e, hm, hn, hb⟩ := x.ex
  refine ⟨es, cl, e, fun c hc => ?_⟩
  obtain ⟨te, h1, h2⟩ := typed kc vc es.toList l hm
  have hne : b ≠ c := fun q => by subst q; rw [hc] at e; cases e
  refine y _ _ hc ⟨te, cl, #[], rfl, upd_same _ _ _, ?_, h2, ?_, ?_, ?_, fun p q => by cases q⟩ (.new hc)
  · rw [upd_ne _ _ hne, e, ← h1]
  · rw [h1, List.map_map] at hn; exact hn
  · intro t ht
    rw [h1, List.map_map] at hb
    exact hb t.1 (List.mem_map.2 ⟨t, ht, rfl⟩)
  · rw [h2]; congr 1; symm; rw [List.filter_eq_self]; intro t _; simp
theorem filt {t : Nat × K × V} {P : Nat × K × V → Bool} (hP : P t = true) : ∀ te : List (Nat × K × V), (te.map (·.1)).Nodup → t ∈ te → (te.filter P).Perm (t :: te.filter fun u => P u && u.1 != t.1) := by
  intro te
  induction te with
  | nil => intro _ h; cases h
  | cons a r ih =>
    intro hn ht
    rw [List.map_cons, List.nodup_cons] at hn
    rcases List.mem_cons.1 ht with rfl | ht
    · rw [List.filter_cons_of_pos hP, List.filter_cons_of_neg (by simp)]
      refine List.Perm.cons _ (List.Perm.of_eq (List.filter_congr fun u hu => ?_))
      have : u.1 ≠ t.1 := fun e => hn.1 (List.mem_map.2 ⟨u, hu, e⟩)
      simp [this]
    · have hne : a.1 ≠ t.1 := fun e => hn.1 (List.mem_map.2 ⟨t, ht, e.symm⟩)
      have := ih hn.2 ht
      by_cases pa : P a = true
      · rw [List.filter_cons_of_pos pa, List.filter_cons_of_pos (by simp [pa, hne])]
        exact (this.cons a).trans (List.Perm.swap _ _ _)
      · rw [List.filter_cons_of_neg pa, List.filter_cons_of_neg (by simp [pa])]
        exact this
theorem w_next {it : Addr} {o : Option (K × V)} (x : IterOf kc vc h it b l rest o) (hb : it.block ≠ b) {kk : Bool × List Value → H → Prop} (over : rest = [] → kk (false, []) h)
    (more : ∀ p rest' h', rest.Perm (p :: rest') → IterOf kc vc h' it b l rest' (some p) → But (· = it.block) h h' → (∀ c, h' c = none → h c = none) → kk (true, [kc p.1, vc p.2]) h') : mNext it kk h := by
  obtain ⟨te, cl, seen, h0, h1, h2, h3, h4, h5, h6, _⟩ := x.ex
  refine ⟨h0, some b, cl, seen, cl, h1, _, cl, h2, ?_, fun hov => ?_, fun e he hs => ?_⟩
  · cases te with
    | nil => simp
    | cons t r =>
      have := h5 t (List.mem_cons_self ..)
      have hf : ((List.map (entOf kc vc) (t :: r)).toArray.all fun x => decide (x.born ≥ cl)) = false := by
        rw [Array.all_eq_false]
        refine ⟨0, by simp, ?_⟩
        simp [entOf]; exact this
      rw [hf, Bool.and_false]
  · refine over ?_
    rw [h6, List.map_eq_nil_iff, List.filter_eq_nil_iff]
    intro t ht hc
    have hlt := h5 t ht
    rw [Array.isEmpty_iff] at hov
    have : entOf kc vc t ∈ ((List.map (entOf kc vc) te).toArray.filter fun e => !seen.contains e.born).filter (·.born < cl) := by
      simp only [Array.mem_filter, List.mem_toArray]
      exact ⟨⟨List.mem_map.2 ⟨t, ht, rfl⟩, hc⟩, decide_eq_true hlt⟩
    rw [hov] at this
    simp at this
  · have he : e ∈ te.map (entOf kc vc) := by simpa using he
    obtain ⟨t, ht, rfl⟩ := List.mem_map.1 he
    have hP : (!seen.contains t.1) = true := by
      have hs : seen.contains t.1 = false := hs
      rw [hs]; rfl
    have pm := filt (P := fun u => !seen.contains u.1) hP te h4 ht
    refine more t.2 ((te.filter fun u => !(seen.push t.1).contains u.1).map (·.2)) _ ?_ ⟨te, cl, seen.push t.1, h0, upd_same _ _ _, by rw [upd_ne _ _ (Ne.symm hb)]; exact h2, h3, h4, h5, rfl, fun p q => ⟨t, ht, by cases q; rfl, by simp⟩⟩ (But.upd rfl) fun c hc => (upd_none.1 hc).2
    rw [h6]
    have e2 : (te.filter fun u => !(seen.push t.1).contains u.1) = te.filter fun u => !seen.contains u.1 && u.1 != t.1 := by
      refine List.filter_congr fun u _ => ?_
      rw [Array.contains_push]
      cases seen.contains u.1 <;> simp [bne, BEq.comm]
    rw [e2]
    exact pm.map (·.2)
theorem find_born {t : Nat × K × V} : ∀ te : List (Nat × K × V), (te.map (·.1)).Nodup → t ∈ te → (te.map (entOf kc vc)).find? (·.born == t.1) = some (entOf kc vc t) := by
  intro te
  induction te with
  | nil => intro _ h; cases h
  | cons a r ih =>
    intro hn ht
    rw [List.map_cons, List.nodup_cons] at hn
    rcases List.mem_cons.1 ht with rfl | ht
    · rw [List.map_cons, List.find?_cons_of_pos (by simp [entOf])]
    · have hne : a.1 ≠ t.1 := fun e => hn.1 (List.mem_map.2 ⟨t, ht, e.symm⟩)
      rw [List.map_cons, List.find?_cons_of_neg (by simp [entOf, hne])]
      exact ih hn.2 ht
theorem w_entry {it : Addr} {p : K × V} (x : IterOf kc vc h it b l rest (some p)) {kk : K × V → H → Prop} (y : kk p h) : mEntry kc vc it kk h := by
  obtain ⟨te, cl, seen, h0, h1, h2, h3, h4, h5, h6, h7⟩ := x.ex
  obtain ⟨t, ht, rfl, hs⟩ := h7 p rfl
  refine ⟨h0, b, cl, seen, t.1, _, cl, entOf kc vc t, t.2.1, t.2.2, h1, hs, h2, ?_, rfl, rfl, y⟩
  rw [List.find?_toArray]
  exact find_born te h4 ht
variable [DecidableEq K]
theorem aidx_cons (a : K) (w : V) (r : List (K × V)) (k : K) : aidx ((a, w) :: r) k = if k = a then some (0, w) else (aidx r k).map fun p => (p.1 + 1, p.2) := rfl
theorem aset_cons (a : K) (w : V) (r : List (K × V)) (k : K) (v : V) : aset ((a, w) :: r) k v = if k = a then (k, v) :: r else (a, w) :: aset r k v := by
  unfold aset
  rw [aidx_cons]
  by_cases e : k = a
  · rw [if_pos e, if_pos e]; rfl
  · rw [if_neg e, if_neg e]
    cases aidx r k <;> rfl
theorem adel_cons (a : K) (w : V) (r : List (K × V)) (k : K) : adel ((a, w) :: r) k = if k = a then r else (a, w) :: adel r k := by
  unfold adel
  rw [aidx_cons]
  by_cases e : k = a
  · rw [if_pos e, if_pos e]; rfl
  · rw [if_neg e, if_neg e]
    cases aidx r k <;> rfl
theorem alook_cons (a : K) (w : V) (r : List (K × V)) (k : K) : alook ((a, w) :: r) k = if k = a then some w else alook r k := by
  unfold alook
  rw [aidx_cons]
  by_cases e : k = a
  · rw [if_pos e, if_pos e]; rfl
  · rw [if_neg e, if_neg e]
    cases aidx r k <;> rfl
theorem alook_set (k k' : K) (v : V) : ∀ l : List (K × V), alook (aset l k v) k' = if k' = k then some v else alook l k' := by
  intro l
  induction l with
  | nil => exact alook_cons k v [] k'
  | cons p r ih =>
    obtain ⟨a, w⟩ := p
    rw [aset_cons, alook_cons]
    by_cases e : k = a
    · rw [if_pos e, alook_cons, e]
      by_cases q : k' = a
      · rw [if_pos q, if_pos q]
      · rw [if_neg q, if_neg q, if_neg q]
    · rw [if_neg e, alook_cons, ih]
      by_cases q : k' = a
      · rw [if_pos q, if_neg (show ¬ k' = k from fun z => e (z.symm.trans q)), if_pos q]
      · rw [if_neg q, if_neg q]
def Once (l : List (K × V)) : Prop := (l.map (·.1)).Nodup
theorem aidx_none {k : K} : ∀ {l : List (K × V)}, alook l k = none → k ∉ l.map (·.1) := by
  intro l
  induction l with
  | nil => intro _ h; cases h
  | cons p r ih =>
    obtain ⟨a, w⟩ := p
    intro h hm
    rw [alook_cons] at h
    by_cases e : k = a
    · rw [if_pos e] at h; cases h
    · rw [if_neg e] at h
      rcases List.mem_cons.1 hm with q | q
      · exact e q
      · exact ih h q
theorem alook_none {k : K} : ∀ {l : List (K × V)}, k ∉ l.map (·.1) → alook l k = none := by
  intro l
  induction l with
  | nil => intro _; rfl
  | cons p r ih =>
    obtain ⟨a, w⟩ := p
    intro h
    rw [List.map_cons, List.mem_cons, not_or] at h
    rw [alook_cons, if_neg h.1, ih h.2]
theorem aset_keys (k : K) (v : V) : ∀ (l : List (K × V)) (x : K), x ∈ (aset l k v).map (·.1) ↔ x = k ∨ x ∈ l.map (·.1) := by
  intro l
  induction l with
  | nil => intro x; simp [aset, aidx]
  | cons p r ih =>
    obtain ⟨a, w⟩ := p
    intro x
    rw [aset_cons]
    by_cases e : k = a
    · rw [if_pos e]; subst e; simp
    · rw [if_neg e, List.map_cons, List.mem_cons, ih, List.map_cons, List.mem_cons]
      constructor
      · rintro (q | q | q)
        · exact .inr (.inl q)
        · exact .inl q
        · exact .inr (.inr q)
      · rintro (q | q | q)
        · exact .inr (.inl q)
        · exact .inl q
        · exact .inr (.inr q)
theorem Once.set {l : List (K × V)} (x : Once l) (k : K) (v : V) : Once (aset l k v) := by
  unfold Once at *
  induction l with
  | nil => simp [aset, aidx]
  | cons p r ih =>
    obtain ⟨a, w⟩ := p
    rw [List.map_cons, List.nodup_cons] at x
    rw [aset_cons]
    by_cases e : k = a
    · rw [if_pos e]; subst e; rw [List.map_cons, List.nodup_cons]; exact x
    · rw [if_neg e, List.map_cons, List.nodup_cons]
      refine ⟨fun q => ?_, ih x.2⟩
      rcases (aset_keys k v r a).1 q with q | q
      · exact e q.symm
      · exact x.1 q
theorem alook_del (k k' : K) : ∀ l : List (K × V), Once l → alook (adel l k) k' = if k' = k then none else alook l k' := by
  intro l
  induction l with
  | nil => intro _; simp [adel, aidx, alook]
  | cons p r ih =>
    obtain ⟨a, w⟩ := p
    intro x
    unfold Once at x ih
    rw [List.map_cons, List.nodup_cons] at x
    rw [adel_cons, alook_cons]
    by_cases e : k = a
    · rw [if_pos e, e]
      by_cases q : k' = a
      · rw [if_pos q, q]; exact alook_none x.1
      · rw [if_neg q, if_neg q]
    · rw [if_neg e, alook_cons, ih x.2]
      by_cases q : k' = a
      · rw [if_pos q, if_neg (show ¬ k' = k from fun z => e (z.symm.trans q)), if_pos q]
      · rw [if_neg q, if_neg q]
end
theorem Buf.has {V : Type} {h : H} {cells : V → List Value} {sz : Nat} {e : TypeId} {s : Sl} {xs : List V} (x : Buf cells sz e h s xs) {c : Nat} (f : s.foot c) : h c ≠ none := by
  obtain ⟨a, ha, rfl⟩ := f
  rcases x.at_ with ⟨q, _⟩ | ⟨b, z, fz, q, hb, _⟩
  · rw [q] at ha; cases ha
  · rw [q] at ha; cases ha; rw [hb]; simp
theorem w_field {T T' : Type} {cells : T → List Value} {cells' : T' → List Value} {sz : Nat} (hs : ∀ x, (cells x).length = sz) {h : H} {s : Sl} {xs : List T} (x : Arr cells h s xs) {i : Nat} {v : T} (e : xs[i]? = some v) {j : Int} (hj : j = i) {v' : T'} {l1 l3 : List Value} {n : Nat} (hc : cells v = l1 ++ cells' v' ++ l3) (hn : l1.length = n) {k : T' → H → Prop}
    (y : k v' h) : mIdx s j sz (fun a => mLoad cells' (a.add n) k) h := by
  refine w_idx hs x e hj fun a _ ha => w_load (v := v') ?_ y
  rw [hc] at ha
  exact ha.sub hn
def Typed (h : H) (e : TypeId) (c : Nat) : Prop := ∃ cs fz, h c = some (.cells cs e fz)
theorem Typed.ne {h : H} {e e' : TypeId} {c d : Nat} (x : Typed h e c) (y : Typed h e' d) (n : e ≠ e') : c ≠ d := fun q => by
  subst q
  obtain ⟨_, _, a⟩ := x
  obtain ⟨_, _, b⟩ := y
  rw [a] at b; cases b; exact n rfl
theorem Typed.of {h : H} {e : TypeId} {c : Nat} {cs : Array Value} {fz : Nat × Nat} (x : h c = some (.cells cs e fz)) : Typed h e c := ⟨_, _, x⟩
theorem Typed.has {h : H} {e : TypeId} {c : Nat} (x : Typed h e c) : h c ≠ none := by
  obtain ⟨_, _, a⟩ := x; rw [a]; simp
theorem Buf.typed {V : Type} {h : H} {cells : V → List Value} {sz : Nat} {e : TypeId} {s : Sl} {xs : List V} (x : Buf cells sz e h s xs) {c : Nat} (f : s.foot c) : Typed h e c := by
  obtain ⟨a, ha, rfl⟩ := f
  rcases x.at_ with ⟨q, _⟩ | ⟨b, z, fz, q, hb, _⟩
  · rw [q] at ha; cases ha
  · rw [q] at ha; cases ha; exact ⟨_, _, hb⟩
theorem MapOf.untyped {K V : Type} {kc : K → Value} {vc : V → Value} {h : H} {b : Nat} {l : List (K × V)} (x : MapOf kc vc h b l) {e : TypeId} {c : Nat} (y : Typed h e c) : c ≠ b := fun q => by
  subst q
  obtain ⟨_, _, a, _⟩ := x.ex
  obtain ⟨_, _, b⟩ := y
  rw [a] at b; cases b
theorem w_mid {T : Type} {cells : T → List Value} {sz : Nat} (hs : ∀ x, (cells x).length = sz) {h : H} {s : Sl} {xs : List T} (x : Arr cells h s xs) {lo hi : Nat} (h1 : lo ≤ hi) (h2 : hi ≤ xs.length) {i j : Int} (ei : i = lo) (ej : j = hi) {k : Sl → H → Prop}
    (y : ∀ s', Arr cells h s' ((xs.drop lo).take (hi - lo)) → (∀ b, s'.foot b → s.foot b) → s'.len = hi - lo → s'.cap = s.cap - lo → k s' h) : mCut s i j sz k h := by
  have hl := x.len
  have hc := x.cap
  refine w_cut ei ej h1 (by omega) (y _ ⟨?_, ?_, fun hne => ?_⟩ (fun b ⟨a, ha, e⟩ => ?_) rfl rfl)
  · show hi - lo = _; rw [List.length_take, List.length_drop]; omega
  · show hi - lo ≤ s.cap - lo; omega
  · have hlt : lo < hi := by
      rcases Nat.lt_or_ge lo hi with q | q
      · exact q
      · exact absurd (by rw [show hi - lo = 0 by omega, List.take_zero]) hne
    obtain ⟨a, ha, q⟩ := x.at_ (fun e => by rw [e] at h2; simp at h2; omega)
    refine ⟨a.add (lo * sz), ?_, ?_⟩
    · show (if s.cap = lo then s.a else s.a.map (·.add (lo * sz))) = _
      rw [if_neg (by omega), ha]; rfl
    · have e : xs = xs.take lo ++ (xs.drop lo).take (hi - lo) ++ (xs.drop lo).drop (hi - lo) := by rw [List.append_assoc, List.take_append_drop, List.take_append_drop]
      rw [e, flat_append, flat_append] at q
      exact q.sub (by rw [flat_len hs, List.length_take, Nat.min_eq_left (by omega)])
  · have ha : (if s.cap = lo then s.a else s.a.map (·.add (lo * sz))) = some a := ha
    split at ha
    · exact ⟨a, ha, e⟩
    · cases hsa : s.a with
      | none => rw [hsa] at ha; cases ha
      | some a0 => rw [hsa] at ha; cases ha; exact ⟨a0, hsa, by rw [← e, add_block]⟩
theorem w_copy {T : Type} {cells : T → List Value} {sz : Nat} (hs : ∀ x, (cells x).length = sz) (hp : ∀ x, (cells x).all plainVal = true) {h : H} {d s : Sl} {xs : List T} (x : Arr cells h s xs) (fit : xs.length ≤ d.len) {k : Int → H → Prop}
    (y0 : xs = [] → k 0 h) (y : xs ≠ [] → ∃ a, d.a = some a ∧ mStore a (flat cells xs) (k xs.length) h) : mCopy sz d s k h := by
  have hl := x.len
  have hm : Nat.min s.len d.len = xs.length := by rw [hl]; exact Nat.min_eq_left fit
  refine ⟨flat cells xs, x.row, fun _ => by rw [flat_len hs, hm], ?_, ?_⟩
  · rw [List.all_eq_true]
    intro v hv
    obtain ⟨t, _, hv⟩ := List.mem_flatMap.1 hv
    exact List.all_eq_true.1 (hp t) v hv
  · by_cases e : xs = []
    · subst e
      rw [hm]
      split
      · exact y0 rfl
      · exact .inl ⟨rfl, y0 rfl⟩
    · obtain ⟨a, ha, st⟩ := y e
      rw [ha, hm]
      exact .inr st
inductive It : Type 1
  | slot (t : Nat) (τ : Ty)
  | cell (i j : Nat) (τ : Ty)
def It.ty : It → Ty
  | .slot _ τ => τ
  | .cell _ _ τ => τ
def tysI : List It → List Ty
  | [] => []
  | a :: r => a.ty :: tysI r
def getI (st : St) : List It → List SV
  | [] => []
  | .slot t _ :: r => st.σ t :: getI st r
  | .cell i j _ :: r => (match findB st.bx i with | some e => (match e.cells[j]? with | some (some v) => .v v | _ => .no) | none => .no) :: getI st r
def slotI : List It → List SV → T → T
  | .slot t _ :: r, s :: ss, u => slotI r ss (T.set deep u t s)
  | .cell .. :: r, _ :: ss, u => slotI r ss u
  | _, _, u => u
def cellI : List It → List SV → Nat → Nat → Option Value
  | .cell i j _ :: r, s :: ss, a, b => bif Nat.beq a i && Nat.beq b j then valOf? s else cellI r ss a b
  | .slot .. :: r, _ :: ss, a, b => cellI r ss a b
  | _, _, _, _ => none
abbrev DenI (its : List It) := Den (tysI its)
def freshB (its : List It) (ss : List SV) (e : Bx) (dirty : Bool) : Bx := ⟨e.key, e.ty, (List.range e.cells.length).map fun j => cellI its ss e.key j, dirty⟩
def encB (its : List It) (M : List Nat) (ss : List SV) : List Bx → List Bx
  | [] => []
  | e :: r => (match memB M e.key with | true => freshB its ss e true | false => e) :: encB its M ss r
def clean : List Bx → List Bx
  | [] => []
  | e :: r => ⟨e.key, e.ty, e.cells, false⟩ :: clean r
def backB (l : List Bx) : List Bx → List Bx
  | [] => []
  | e :: r => ⟨e.key, e.ty, e.cells, e.dirty || (match findB l e.key with | some x => x.dirty | none => false)⟩ :: backB l r
def stayed (M : List Nat) (l' : List Bx) : List Bx → Bool
  | [] => true
  | e :: r => (memB M e.key || match findB l' e.key with | some x => !x.dirty | none => false) && stayed M l' r
def encS (its : List It) (D : Nat → Bool) (M : List Nat) (s : DenI its) (st : St) : St := ⟨slotI its (svsD (tysI its) s) (st.tr.keep D), encB its M (svsD (tysI its) s) st.bx⟩
def inS (st : St) : St := ⟨st.tr, clean st.bx⟩
def backS (st st' : St) : St := ⟨st'.tr, backB st.bx st'.bx⟩
def meet (its : List It) (M : List Nat) (l : List Bx) (j : DenI its → HP) (st' : St) : HP := match decs (tysI its) (getI st' its), stayed M st'.bx l with
  | some s, true => j s
  | _, _ => nope
inductive Wh
  | seq (l : List Nat)
  | any (listed : Array Bool) (fuel : Nat)
  | part (listed : Array Bool) (fuel : Nat) (c : List Nat)
def bPart (P : Program) (ops : Array Oper) (next : Post) (fuel : Nat) (listed : Array Bool) (c : List Nat) : Post := fun ρ L h => Bdd (un L h) → Apart L h →
  ∀ i ∈ Region.ready .any ops listed, memB c i = false → aOpI P ops noP i (aAny P ops next noP fuel (listed.setIfInBounds i true)) ρ L h
def Goal (P : Program) (ops : Array Oper) (next : Post) : Wh → Post
  | .seq l => aOps P ops next noP l
  | .any listed fuel => bAny P ops next noP fuel listed
  | .part listed fuel c => bPart P ops next fuel listed c
def Wh.same : Wh → Wh → Bool
  | .seq l, .seq m => Nat.beq l.length m.length && l == m
  | .any l n, .any m k => Nat.beq n k && l.toList == m.toList
  | _, _ => false
def adv : Wh → Nat → Wh
  | .seq (_ :: r), _ => .seq r
  | .seq [], _ => .seq []
  | .any l n, i => .any (l.setIfInBounds i true) (n - 1)
  | .part l n _, i => .any (l.setIfInBounds i true) n
def skip : Wh → Nat → Wh
  | .seq l, _ => .seq l
  | .any l n, i => .part l (n - 1) [i]
  | .part l n c, i => .part l n (i :: c)
def may (P : Program) (ops : Array Oper) (w : Wh) (i how : Nat) : Bool := match w with
  | .seq (j :: _) => Nat.beq i j
  | .seq [] => false
  | .any _ 0 => false
  | .any listed (f + 1) => match how with
    | 3 => Region.ready .any ops listed == [i]
    | m => Nat.ble m 2 && Region.noSelect ops && free P ops listed i m && fewB listed (f + 1)
  | .part .. => false
def may2 (ops : Array Oper) (w : Wh) (i j : Nat) : Bool := match w with
  | .any listed (_ + 1) => Region.ready .any ops listed == [i, j]
  | .part listed _ c => (Region.ready .any ops listed).filter (fun x => !memB c x) == [i, j]
  | _ => false
def mayA (ops : Array Oper) (w : Wh) : Bool := match w with
  | .any listed (_ + 1) => !(Region.ready .any ops listed).isEmpty
  | .part .. => true
  | _ => false
def fin (ops : Array Oper) : Wh → Bool
  | .seq l => l.isEmpty
  | .any listed _ => (Region.ready .any ops listed).isEmpty
  | .part .. => false
def how' : Wh → Nat → Nat
  | .seq _, _ => 3
  | _, n => n
def wantS (ops : Array Oper) (st : St) (o : Oper) : Option Bool := match o.guard with
  | none => some true
  | some (j, b) => match ops.toList[j]? with
    | some oj => match oj.dst with
      | some d => match st.σ d with | .v (.bool c) => some (bif c then b else !b) | .v (.tuple _) => some false | _ => none
      | none => none
    | none => none
inductive Plan : Type 1
  | nil
  | run (l : List Nat) (p : Plan)
  | split (g : Nat) (p q : Plan)
  | join (its : List It) (D : Nat) (M : List Nat) (p q : Plan)
  | sel (g d D : Nat) (p p' q : Plan)
  | both (i j : Nat) (p q : Plan)
  | alt (i : Nat) (p q : Plan)
section
variable {P : Program} (X : Cx P) (ops : Array Oper)
def opS (st : St) (i how : Nat) (k : St → HP) : HP := match ops.toList[i]? with
  | some o => match wantS ops st o with
    | some true => run how (effOf P X st o) o.dst st k
    | some false => match Nat.beq how 0 || Nat.beq how 3 with
      | true => k (st.put o.dst (.v undef))
      | false => nope
    | none => nope
  | none => nope
def wpL : List Nat → Wh → St → (Wh → St → HP) → HP
  | [], w, st, k => k w st
  | n :: r, w, st, k => match may P ops w (n / 4) (n % 4) with
    | true => opS X ops st (n / 4) (how' w (n % 4)) fun st' => wpL r (adv w (n / 4)) st' k
    | false => nope
def opP (st : St) (i how : Nat) : Option St := match ops.toList[i]? with
  | some o => match wantS ops st o with
    | some true => match effOf P X st o with
      | .ret s => some (st.put o.dst s)
      | .own s => (match how with | 0 => none | _ => some (st.put o.dst s))
      | _ => none
    | some false => match how with
      | 0 | 3 => some (st.put o.dst (.v undef))
      | _ => none
    | none => none
  | none => none
def prL : List Nat → Wh → St → Option (Wh × St)
  | [], w, st => some (w, st)
  | n :: r, w, st => match may P ops w (n / 4) (n % 4) with
    | true => match opP X ops st (n / 4) (how' w (n % 4)) with
      | some st' => prL r (adv w (n / 4)) st'
      | none => none
    | false => none
def selS (g d : Nat) (D : Nat → Bool) (st : St) (a b : St → Option (Wh × St)) : Option (Wh × St) := match st.σ g with
  | .v (.bool c) => match a (st.put (some g) (.v (.bool true))), b (st.put (some g) (.v (.bool false))) with
    | some (w1, s1), some (w2, s2) => match w1.same w2, s1.σ d, s2.σ d with
      | true, .v (.bool x), .v (.bool y) => some (w1, ⟨T.set deep (st.tr.keep D) d (.v (.bool (bif c then x else y))), st.bx⟩)
      | _, _, _ => none
    | _, _ => none
  | _ => none
def dIn (D : Nat → Bool) (i : Nat) : Bool := match ops.toList[i]? with | some o => dstIn D o | none => true
def inD (D : Nat → Bool) : Plan → Bool
  | .nil => true
  | .run l p => l.all (fun n => dIn ops D (n / 4)) && inD D p
  | .split _ p q => inD D p && inD D q
  | .join _ _ _ p q => inD D p && inD D q
  | .sel _ _ _ p p' q => inD D p && inD D p' && inD D q
  | .both i j p q => dIn ops D i && dIn ops D j && inD D p && inD D q
  | .alt i p q => dIn ops D i && inD D p && inD D q
def pr : Plan → Wh → St → Option (Wh × St)
  | .nil, w, st => some (w, st)
  | .run l p, w, st => match prL X ops l w st with | some (w', st') => pr p w' st' | none => none
  | .sel g d D p p' q, w, st => match inD ops (Nat.testBit D) p && inD ops (Nat.testBit D) p' with
    | true => match selS g d (Nat.testBit D) st (pr p w) (pr p' w) with | some (w', st') => pr q w' st' | none => none
    | false => none
  | _, _, _ => none
def aft : Plan → Wh → Wh
  | .nil, w => w
  | .run l p, w => aft p (l.foldl (fun w n => adv w (n / 4)) w)
  | .split _ p _, w => aft p w
  | .join _ _ _ p q, w => aft q (aft p w)
  | .sel _ _ _ p _ q, w => aft q (aft p w)
  | .both i _ p _, w => aft p (adv w i)
  | .alt i p _, w => aft p (adv w i)
def wpP : Plan → Wh → St → (Wh → St → HP) → HP
  | .nil, w, st, k => k w st
  | .run l p, w, st, k => wpL X ops l w st fun w' st' => wpP p w' st' k
  | .split g p q, w, st, k => match st.σ g with
    | .v (.bool c) => mIf c (wpP p w (st.put (some g) (.v (.bool true))) k) (wpP q w (st.put (some g) (.v (.bool false))) k)
    | _ => nope
  | .join its D M p q, w, st, k => match inD ops (Nat.testBit D) p with
    | true => mJoin (fun s : DenI its => wpP q (aft p w) (encS its (Nat.testBit D) M s st) k) fun j =>
      wpP p w (inS st) fun w' st' => match w'.same (aft p w) with | true => meet its M st.bx j st' | false => nope
    | false => nope
  | .sel g d D p p' q, w, st, k => match inD ops (Nat.testBit D) p && inD ops (Nat.testBit D) p' with
    | true => match selS g d (Nat.testBit D) st (pr X ops p w) (pr X ops p' w) with | some (w', st') => wpP q w' st' k | none => nope
    | false => nope
  | .both i j p q, w, st, k => match may2 ops w i j with
    | true => mBoth (opS X ops st i 3 fun st' => wpP p (adv w i) st' k) (opS X ops st j 3 fun st' => wpP q (adv w j) st' k)
    | false => nope
  | .alt i p q, w, st, k => match mayA ops w with
    | true => mBoth (opS X ops st i 3 fun st' => wpP p (adv w i) st' k) (wpP q (skip w i) st k)
    | false => nope
end
inductive Hint : Type 1
  | d
  | reg (p : Plan)
  | seq (a b : Hint)
  | join (its : List It) (D : Nat) (M : List Nat) (a b : Hint)
  | cond (a b : Hint)
  | known (a b : Hint)
  | blk (a : Hint)
  | loop (its : List It) (D : Nat) (M : List Nat) (a : Hint)
  | rng (A : List Ty) (xs : List Nat) (rt : Bool) (a b : Hint)
def autoP (n : Nat) : Plan := .run ((List.range n).map fun i => 4 * i + 3) .nil
def Hint.plan (n : Nat) : Hint → Plan
  | .reg p => p
  | _ => autoP n
def Hint.one : Hint → Hint
  | .seq a _ | .cond a _ | .known a _ | .blk a => a
  | _ => .d
def Hint.two : Hint → Hint
  | .seq _ b | .cond _ b | .known _ b => b
  | _ => .d
def setA : List Tmp → List SV → St → St
  | p :: ps, s :: ss, st => setA ps ss (st.put (some p) s)
  | _, _, st => st
def outX (Q : Exit → HP) (j : Nat) : List Nat → HP
  | [] => nope
  | id :: r => mIf (Nat.beq j (id + 2)) (Q (.exit id)) (outX Q j r)
def outK (xs : List Nat) (rt : Bool) (Q : Exit → HP) (j : Nat) : HP := mIf (Nat.beq j 0) (Q .normal) (match rt with | true => mIf (Nat.beq j 1) (Q .ret) (outX Q j xs) | false => outX Q j xs)
def wpc {P : Program} (X : Cx P) (n : Nat) : Code → Bool → Hint → (Exit → St → HP) → St → HP
  | .skip, _, _, Q, st => Q .normal st
  | .label _, _, _, Q, st => Q .normal st
  | .ret, _, _, Q, st => Q .ret st
  | .exit id, _, _, Q, st => Q (.exit id) st
  | .region _ ops dr, _, hint, Q, st => match fits n ops with
    | true => wpP X ops (hint.plan ops.size) (match dr with | true => .any (Array.replicate ops.size false) ops.size | false => .seq (List.range ops.size)) st
      fun w st' => match fin ops w with | true => Q .normal st' | false => nope
    | false => nope
  | .block id a, top, hint, Q, st => wpc X n a top hint.one (fun e st' => match e with | .exit id' => (match Nat.beq id' id with | true => Q .normal st' | false => Q (.exit id') st') | e => Q e st') st
  | .scope a, top, hint, Q, st => wpc X n a top hint.one (fun e st' => match e with | .goto _ => nope | e => Q e st') st
  | .cond c a b, top, hint, Q, st => match sv st c with
    | .v (.bool t) => (match hint with
      | .known ha hb => (match t with | true => wpc X n a top ha Q st | false => wpc X n b top hb Q st)
      | hint => mIf t (wpc X n a top hint.one Q st) (wpc X n b top hint.two Q st))
    | _ => nope
  | .seq a b, top, hint, Q, st => match hint with
    | .join its D M ha hb => (match dstsIn (Nat.testBit D) a with
      | true => mJoin (fun s : DenI its => wpc X n b top hb Q (encS its (Nat.testBit D) M s st)) fun j =>
        wpc X n a top ha (fun e st' => match e with | .normal => meet its M st.bx j st' | e => Q e (backS st st')) (inS st)
      | false => nope)
    | hint => wpc X n a top hint.one (fun e st' => match e with | .normal => wpc X n b top hint.two Q st' | e => Q e st') st
  | .loop a, top, hint, Q, st => match hint with
    | .loop its D M ha => (match dstsIn (Nat.testBit D) a, decs (tysI its) (getI (inS st) its) with
      | true, some s0 => mLoop (fun (rec : DenI its → HP) (s : DenI its) =>
        wpc X n a top ha (fun e st' => match e with | .normal => meet its M (inS st).bx rec st' | e => Q e (backS st st')) (encS its (Nat.testBit D) M s (inS st))) s0
      | _, _ => nope)
    | _ => nope
  | .rangeFunc g ps as_ bd, top, hint, Q, st => match top, hint, valOf? (sv st g), ps.toList.all fun p => Nat.blt p n with
    | true, .rng A xs rt ha hb, some fv, true => (match Nat.beq A.length ps.size with
      | true => mRangeF P (valsD A) fv (fun (x : Den A) mid kj =>
          wpc X n as_ false ha (fun e st1 => match e with
            | .normal => mid (wpc X n bd false hb (fun e _ => match e with | .normal => kj 0 | .ret => kj 1 | .exit id => kj (id + 2) | _ => nope) st1)
            | _ => nope) (setA ps.toList (svsD A x) ⟨st.tr, []⟩)) (outK xs rt fun e => Q e st)
      | false => nope)
    | _, _, _, _ => nope
  | _, _, _, _, _ => nope
def resM {P : Program} (X : Cx P) (st : St) : List ResultVar → (List SV → HP) → HP
  | [], k => k []
  | .tmp t :: r, k => resM X st r fun l => k (st.σ t :: l)
  | .cell a t :: r, k => match st.σ a with
    | .box i off => (match findB st.bx i, P.underlying t, P.info? t with
      | some e, some td, some ti => (match aggB td with
        | true => (match grabO e.cells off ti.size with | some vs => resM X st r fun l => k (.v (.agg vs.toArray) :: l) | none => nope)
        | false => (match grabO e.cells off 1 with | some [v] => resM X st r fun l => k (.v v :: l) | _ => nope))
      | _, _, _ => nope)
    | .adr ad => (match tyOf X.ty t with
      | some τ => (match tyOk P t τ with | true => mLoad τ.cells ad fun x => resM X st r fun l => k (τ.sv x :: l) | false => nope)
      | none => nope)
    | _ => nope
def argG : List SV → Nat → T → T
  | [], _, t => t
  | s :: r, n, t => argG r (n + 1) (T.set deep t n s)
def wpF {P : Program} (X : Cx P) (fn : Func) (A R : List Ty) (hint : Hint) (a : Den A) (K : Den R → HP) : HP := match fn.body with
  | some c => wpc X fn.ntmps c true hint (fun e st => match e with
    | .normal | .ret => resM X st fn.results.toList fun l => match decs R l with | some r => K r | none => nope
    | _ => nope) ⟨argG (svsD A a) 0 .e, []⟩
  | none => nope
theorem findB_none : ∀ {l : List Bx} {i : Nat}, findB l i = none → ¬ InK l i := by
  intro l
  induction l with
  | nil => rintro i _ ⟨e, he, _⟩; cases he
  | cons x r ih =>
    intro i h ⟨e, he, hk⟩
    simp only [findB] at h
    cases hb : Nat.beq x.key i <;> rw [hb] at h
    · rcases List.mem_cons.1 he with rfl | he
      · rw [hk, Nat.beq_refl] at hb; cases hb
      · exact ih h ⟨e, he, hk⟩
    · cases h
theorem findB_mem : ∀ {l : List Bx} {e : Bx}, (l.map Bx.key).Nodup → e ∈ l → findB l e.key = some e := by
  intro l
  induction l with
  | nil => intro e _ h; cases h
  | cons x r ih =>
    intro e nd h
    simp only [List.map_cons, List.nodup_cons] at nd
    simp only [findB]
    rcases List.mem_cons.1 h with rfl | h
    · rw [Nat.beq_refl]; rfl
    · have : Nat.beq x.key e.key = false := by
        rw [← Bool.not_eq_true, Nat.beq_eq]
        exact fun q => nd.1 (by rw [q]; exact List.mem_map.2 ⟨e, h, rfl⟩)
      rw [this]; exact ih nd.2 h
theorem key_uniq {l : List Bx} (nd : (l.map Bx.key).Nodup) {e e' : Bx} (h : e ∈ l) (h' : e' ∈ l) (k : e.key = e'.key) : e = e' := by
  have h1 := findB_mem nd h
  rw [k, findB_mem nd h'] at h1
  exact (Option.some.inj h1).symm
theorem setB_keys : ∀ (l : List Bx) (i : Nat) (c : List (Option Value)), (setB l i c).map Bx.key = l.map Bx.key := by
  intro l
  induction l with
  | nil => intro i c; rfl
  | cons x r ih =>
    intro i c
    simp only [setB]
    cases Nat.beq x.key i
    · simp only [cond_false, List.map_cons, ih]
    · rfl
theorem setB_mem : ∀ {l : List Bx} {i : Nat} {c : List (Option Value)} {x : Bx}, (l.map Bx.key).Nodup → x ∈ setB l i c → (x ∈ l ∧ x.key ≠ i) ∨ ∃ e, e ∈ l ∧ e.key = i ∧ x = ⟨e.key, e.ty, c, true⟩ := by
  intro l
  induction l with
  | nil => intro i c x _ h; cases h
  | cons y r ih =>
    intro i c x nd h
    simp only [List.map_cons, List.nodup_cons] at nd
    simp only [setB] at h
    cases hb : Nat.beq y.key i <;> rw [hb] at h
    · have hne : y.key ≠ i := fun e => by rw [← Nat.beq_eq, hb] at e; cases e
      rcases List.mem_cons.1 h with rfl | h
      · exact .inl ⟨List.mem_cons_self .., hne⟩
      · rcases ih nd.2 h with ⟨h1, h2⟩ | ⟨e, h1, h2, h3⟩
        · exact .inl ⟨List.mem_cons_of_mem _ h1, h2⟩
        · exact .inr ⟨e, List.mem_cons_of_mem _ h1, h2, h3⟩
    · rw [Nat.beq_eq] at hb
      rcases List.mem_cons.1 h with rfl | h
      · exact .inr ⟨y, List.mem_cons_self .., hb, rfl⟩
      · refine .inl ⟨List.mem_cons_of_mem _ h, fun e => nd.1 ?_⟩
        rw [hb, ← e]; exact List.mem_map.2 ⟨x, h, rfl⟩
theorem setB_has : ∀ {l : List Bx} {i : Nat} {c : List (Option Value)} {e : Bx}, e ∈ l → (e ∈ setB l i c) ∨ (e.key = i ∧ ⟨e.key, e.ty, c, true⟩ ∈ setB l i c) := by
  intro l
  induction l with
  | nil => intro i c e h; cases h
  | cons y r ih =>
    intro i c e h
    simp only [setB]
    cases hb : Nat.beq y.key i
    · rcases List.mem_cons.1 h with rfl | h
      · exact .inl (List.mem_cons_self ..)
      · exact (ih h).imp (List.mem_cons_of_mem _) fun q => ⟨q.1, List.mem_cons_of_mem _ q.2⟩
    · rcases List.mem_cons.1 h with rfl | h
      · rw [Nat.beq_eq] at hb; exact .inr ⟨hb, List.mem_cons_self ..⟩
      · exact .inl (List.mem_cons_of_mem _ h)
theorem ink_keys {l l' : List Bx} (h : l'.map Bx.key = l.map Bx.key) {i : Nat} : InK l' i ↔ InK l i := by
  have key : ∀ {a b : List Bx}, a.map Bx.key = b.map Bx.key → InK a i → InK b i := fun {a b} h ⟨e, he, hk⟩ => by
    have : i ∈ b.map Bx.key := by rw [← h, ← hk]; exact List.mem_map.2 ⟨e, he, rfl⟩
    obtain ⟨e', he', hk'⟩ := List.mem_map.1 this
    exact ⟨e', he', hk'⟩
  exact ⟨key h, key h.symm⟩
structure Tr (β : Nat → Nat) (st : St) (β' : Nat → Nat) (st' : St) : Prop where
  agree : ∀ i, InK st.bx i → β' i = β i
  has : ∀ e, e ∈ st.bx → ∃ e', e' ∈ st'.bx ∧ e'.key = e.key ∧ e'.ty = e.ty ∧ e'.cells.length = e.cells.length ∧ (e'.dirty = false → e.dirty = false ∧ e'.cells = e.cells)
theorem Tr.refl (β : Nat → Nat) (st : St) : Tr β st β st := ⟨fun _ _ => rfl, fun e h => ⟨e, h, rfl, rfl, rfl, fun d => ⟨d, rfl⟩⟩⟩
theorem Tr.ink {β β' : Nat → Nat} {st st' : St} (t : Tr β st β' st') {i : Nat} (h : InK st.bx i) : InK st'.bx i := by
  obtain ⟨e, he, rfl⟩ := h
  obtain ⟨e', h1, h2, _⟩ := t.has e he
  exact ⟨e', h1, h2⟩
theorem Tr.trans {β β1 β2 : Nat → Nat} {st st1 st2 : St} (x : Tr β st β1 st1) (y : Tr β1 st1 β2 st2) : Tr β st β2 st2 := ⟨fun i h => (y.agree i (x.ink h)).trans (x.agree i h), fun e h => by
  obtain ⟨e1, h1, a1, b1, c1, d1⟩ := x.has e h
  obtain ⟨e2, h2, a2, b2, c2, d2⟩ := y.has e1 h1
  refine ⟨e2, h2, a2.trans a1, b2.trans b1, c2.trans c1, fun d => ?_⟩
  obtain ⟨p, q⟩ := d2 d
  obtain ⟨p', q'⟩ := d1 p
  exact ⟨p', q.trans q'⟩⟩
theorem put_bx (st : St) (d : Option Tmp) (s : SV) : (st.put d s).bx = st.bx := by cases d <;> rfl
theorem Tr.put (β : Nat → Nat) (st : St) (d : Option Tmp) (s : SV) : Tr β st β (st.put d s) := ⟨fun _ _ => rfl, fun e h => ⟨e, by rw [put_bx]; exact h, rfl, rfl, rfl, fun d => ⟨d, rfl⟩⟩⟩
theorem put_other (ρ : Env) (d : Option Tmp) (v : Value) (t : Nat) (h : d ≠ some t) : put ρ d v t = ρ t := by
  cases d with
  | none => rfl
  | some d =>
    have : Nat.beq t d = false := by rw [← Bool.not_eq_true, Nat.beq_eq]; exact fun e => h (by rw [e])
    simp only [K.put, this, cond_false]
theorem put_self (ρ : Env) (d : Nat) (v : Value) : put ρ (some d) v d = v := by simp only [K.put, Nat.beq_refl, cond_true]
section steps
variable {P : Program} {X : Cx P} {β : Nat → Nat} {st : St} {ρ : Env} {L : H}
theorem Ok.put (k : Ok β st ρ L) {v : Value} {s : SV} (r : Rel st.bx β v s) (d : Option Tmp) : Ok β (st.put d s) (put ρ d v) L := by
  cases d with
  | none => exact k
  | some d =>
    refine ⟨fun t => ?_, k.boxes, k.inj, k.nd⟩
    show Rel st.bx β (K.put ρ (some d) v t) ((T.set deep st.tr d s).get t)
    rcases T.get_set deep st.tr d s t with q | ⟨rfl, q⟩ | ⟨h, q⟩
    · rw [q]; trivial
    · rw [q, put_self]; exact r
    · rw [q, put_other _ _ _ _ (fun e => h (Option.some.inj e).symm)]; exact k.slots t
theorem run_step {o : Oper} {e : Eff} {how : Nat} {k : St → HP} {h : H} {next : Post} (ok : Ok β st ρ L) (eo : EffOk P o β st ρ L e) (r : run how e o.dst st k h)
    (hn : ∀ β' st' ρ' L' h', Tr β st β' st' → Ok β' st' ρ' L' → (∀ t, o.dst ≠ some t → ρ' t = ρ t) → k st' h' → next ρ' L' h') : aOp P o ρ L h next noP := by
  cases e with
  | bad => exact r.elim
  | ret s =>
    obtain ⟨v, hr, y⟩ := eo
    exact y L h next noP (hn β _ _ L h (.put ..) (ok.put hr _) (fun t ht => put_other _ _ _ _ ht) r)
  | own s =>
    obtain ⟨v, hr, y⟩ := eo
    cases how with
    | zero => exact r.elim
    | succ n => exact y L h next noP (.refl L) (hn β _ _ L h (.put ..) (ok.put hr _) (fun t ht => put_other _ _ _ _ ht) r)
  | ask W w f =>
    have r' : w (fun x => k (st.put o.dst (f x))) h := by
      match how, r with
      | 0, r => exact r
      | 1, r => exact r.elim
      | n + 2, r => exact r
    obtain ⟨x, v, is, y, kx⟩ := eo _ h r'
    exact y L h next noP (hn β _ _ L h (.put ..) (ok.put (is.rel _ _) _) (fun t ht => put_other _ _ _ _ ht) kx)
  | mem W w f =>
    have r' : w (fun x => k (st.put o.dst (f x))) h := by
      match how, r with
      | 0, r => exact r.elim
      | 1, r => exact r.elim
      | n + 2, r => exact r
    refine eo _ h next r' fun x v h' kx hv => hn β _ _ L h' (.put ..) (ok.put ?_ _) (fun t ht => put_other _ _ _ _ ht) kx
    rcases hv with hv | hv
    · rw [hv]; trivial
    · exact hv.rel _ _
  | box t c lit =>
    have r' : (match o.dst with
      | none => nope
      | some d => match findB st.bx d with
        | some _ => nope
        | none => k ⟨T.set deep (st.tr.map (clr d)) d (litSV d lit), ⟨d, t, c.map some, false⟩ :: st.bx⟩ : HP) h := by
      match how, r with
      | 0, r => exact r.elim
      | 1, r => exact r.elim
      | n + 2, r => exact r
    refine eo h next fun b hb => ?_
    cases hd : o.dst with
    | none => rw [hd] at r'; exact r'.elim
    | some d =>
      rw [hd] at r'
      simp only at r'
      cases hf : findB st.bx d with
      | some e => rw [hf] at r'; exact r'.elim
      | none =>
        rw [hf] at r'
        have fr := findB_none hf
        have hne : ∀ e, e ∈ st.bx → e.key ≠ d := fun e he q => fr ⟨e, he, q⟩
        have ninb : ∀ e, e ∈ st.bx → β e.key ≠ b := fun e he q => by
          obtain ⟨c', hc, _⟩ := ok.boxes e he
          rw [q, hb] at hc; cases hc
        let β' : Nat → Nat := fun i => if i = d then b else β i
        have bold : ∀ i, i ≠ d → β' i = β i := fun i hi => if_neg hi
        have bnew : β' d = b := if_pos rfl
        refine hn β' _ _ _ h ⟨fun i ⟨e, he, hk⟩ => bold i (hk ▸ hne e he), fun e he => ⟨e, List.mem_cons_of_mem _ he, rfl, rfl, rfl, fun q => ⟨q, rfl⟩⟩⟩ ⟨fun u => ?_, fun e he => ?_, fun i j hi hj e => ?_, ?_⟩ (fun u hu => ?_) r'
        · show Rel _ β' (K.put ρ (some d) (litV b lit) u) ((T.set deep (st.tr.map (clr d)) d (litSV d lit)).get u)
          rcases T.get_set deep (st.tr.map (clr d)) d (litSV d lit) u with q | ⟨rfl, q⟩ | ⟨hne', q⟩
          · rw [q]; trivial
          · rw [q, put_self]
            cases lit with
            | none => intro _; show _ = Value.pointer (some ⟨β' u, 0, none⟩); rw [bnew]; rfl
            | some n => intro _; show _ = Value.slice (some ⟨β' u, 0, none⟩) n n; rw [bnew]; rfl
          · rw [q, put_other _ _ _ _ (fun e => hne' (Option.some.inj e).symm), T.get_map rfl]
            have := ok.slots u
            show Rel _ β' (ρ u) (clr d (st.σ u))
            revert this
            cases st.σ u with
            | box j off =>
              intro this
              show Rel _ β' (ρ u) (bif Nat.beq j d then .no else .box j off)
              cases hj : Nat.beq j d
              · rintro ⟨e, he, hk⟩
                have hjd : j ≠ d := fun q => by rw [← Nat.beq_eq, hj] at q; cases q
                rcases List.mem_cons.1 he with rfl | he
                · exact absurd hk.symm hjd
                · rw [bold j hjd]; exact this ⟨e, he, hk⟩
              · trivial
            | lit j n =>
              intro this
              show Rel _ β' (ρ u) (bif Nat.beq j d then .no else .lit j n)
              cases hj : Nat.beq j d
              · rintro ⟨e, he, hk⟩
                have hjd : j ≠ d := fun q => by rw [← Nat.beq_eq, hj] at q; cases q
                rcases List.mem_cons.1 he with rfl | he
                · exact absurd hk.symm hjd
                · rw [bold j hjd]; exact this ⟨e, he, hk⟩
              · trivial
            | _ => exact id
        · rcases List.mem_cons.1 he with rfl | he
          · refine ⟨c.toArray, ?_, by simp, fun j v hj => ?_⟩
            · show upd L b _ (β' d) = _; rw [bnew]; exact upd_same _ _ _
            · have hj : (c.map some)[j]? = some (some v) := hj
              rw [List.getElem?_map] at hj
              cases hc : c[j]? with
              | none => rw [hc] at hj; cases hj
              | some w => rw [hc] at hj; cases hj; rw [List.getElem?_toArray]; exact hc
          · obtain ⟨c', hc, kn⟩ := ok.boxes e he
            refine ⟨c', ?_, kn⟩
            rw [bold _ (hne e he), upd_ne _ _ (ninb e he)]; exact hc
        · obtain ⟨e1, he1, rfl⟩ := hi
          obtain ⟨e2, he2, rfl⟩ := hj
          rcases List.mem_cons.1 he1 with rfl | he1 <;> rcases List.mem_cons.1 he2 with rfl | he2
          · rfl
          · rw [bold _ (hne e2 he2)] at e
            exact absurd (e.symm.trans bnew) (ninb e2 he2)
          · rw [bold _ (hne e1 he1)] at e
            exact absurd (e.trans bnew) (ninb e1 he1)
          · rw [bold _ (hne e1 he1), bold _ (hne e2 he2)] at e
            exact ok.inj _ _ ⟨e1, he1, rfl⟩ ⟨e2, he2, rfl⟩ e
        · refine List.nodup_cons.2 ⟨fun hm => ?_, ok.nd⟩
          obtain ⟨e, he, hk⟩ := List.mem_map.1 hm
          exact hne e he hk
        · exact put_other _ _ _ _ (fun e => hu (hd.trans e))
  | set i c =>
    have r' : k ⟨(st.put o.dst .no).tr, setB st.bx i c⟩ h := by
      match how, r with
      | 0, r => exact r.elim
      | 1, r => exact r.elim
      | 2, r => exact r.elim
      | 3, r => exact r
      | n + 4, r => exact r.elim
    obtain ⟨e0, c', hf, hl, kn, y⟩ := eo
    obtain ⟨h0, hk0⟩ := findB_some hf
    have ik : ∀ j, InK (setB st.bx i c) j ↔ InK st.bx j := fun j => ink_keys (setB_keys _ _ _)
    refine y h next (hn β _ _ _ h ⟨fun _ _ => rfl, fun e he => ?_⟩ ⟨fun u => ?_, fun e he => ?_, fun a b ha hb => ok.inj a b ((ik a).1 ha) ((ik b).1 hb), by rw [setB_keys]; exact ok.nd⟩ (fun t ht => put_other _ _ _ _ ht) r')
    · rcases setB_has (i := i) (c := c) he with q | ⟨q1, q2⟩
      · exact ⟨e, q, rfl, rfl, rfl, fun d => ⟨d, rfl⟩⟩
      · have : e = e0 := key_uniq ok.nd he h0 (q1.trans hk0.symm)
        subst this
        exact ⟨_, q2, rfl, rfl, hl, fun d => by cases d⟩
    · have hs : Rel (setB st.bx i c) β (ρ u) (st.σ u) := by
        have := ok.slots u
        revert this
        cases st.σ u with
        | box j off => exact fun q m => q ((ik j).1 m)
        | lit j n => exact fun q m => q ((ik j).1 m)
        | _ => exact id
      cases hd : o.dst with
      | none => exact hs
      | some d =>
        show Rel _ β (K.put ρ (some d) undef u) ((T.set deep st.tr d .no).get u)
        rcases T.get_set deep st.tr d .no u with q | ⟨rfl, q⟩ | ⟨h, q⟩
        · rw [q]; trivial
        · rw [q]; trivial
        · rw [q, put_other _ _ _ _ (fun e => h (Option.some.inj e).symm)]; exact hs
    · rcases setB_mem ok.nd he with ⟨h1, h2⟩ | ⟨e1, h1, h2, rfl⟩
      · obtain ⟨c2, hc2, kn2⟩ := ok.boxes e h1
        refine ⟨c2, ?_, kn2⟩
        rw [upd_ne]; exact hc2
        exact fun q => h2 (ok.inj _ _ ⟨e, h1, rfl⟩ ⟨e0, h0, hk0⟩ q)
      · have : e1 = e0 := key_uniq ok.nd h1 h0 (h2.trans hk0.symm)
        subst this
        refine ⟨c', ?_, kn⟩
        show upd L (β i) _ (β e1.key) = _
        rw [h2]; exact upd_same _ _ _
theorem run_y {o : Oper} {e : Eff} {k : St → HP} {h : H} (ok : Ok β st ρ L) (eo : EffOk P o β st ρ L e) (r : run 0 e o.dst st k h) : ∃ v st', YE P o ρ v ∧ Tr β st β st' ∧ Ok β st' (put ρ o.dst v) L ∧ k st' h := by
  cases e with
  | ret s =>
    obtain ⟨v, hr, y⟩ := eo
    exact ⟨v, _, y, .put .., ok.put hr _, r⟩
  | ask W w f =>
    obtain ⟨x, v, is, y, kx⟩ := eo _ h (show w (fun x => k (st.put o.dst (f x))) h from r)
    exact ⟨v, _, y, .put .., ok.put (is.rel _ _) _, kx⟩
  | _ => exact r.elim
theorem run_r {o : Oper} {e : Eff} {k : St → HP} {h : H} (ok : Ok β st ρ L) (eo : EffOk P o β st ρ L e) (r : run 1 e o.dst st k h) : ∃ v st', YR P o ρ L v ∧ Tr β st β st' ∧ Ok β st' (put ρ o.dst v) L ∧ k st' h := by
  cases e with
  | ret s =>
    obtain ⟨v, hr, y⟩ := eo
    exact ⟨v, _, fun L' h' next C _ => y L' h' next C, .put .., ok.put hr _, r⟩
  | own s =>
    obtain ⟨v, hr, y⟩ := eo
    exact ⟨v, _, y, .put .., ok.put hr _, r⟩
  | _ => exact r.elim
theorem want_ok {ops : Array Oper} {o : Oper} {b : Bool} (ok : Ok β st ρ L) (h : wantS ops st o = some b) : Region.wanted o (yld ops ρ) = b := by
  unfold wantS at h
  unfold Region.wanted
  split at h
  · rename_i hg; cases h; rw [hg]
  · rename_i j w hg
    rw [hg]
    simp only
    split at h
    · rename_i oj hj
      rw [Array.getElem?_toList] at hj
      split at h
      · rename_i d hd
        have hs := ok.slots d
        have hy : yld ops ρ j = match ρ d with | .bool b => some b | _ => none := by
          unfold yld; simp only [hj, Option.bind_some, hd]; rfl
        split at h
        · rename_i c hc
          rw [hc] at hs
          have hs : ρ d = _ := hs
          rw [hy, hs]
          cases h
          cases c <;> cases w <;> rfl
        · rename_i c hc
          rw [hc] at hs
          have hs : ρ d = _ := hs
          rw [hy, hs]
          cases h
          rfl
        · cases h
      · cases h
    · cases h
variable {ops : Array Oper} {next : Post}
theorem agree_of {D : Nat → Bool} {o : Oper} {ρ' : Env} (hd : dstIn D o = true) (h : ∀ t, o.dst ≠ some t → ρ' t = ρ t) : Agree D ρ ρ' := fun t ht => h t fun e => by
  unfold dstIn at hd; rw [e] at hd; simp only at hd; rw [hd] at ht; cases ht
theorem t1n {i fuel : Nat} {listed : Array Bool} {oi : Oper} {h : H} (hi' : ops.toList[i]? = some oi) (hr : Region.ready .any ops listed = [i]) (hw : Region.wanted oi (yld ops ρ) = false)
    (x : bAny P ops next noP fuel (listed.setIfInBounds i true) (put ρ oi.dst undef) L h) : bAny P ops next noP (fuel + 1) listed ρ L h := fun bd ap => by
  have hi := at_list hi'
  refine ⟨fun h0 => (by rw [hr] at h0; cases h0), ?_⟩
  rw [hr]
  intro j hj
  obtain rfl := List.mem_singleton.1 hj
  unfold aOpI
  simp only [hi]
  rw [if_neg (by rw [hw]; exact Bool.false_ne_true)]
  exact x bd ap
theorem opS_goal {D : Nat → Bool} {w : Wh} {i how : Nat} {k : St → HP} {h : H} (hm : may P ops w i how = true) (x : opS X ops st i (how' w how) k h) (ok : Ok β st ρ L) (hd : dIn ops D i = true)
    (hn : ∀ β' st' ρ' L' h', Tr β st β' st' → Ok β' st' ρ' L' → Agree D ρ ρ' → k st' h' → Goal P ops next (adv w i) ρ' L' h') : Goal P ops next w ρ L h := by
  unfold opS at x
  cases hi : ops.toList[i]? with
  | none => rw [hi] at x; exact x.elim
  | some o =>
    rw [hi] at x
    simp only at x
    have hd : dstIn D o = true := by unfold dIn at hd; rw [hi] at hd; exact hd
    cases hw : wantS ops st o with
    | none => rw [hw] at x; exact x.elim
    | some bw =>
    rw [hw] at x
    cases bw with
    | true =>
      simp only at x
      have hw := want_ok ok hw
      have eo := effOf_ok (P := P) (X := X) ok o
      generalize effOf P X st o = e at x eo
      cases w with
      | seq l =>
        cases l with
        | nil => cases hm
        | cons j r =>
          have : i = j := by rwa [may, Nat.beq_eq] at hm
          subst this
          exact sg hi hw (run_step ok eo x fun β' st' ρ' L' h' t o' a kk => hn β' st' ρ' L' h' t o' (agree_of hd a) kk)
      | any listed fuel =>
        cases fuel with
        | zero => cases hm
        | succ f =>
          match how, hm, x with
          | 3, hm, x =>
            have hr : Region.ready .any ops listed = [i] := eq_of_beq hm
            exact t1 i hi hr hw (run_step ok eo x fun β' st' ρ' L' h' t o' a kk => hn β' st' ρ' L' h' t o' (agree_of hd a) kk)
          | 0, hm, x =>
            simp only [may, Bool.and_eq_true] at hm
            obtain ⟨v, st', y, t, o', kk⟩ := run_y ok eo x
            exact tyy i _ v hi rfl hm.1.1.2 hm.1.2 hm.2 hw y (hn β st' _ L h t o' (agree_of hd fun t ht => put_other _ _ _ _ ht) kk)
          | 1, hm, x =>
            simp only [may, Bool.and_eq_true] at hm
            obtain ⟨v, st', y, t, o', kk⟩ := run_r ok eo x
            exact trr i _ v hi rfl hm.1.1.2 hm.1.2 hm.2 hw y (hn β st' _ L h t o' (agree_of hd fun t ht => put_other _ _ _ _ ht) kk)
          | 2, hm, x =>
            simp only [may, Bool.and_eq_true] at hm
            exact tq i hi hm.1.1.2 hm.1.2 hm.2 hw (run_step ok eo x fun β' st' ρ' L' h' t o' a kk => hn β' st' ρ' L' h' t o' (agree_of hd a) kk)
          | n + 4, hm, x =>
            simp only [may, Bool.and_eq_true] at hm
            have := Nat.le_of_ble_eq_true hm.1.1.1
            omega
      | part listed fuel c => cases hm
    | false =>
      simp only at x
      have hw := want_ok ok hw
      have ok' : Ok β (st.put o.dst (.v undef)) (put ρ o.dst undef) L := ok.put (v := undef) (s := .v undef) rfl _
      have ag : Agree D ρ (put ρ o.dst undef) := agree_of hd fun t ht => put_other _ _ _ _ ht
      have fin : k (st.put o.dst (.v undef)) h := by
        revert x
        generalize how' w how = q
        intro x
        match q, x with
        | 0, x => exact x
        | 1, x => exact x.elim
        | 2, x => exact x.elim
        | 3, x => exact x
        | n + 4, x => exact x.elim
      have g := hn β _ _ L h (.put ..) ok' ag fin
      cases w with
      | seq l =>
        cases l with
        | nil => cases hm
        | cons j r =>
          have : i = j := by rwa [may, Nat.beq_eq] at hm
          subst this
          exact sn hi hw g
      | any listed fuel =>
        cases fuel with
        | zero => cases hm
        | succ f =>
          match how, hm, x with
          | 3, hm, x =>
            have hr : Region.ready .any ops listed = [i] := eq_of_beq hm
            exact t1n hi hr hw g
          | 0, hm, x =>
            simp only [may, Bool.and_eq_true] at hm
            exact tnn i _ hi rfl hm.1.1.2 hm.1.2 hm.2 hw g
          | 1, hm, x => exact x.elim
          | 2, hm, x => exact x.elim
          | n + 4, hm, x => exact x.elim
      | part listed fuel c => cases hm
theorem one_goal {D : Nat → Bool} {f i : Nat} {listed : Array Bool} {k : St → HP} {h : H} (ok : Ok β st ρ L) (x : opS X ops st i 3 k h) (hd : dIn ops D i = true) (hn : ∀ β' st' ρ' L' h', Tr β st β' st' → Ok β' st' ρ' L' → Agree D ρ ρ' → k st' h' → bAny P ops next noP f (listed.setIfInBounds i true) ρ' L' h') (bd : Bdd (un L h)) (ap : Apart L h) :
    aOpI P ops noP i (aAny P ops next noP f (listed.setIfInBounds i true)) ρ L h := by
  unfold opS at x
  cases hi : ops.toList[i]? with
  | none => rw [hi] at x; exact x.elim
  | some o =>
    rw [hi] at x
    simp only at x
    have hd : dstIn D o = true := by unfold dIn at hd; rw [hi] at hd; exact hd
    have hi' := at_list hi
    unfold aOpI
    simp only [hi']
    cases hw : wantS ops st o with
    | none => rw [hw] at x; exact x.elim
    | some bw =>
    rw [hw] at x
    cases bw with
    | true =>
      simp only at x
      have hw := want_ok ok hw
      have eo := effOf_ok (P := P) (X := X) ok o
      generalize effOf P X st o = e at x eo
      rw [if_pos hw]
      exact aOp_inv bd ap (run_step (next := bAny P ops next noP f (listed.setIfInBounds i true)) ok eo x fun β' st' ρ' L' h' t o' a kk => hn β' st' ρ' L' h' t o' (agree_of hd a) kk)
    | false =>
      simp only at x
      have hw := want_ok ok hw
      rw [if_neg (by rw [hw]; exact Bool.false_ne_true)]
      exact hn β _ _ L h (.put ..) (ok.put (v := undef) (s := .v undef) rfl _) (agree_of hd fun t ht => put_other _ _ _ _ ht) x bd ap
theorem both_goal {D : Nat → Bool} {w : Wh} {i j : Nat} {k1 k2 : St → HP} {h : H} (hm : may2 ops w i j = true) (x1 : opS X ops st i 3 k1 h) (x2 : opS X ops st j 3 k2 h) (ok : Ok β st ρ L) (hd1 : dIn ops D i = true) (hd2 : dIn ops D j = true)
    (hn1 : ∀ β' st' ρ' L' h', Tr β st β' st' → Ok β' st' ρ' L' → Agree D ρ ρ' → k1 st' h' → Goal P ops next (adv w i) ρ' L' h')
    (hn2 : ∀ β' st' ρ' L' h', Tr β st β' st' → Ok β' st' ρ' L' → Agree D ρ ρ' → k2 st' h' → Goal P ops next (adv w j) ρ' L' h') : Goal P ops next w ρ L h := by
  cases w with
  | seq l => cases hm
  | any listed fuel =>
    cases fuel with
    | zero => cases hm
    | succ f =>
      have hr : Region.ready .any ops listed = [i, j] := eq_of_beq hm
      refine fun bd ap => ⟨fun h0 => (by rw [hr] at h0; cases h0), ?_⟩
      rw [hr]
      intro q hq
      rcases List.mem_cons.1 hq with rfl | hq
      · exact one_goal ok x1 hd1 hn1 bd ap
      · rw [List.mem_singleton] at hq
        subst hq
        exact one_goal ok x2 hd2 hn2 bd ap
  | part listed f c =>
    have hr : (Region.ready .any ops listed).filter (fun x => !memB c x) = [i, j] := eq_of_beq hm
    intro bd ap q hq hc
    have hq : q ∈ (Region.ready .any ops listed).filter (fun x => !memB c x) := List.mem_filter.2 ⟨hq, by rw [hc]; rfl⟩
    rw [hr] at hq
    rcases List.mem_cons.1 hq with rfl | hq
    · exact one_goal ok x1 hd1 hn1 bd ap
    · rw [List.mem_singleton] at hq
      subst hq
      exact one_goal ok x2 hd2 hn2 bd ap
theorem alt_goal {D : Nat → Bool} {w : Wh} {i : Nat} {k1 : St → HP} {h : H} (hm : mayA ops w = true) (x1 : opS X ops st i 3 k1 h) (ok : Ok β st ρ L) (hd1 : dIn ops D i = true)
    (hn1 : ∀ β' st' ρ' L' h', Tr β st β' st' → Ok β' st' ρ' L' → Agree D ρ ρ' → k1 st' h' → Goal P ops next (adv w i) ρ' L' h') (g : Goal P ops next (skip w i) ρ L h) : Goal P ops next w ρ L h := by
  cases w with
  | seq l => cases hm
  | any listed fuel =>
    cases fuel with
    | zero => cases hm
    | succ f =>
      have hr : (!(Region.ready .any ops listed).isEmpty) = true := hm
      refine fun bd ap => ⟨fun h0 => (by rw [h0] at hr; cases hr), fun q hq => ?_⟩
      by_cases e : q = i
      · subst e; exact one_goal ok x1 hd1 hn1 bd ap
      · exact g bd ap q hq (by simp only [memB, List.any_cons, List.any_nil, Bool.or_false]; exact Bool.eq_false_iff.2 fun z => e (by rw [Nat.beq_eq] at z; exact z))
  | part listed f c =>
    intro bd ap q hq hc
    by_cases e : q = i
    · subst e; exact one_goal ok x1 hd1 hn1 bd ap
    · refine g bd ap q hq ?_
      simp only [memB, List.any_cons] at hc ⊢
      rw [hc, Bool.or_false]
      exact Bool.eq_false_iff.2 fun z => e (by rw [Nat.beq_eq] at z; exact z)
end steps
def Same (s s' : SV) : Prop := ∃ v, s.is v ∧ s'.is v
theorem is_eq {s : SV} {v x : Value} {l : List Bx} {β : Nat → Nat} (h : s.is v) (r : Rel l β x s) : x = v := by
  cases s <;> first | (exact r.trans (Eq.symm h)) | exact h.elim
inductive SameL : List SV → List SV → Prop
  | nil : SameL [] []
  | cons {a b : SV} {l m : List SV} : Same a b → SameL l m → SameL (a :: l) (b :: m)
theorem decs_same : ∀ {A : List Ty} {l : List SV} {a : Den A}, decs A l = some a → SameL l (svsD A a) := by
  have one : ∀ {τ : Ty} {s : SV} {a : τ.T}, τ.dec s = some a → Same s (τ.sv a) := fun {τ s a} e => ⟨_, τ.law _ _ e, τ.svl a⟩
  intro A
  induction A with
  | nil =>
    intro l a e
    cases l with
    | nil => exact .nil
    | cons => cases e
  | cons t r ih =>
    intro l a e
    cases r with
    | nil =>
      match l, e with
      | [x], e => exact .cons (one e) .nil
      | x :: y :: r, e => cases e
    | cons u r =>
      match l, e with
      | x :: xs, e =>
        have e : (match t.dec x, decs (u :: r) xs with | some p, some q => some (p, q) | _, _ => none) = some a := e
        split at e
        · rename_i p q h1 h2
          cases e
          exact .cons (one h1) (ih h2)
        · cases e
theorem slotI_ok {st' : St} : ∀ {its : List It} {ss : List SV}, SameL (getI st' its) ss → ∀ (t : T) (u : Nat), (slotI its ss t).get u = .no ∨ Same (st'.σ u) ((slotI its ss t).get u) ∨ (slotI its ss t).get u = t.get u := by
  intro its
  induction its with
  | nil => intro ss _ t u; cases ss <;> exact .inr (.inr rfl)
  | cons i r ih =>
    intro ss h t u
    cases i with
    | slot a τ =>
      match ss, h with
      | s :: ss, .cons h1 h2 =>
        show (slotI r ss (T.set deep t a s)).get u = _ ∨ Same _ ((slotI r ss (T.set deep t a s)).get u) ∨ (slotI r ss (T.set deep t a s)).get u = t.get u
        rcases ih h2 (T.set deep t a s) u with q | q | q
        · exact .inl q
        · exact .inr (.inl q)
        · rw [q]
          rcases T.get_set deep t a s u with g | ⟨rfl, g⟩ | ⟨_, g⟩
          · exact .inl g
          · rw [g]; exact .inr (.inl h1)
          · exact .inr (.inr g)
    | cell a b τ =>
      match ss, h with
      | s :: ss, .cons _ h2 => exact ih h2 t u
theorem cellI_ok {st' : St} : ∀ {its : List It} {ss : List SV}, SameL (getI st' its) ss → ∀ {i j : Nat} {v : Value}, cellI its ss i j = some v → ∃ e, findB st'.bx i = some e ∧ e.cells[j]? = some (some v) := by
  intro its
  induction its with
  | nil => intro ss _ i j v h; cases ss <;> cases h
  | cons x r ih =>
    intro ss h i j v hv
    cases x with
    | slot t τ =>
      match ss, h with
      | s :: ss, .cons _ h2 => exact ih h2 hv
    | cell a b τ =>
      match ss, h with
      | s :: ss, .cons h1 h2 =>
        replace hv : (bif Nat.beq i a && Nat.beq j b then valOf? s else cellI r ss i j) = some v := hv
        cases hb : Nat.beq i a && Nat.beq j b <;> rw [hb] at hv
        · exact ih h2 hv
        · rw [Bool.and_eq_true, Nat.beq_eq, Nat.beq_eq] at hb
          obtain ⟨rfl, rfl⟩ := hb
          obtain ⟨w, a1, a2⟩ := h1
          have hw : v = w := by
            replace hv : valOf? s = some v := hv
            cases s <;> first | (cases hv; exact (Eq.symm a2)) | cases hv
          subst hw
          revert a1
          cases hf : findB st'.bx i with
          | none => exact fun a1 => a1.elim
          | some e =>
            simp only
            intro a1
            refine ⟨e, rfl, ?_⟩
            revert a1
            cases hc : e.cells[j]? with
            | none => exact fun a1 => a1.elim
            | some o => cases o with
              | none => exact fun a1 => a1.elim
              | some w => intro a1; have a1 : v = w := a1; rw [a1]
theorem encB_keys (its : List It) (M : List Nat) (ss : List SV) : ∀ l, (encB its M ss l).map Bx.key = l.map Bx.key := by
  intro l
  induction l with
  | nil => rfl
  | cons e r ih =>
    simp only [encB, List.map_cons, ih]
    cases memB M e.key <;> rfl
theorem encB_mem {its : List It} {M : List Nat} {ss : List SV} : ∀ {l : List Bx} {x : Bx}, x ∈ encB its M ss l → ∃ e, e ∈ l ∧ x = (match memB M e.key with | true => freshB its ss e true | false => e) := by
  intro l
  induction l with
  | nil => intro x h; cases h
  | cons e r ih =>
    intro x h
    rcases List.mem_cons.1 h with rfl | h
    · exact ⟨e, List.mem_cons_self .., rfl⟩
    · obtain ⟨e', h1, h2⟩ := ih h
      exact ⟨e', List.mem_cons_of_mem _ h1, h2⟩
theorem encB_has {its : List It} {M : List Nat} {ss : List SV} : ∀ {l : List Bx} {e : Bx}, e ∈ l → (match memB M e.key with | true => freshB its ss e true | false => e) ∈ encB its M ss l := by
  intro l
  induction l with
  | nil => intro x h; cases h
  | cons y r ih =>
    intro e h
    rcases List.mem_cons.1 h with rfl | h
    · exact List.mem_cons_self ..
    · exact List.mem_cons_of_mem _ (ih h)
theorem clean_keys : ∀ l, (clean l).map Bx.key = l.map Bx.key := by
  intro l
  induction l with
  | nil => rfl
  | cons e r ih => simp only [clean, List.map_cons, ih]
theorem clean_mem : ∀ {l : List Bx} {x : Bx}, x ∈ clean l → ∃ e, e ∈ l ∧ x = ⟨e.key, e.ty, e.cells, false⟩ := by
  intro l
  induction l with
  | nil => intro x h; cases h
  | cons e r ih =>
    intro x h
    rcases List.mem_cons.1 h with rfl | h
    · exact ⟨e, List.mem_cons_self .., rfl⟩
    · obtain ⟨e', h1, h2⟩ := ih h
      exact ⟨e', List.mem_cons_of_mem _ h1, h2⟩
theorem clean_has : ∀ {l : List Bx} {e : Bx}, e ∈ l → (⟨e.key, e.ty, e.cells, false⟩ : Bx) ∈ clean l := by
  intro l
  induction l with
  | nil => intro x h; cases h
  | cons y r ih =>
    intro e h
    rcases List.mem_cons.1 h with rfl | h
    · exact List.mem_cons_self ..
    · exact List.mem_cons_of_mem _ (ih h)
theorem backB_keys (l : List Bx) : ∀ m, (backB l m).map Bx.key = m.map Bx.key := by
  intro m
  induction m with
  | nil => rfl
  | cons e r ih => simp only [backB, List.map_cons, ih]
theorem backB_mem {l : List Bx} : ∀ {m : List Bx} {x : Bx}, x ∈ backB l m → ∃ e, e ∈ m ∧ x.key = e.key ∧ x.ty = e.ty ∧ x.cells = e.cells := by
  intro m
  induction m with
  | nil => intro x h; cases h
  | cons e r ih =>
    intro x h
    rcases List.mem_cons.1 h with rfl | h
    · exact ⟨e, List.mem_cons_self .., rfl, rfl, rfl⟩
    · obtain ⟨e', h1, h2⟩ := ih h
      exact ⟨e', List.mem_cons_of_mem _ h1, h2⟩
theorem backB_has {l : List Bx} : ∀ {m : List Bx} {e : Bx}, e ∈ m → ∃ x, x ∈ backB l m ∧ x.key = e.key ∧ x.ty = e.ty ∧ x.cells = e.cells ∧ (x.dirty = false → e.dirty = false ∧ ∀ y, findB l e.key = some y → y.dirty = false) := by
  intro m
  induction m with
  | nil => intro x h; cases h
  | cons y r ih =>
    intro e h
    rcases List.mem_cons.1 h with rfl | h
    · refine ⟨_, List.mem_cons_self .., rfl, rfl, rfl, fun d => ?_⟩
      rw [Bool.or_eq_false_iff] at d
      refine ⟨d.1, fun y hy => ?_⟩
      have := d.2
      rw [hy] at this
      exact this
    · obtain ⟨x, h1, h2⟩ := ih h
      exact ⟨x, List.mem_cons_of_mem _ h1, h2⟩
theorem stayed_spec {M : List Nat} {l' : List Bx} : ∀ {l : List Bx}, stayed M l' l = true → ∀ e, e ∈ l → memB M e.key = true ∨ ∃ x, findB l' e.key = some x ∧ x.dirty = false := by
  intro l
  induction l with
  | nil => intro _ e h; cases h
  | cons y r ih =>
    intro h e he
    simp only [stayed, Bool.and_eq_true, Bool.or_eq_true] at h
    rcases List.mem_cons.1 he with rfl | he
    · refine h.1.imp id fun q => ?_
      cases hf : findB l' e.key with
      | none => rw [hf] at q; cases q
      | some x => rw [hf] at q; exact ⟨x, rfl, by simpa using q⟩
    · exact ih h.2 e he
section meets
variable {β : Nat → Nat} {st : St} {ρ : Env} {L : H}
theorem Ok.marks {bx' : List Bx} (k : Ok β st ρ L) (hk : bx'.map Bx.key = st.bx.map Bx.key) (hm : ∀ x, x ∈ bx' → ∃ e, e ∈ st.bx ∧ x.key = e.key ∧ x.ty = e.ty ∧ x.cells = e.cells) : Ok β ⟨st.tr, bx'⟩ ρ L := by
  have ik : ∀ i, InK bx' i ↔ InK st.bx i := fun i => ink_keys hk
  refine ⟨fun t => ?_, fun x hx => ?_, fun i j hi hj => k.inj i j ((ik i).1 hi) ((ik j).1 hj), by show (bx'.map Bx.key).Nodup; rw [hk]; exact k.nd⟩
  · have := k.slots t
    revert this
    show Rel st.bx β (ρ t) (st.σ t) → Rel bx' β (ρ t) (st.σ t)
    cases st.σ t with
    | box j off => exact fun q m => q ((ik j).1 m)
    | lit j n => exact fun q m => q ((ik j).1 m)
    | _ => exact id
  · obtain ⟨e, he, h1, h2, h3⟩ := hm x hx
    obtain ⟨c, hc, kn⟩ := k.boxes e he
    exact ⟨c, by rw [h1, h2]; exact hc, by rw [h3]; exact kn⟩
theorem Ok.inS (k : Ok β st ρ L) : Ok β (K.inS st) ρ L := k.marks (clean_keys _) fun x hx => by
  obtain ⟨e, he, rfl⟩ := clean_mem hx
  exact ⟨e, he, rfl, rfl, rfl⟩
theorem Ok.backS {st0 : St} (k : Ok β st ρ L) : Ok β (K.backS st0 st) ρ L := k.marks (backB_keys _ _) fun _ hx => backB_mem hx
theorem ink_clean {l : List Bx} {i : Nat} : InK (clean l) i ↔ InK l i := ink_keys (clean_keys l)
theorem Tr.back {β' : Nat → Nat} {st' : St} (nd : (st.bx.map Bx.key).Nodup) (t : Tr β (K.inS st) β' st') : Tr β st β' (K.backS st st') := ⟨fun i h => t.agree i (ink_clean.2 h), fun e he => by
  obtain ⟨e', h1, h2, h3, h4, h5⟩ := t.has _ (clean_has he)
  obtain ⟨x, g1, g2, g3, g4, g5⟩ := backB_has (l := st.bx) h1
  refine ⟨x, g1, g2.trans h2, g3.trans h3, by rw [g4]; exact h4, fun d => ?_⟩
  obtain ⟨d1, d2⟩ := g5 d
  have h2 : e'.key = e.key := h2
  exact ⟨d2 e (by rw [h2]; exact findB_mem nd he), g4.trans (h5 d1).2⟩⟩
theorem meet_ok {β' : Nat → Nat} {st' : St} {ρ' : Env} {L' : H} {its : List It} {D : Nat → Bool} {M : List Nat} {s : DenI its} (ok : Ok β st ρ L) (ok' : Ok β' st' ρ' L') (ag : ∀ i, InK st.bx i → β' i = β i)
    (has : ∀ e, e ∈ st.bx → ∃ e', e' ∈ st'.bx ∧ e'.key = e.key ∧ e'.ty = e.ty ∧ e'.cells.length = e.cells.length ∧ (e'.dirty = false → e'.cells = e.cells)) (agD : Agree D ρ ρ')
    (hs : decs (tysI its) (getI st' its) = some s) (hst : stayed M st'.bx st.bx = true) : Ok β' (encS its D M s st) ρ' L' ∧ Tr β st β' (encS its D M s st) := by
  have sm := decs_same hs
  have ik : ∀ i, InK (encB its M (svsD (tysI its) s) st.bx) i ↔ InK st.bx i := fun i => ink_keys (encB_keys _ _ _ _)
  have ik' : ∀ i, InK st.bx i → InK st'.bx i := fun i ⟨e, he, hk⟩ => by
    obtain ⟨e', h1, h2, _⟩ := has e he
    exact ⟨e', h1, h2.trans hk⟩
  refine ⟨⟨fun u => ?_, fun x hx => ?_, fun i j hi hj => ok'.inj i j (ik' i ((ik i).1 hi)) (ik' j ((ik j).1 hj)), by show ((encB _ _ _ _).map Bx.key).Nodup; rw [encB_keys]; exact ok.nd⟩, ⟨ag, fun e he => ?_⟩⟩
  · show Rel (encB _ _ _ _) β' (ρ' u) ((slotI its (svsD (tysI its) s) (st.tr.keep D)).get u)
    rcases slotI_ok sm (st.tr.keep D) u with q | ⟨v, q1, q2⟩ | q
    · rw [q]; trivial
    · have : ρ' u = v := is_eq q1 (ok'.slots u)
      rw [this]; exact q2.rel _ _
    · rw [q, T.get_keep]
      cases hD : D u with
      | true => rw [if_pos rfl]; trivial
      | false =>
        rw [if_neg Bool.false_ne_true, agD u hD]
        have := ok.slots u
        revert this
        show Rel st.bx β (ρ u) (st.σ u) → Rel _ β' (ρ u) (st.σ u)
        cases st.σ u with
        | box j off => intro q m; rw [ag j ((ik j).1 m)]; exact q ((ik j).1 m)
        | lit j n => intro q m; rw [ag j ((ik j).1 m)]; exact q ((ik j).1 m)
        | _ => exact id
  · obtain ⟨e, he, rfl⟩ := encB_mem hx
    obtain ⟨e', h1, h2, h3, h4, h5⟩ := has e he
    obtain ⟨c, hc, kn⟩ := ok'.boxes e' h1
    cases hM : memB M e.key with
    | true =>
      refine ⟨c, by show L' (β' e.key) = some (.cells c e.ty (0, 0)); rw [← h2, ← h3]; exact hc, ?_, fun j v hj => ?_⟩
      · show c.size = ((List.range e.cells.length).map _).length
        rw [List.length_map, List.length_range, ← h4]; exact kn.1
      · replace hj : ((List.range e.cells.length).map fun j => cellI its (svsD (tysI its) s) e.key j)[j]? = some (some v) := hj
        rw [List.getElem?_map] at hj
        cases hr : (List.range e.cells.length)[j]? with
        | none => rw [hr] at hj; cases hj
        | some q =>
          rw [hr] at hj
          have hq : q = j := by
            rw [List.getElem?_range] at hr
            · exact (Option.some.inj hr).symm
            · have := lt_of_get hr
              simpa using this
          subst hq
          replace hj : some (cellI its (svsD (tysI its) s) e.key q) = some (some v) := hj
          obtain ⟨e2, f1, f2⟩ := cellI_ok sm (Option.some.inj hj)
          obtain ⟨f3, f4⟩ := findB_some f1
          have : e2 = e' := key_uniq ok'.nd f3 h1 (f4.trans h2.symm)
          subst this
          exact kn.2 _ _ f2
    | false =>
      show BoxOk β' L' e
      rcases stayed_spec hst e he with q | ⟨x, q1, q2⟩
      · rw [hM] at q; cases q
      · obtain ⟨f3, f4⟩ := findB_some q1
        have : x = e' := key_uniq ok'.nd f3 h1 (f4.trans h2.symm)
        subst this
        refine ⟨c, by rw [← h2, ← h3]; exact hc, by rw [← h5 q2]; exact kn⟩
  · refine ⟨_, encB_has he, ?_⟩
    cases hM : memB M e.key with
    | true => exact ⟨rfl, rfl, by show ((List.range e.cells.length).map _).length = _; rw [List.length_map, List.length_range], fun d => by cases d⟩
    | false => exact ⟨rfl, rfl, rfl, fun d => ⟨d, rfl⟩⟩
theorem Tr.cleaned {β' : Nat → Nat} {st' : St} (t : Tr β (K.inS st) β' st') : ∀ e, e ∈ st.bx → ∃ e', e' ∈ st'.bx ∧ e'.key = e.key ∧ e'.ty = e.ty ∧ e'.cells.length = e.cells.length ∧ (e'.dirty = false → e'.cells = e.cells) := fun e he => by
  obtain ⟨e', h1, h2, h3, h4, h5⟩ := t.has _ (clean_has he)
  exact ⟨e', h1, h2, h3, h4, fun d => (h5 d).2⟩
theorem Tr.cleaned' {β' : Nat → Nat} {st' : St} (t : Tr β st β' st') : ∀ e, e ∈ st.bx → ∃ e', e' ∈ st'.bx ∧ e'.key = e.key ∧ e'.ty = e.ty ∧ e'.cells.length = e.cells.length ∧ (e'.dirty = false → e'.cells = e.cells) := fun e he => by
  obtain ⟨e', h1, h2, h3, h4, h5⟩ := t.has _ he
  exact ⟨e', h1, h2, h3, h4, fun d => (h5 d).2⟩
theorem stayed_clean (M : List Nat) (nd : (st.bx.map Bx.key).Nodup) : stayed M (clean st.bx) (clean st.bx) = true := by
  have nd' : ((clean st.bx).map Bx.key).Nodup := by rw [clean_keys]; exact nd
  have key : ∀ l, (∀ e, e ∈ l → e ∈ clean st.bx) → stayed M (clean st.bx) l = true := by
    intro l
    induction l with
    | nil => intro _; rfl
    | cons e r ih =>
      intro h
      have he := h e (List.mem_cons_self ..)
      have h1 := findB_mem nd' he
      obtain ⟨x, _, hx⟩ := clean_mem he
      have hd : e.dirty = false := by rw [hx]
      simp only [stayed, h1, hd, ih fun e he => h e (List.mem_cons_of_mem _ he)]
      simp
  exact key _ fun e he => he
end meets
theorem tr_bx {β β' : Nat → Nat} {st : St} {σ' : T} (ag : ∀ i, InK st.bx i → β' i = β i) : Tr β st β' ⟨σ', st.bx⟩ := ⟨ag, fun e he => ⟨e, he, rfl, rfl, rfl, fun d => ⟨d, rfl⟩⟩⟩
theorem meet_elim {its : List It} {M : List Nat} {l : List Bx} {j : DenI its → HP} {st' : St} {h : H} (x : meet its M l j st' h) : ∃ s, decs (tysI its) (getI st' its) = some s ∧ stayed M st'.bx l = true ∧ j s h := by
  unfold meet at x
  cases h1 : decs (tysI its) (getI st' its) with
  | none => rw [h1] at x; exact x.elim
  | some s =>
    rw [h1] at x
    cases h2 : stayed M st'.bx l with
    | false => rw [h2] at x; exact x.elim
    | true => rw [h2] at x; exact ⟨s, rfl, rfl, x⟩
section plans
variable {P : Program} {X : Cx P} {ops : Array Oper} {next : Post}
theorem same_eq {a b : Wh} (h : a.same b = true) : a = b := by
  unfold Wh.same at h
  split at h
  · rw [Bool.and_eq_true] at h; rw [eq_of_beq h.2]
  · rw [Bool.and_eq_true, Nat.beq_eq] at h
    rw [h.1, Array.toList_inj.1 (eq_of_beq h.2)]
  · cases h
theorem dstIn_and {D D' : Nat → Bool} {o : Oper} (h : dstIn D o = true) (h' : dstIn D' o = true) : dstIn (fun t => D t && D' t) o = true := by
  unfold dstIn at *
  split <;> rename_i hd
  · rw [hd] at h h'; simp only at h h' ⊢; rw [h, h']; rfl
  · rfl
theorem dIn_and {D D' : Nat → Bool} {i : Nat} (h : dIn ops D i = true) (h' : dIn ops D' i = true) : dIn ops (fun t => D t && D' t) i = true := by
  unfold dIn at *
  split <;> rename_i hd
  · rw [hd] at h h'; exact dstIn_and h h'
  · rfl
theorem inD_and {D D' : Nat → Bool} : ∀ {p : Plan}, inD ops D p = true → inD ops D' p = true → inD ops (fun t => D t && D' t) p = true := by
  intro p
  induction p with
  | nil => exact fun _ _ => rfl
  | run l p ih =>
    intro h h'
    simp only [inD, Bool.and_eq_true, List.all_eq_true] at h h' ⊢
    exact ⟨fun x hx => dIn_and (h.1 x hx) (h'.1 x hx), ih h.2 h'.2⟩
  | split g p q ihp ihq =>
    intro h h'
    simp only [inD, Bool.and_eq_true] at h h' ⊢
    exact ⟨ihp h.1 h'.1, ihq h.2 h'.2⟩
  | join its D M p q ihp ihq =>
    intro h h'
    simp only [inD, Bool.and_eq_true] at h h' ⊢
    exact ⟨ihp h.1 h'.1, ihq h.2 h'.2⟩
  | sel g d D p p' q ihp ihp' ihq =>
    intro h h'
    simp only [inD, Bool.and_eq_true] at h h' ⊢
    exact ⟨⟨ihp h.1.1 h'.1.1, ihp' h.1.2 h'.1.2⟩, ihq h.2 h'.2⟩
  | both i j p q ihp ihq =>
    intro h h'
    simp only [inD, Bool.and_eq_true] at h h' ⊢
    exact ⟨⟨⟨dIn_and h.1.1.1 h'.1.1.1, dIn_and h.1.1.2 h'.1.1.2⟩, ihp h.1.2 h'.1.2⟩, ihq h.2 h'.2⟩
  | alt i p q ihp ihq =>
    intro h h'
    simp only [inD, Bool.and_eq_true] at h h' ⊢
    exact ⟨⟨dIn_and h.1.1 h'.1.1, ihp h.1.2 h'.1.2⟩, ihq h.2 h'.2⟩
theorem wpL_sound {D : Nat → Bool} : ∀ (l : List Nat) {w : Wh} {st : St} {k : Wh → St → HP} {h : H} {β : Nat → Nat} {ρ : Env} {L : H}, wpL X ops l w st k h → Ok β st ρ L → (l.all fun n => dIn ops D (n / 4)) = true →
    (∀ w' st' β' ρ' L' h', Tr β st β' st' → Ok β' st' ρ' L' → Agree D ρ ρ' → k w' st' h' → Goal P ops next w' ρ' L' h') → Goal P ops next w ρ L h := by
  intro l
  induction l with
  | nil => exact fun x ok _ hn => hn _ _ _ _ _ _ (Tr.refl _ _) ok (Agree.refl _ _) x
  | cons n r ih =>
    intro w st k h β ρ L x ok hd hn
    rw [List.all_cons, Bool.and_eq_true] at hd
    simp only [wpL] at x
    cases hm : may P ops w (n / 4) (n % 4) with
    | false => rw [hm] at x; exact x.elim
    | true =>
      rw [hm] at x
      exact opS_goal hm x ok hd.1 fun β' st' ρ' L' h' t ok' a kk => ih kk ok' hd.2 fun w2 st2 β2 ρ2 L2 h2 t2 ok2 a2 k2 => hn _ _ _ _ _ _ (t.trans t2) ok2 (a.trans a2) k2
theorem opP_opS {st st' : St} {i how : Nat} {k : St → HP} {h : H} (x : opP X ops st i how = some st') (kk : k st' h) : opS X ops st i how k h := by
  unfold opP at x
  unfold opS
  cases hi : ops.toList[i]? with
  | none => rw [hi] at x; cases x
  | some o =>
    rw [hi] at x
    simp only at x ⊢
    cases hw : wantS ops st o with
    | none => rw [hw] at x; cases x
    | some b =>
      rw [hw] at x
      cases b with
      | true =>
        simp only at x ⊢
        cases he : effOf P X st o with
        | ret s => rw [he] at x; cases x; exact kk
        | own s =>
          rw [he] at x
          match how, x with
          | 0, x => cases x
          | n + 1, x => cases x; exact kk
        | _ => rw [he] at x; cases x
      | false =>
        simp only at x ⊢
        match how, x with
        | 0, x => cases x; exact kk
        | 1, x => cases x
        | 2, x => cases x
        | 3, x => cases x; exact kk
        | n + 4, x => cases x
theorem opP_bx {st st' : St} {i how : Nat} (x : opP X ops st i how = some st') : st'.bx = st.bx := by
  unfold opP at x
  cases hi : ops.toList[i]? with
  | none => rw [hi] at x; cases x
  | some o =>
    rw [hi] at x
    simp only at x
    cases hw : wantS ops st o with
    | none => rw [hw] at x; cases x
    | some b =>
      rw [hw] at x
      cases b with
      | true =>
        simp only at x
        cases he : effOf P X st o with
        | ret s => rw [he] at x; cases x; exact put_bx ..
        | own s =>
          rw [he] at x
          match how, x with
          | 0, x => cases x
          | n + 1, x => cases x; exact put_bx ..
        | _ => rw [he] at x; cases x
      | false =>
        simp only at x
        match how, x with
        | 0, x => cases x; exact put_bx ..
        | 1, x => cases x
        | 2, x => cases x
        | 3, x => cases x; exact put_bx ..
        | n + 4, x => cases x
theorem prL_wpL : ∀ (l : List Nat) {w w' : Wh} {st st' : St} {k : Wh → St → HP} {h : H}, prL X ops l w st = some (w', st') → k w' st' h → wpL X ops l w st k h ∧ st'.bx = st.bx := by
  intro l
  induction l with
  | nil => intro w w' st st' k h x kk; cases x; exact ⟨kk, rfl⟩
  | cons n r ih =>
    intro w w' st st' k h x kk
    simp only [prL] at x
    simp only [wpL]
    cases hm : may P ops w (n / 4) (n % 4) with
    | false => rw [hm] at x; cases x
    | true =>
      rw [hm] at x
      simp only at x ⊢
      cases ho : opP X ops st (n / 4) (how' w (n % 4)) with
      | none => rw [ho] at x; cases x
      | some s1 =>
        rw [ho] at x
        obtain ⟨q1, q2⟩ := ih (k := k) x kk
        exact ⟨opP_opS ho q1, q2.trans (opP_bx ho)⟩
theorem selS_spec {g d : Nat} {D : Nat → Bool} {st st' : St} {a b : St → Option (Wh × St)} {w' : Wh} (h : selS g d D st a b = some (w', st')) :
    ∃ c s1 s2 x y, st.σ g = .v (.bool c) ∧ a (st.put (some g) (.v (.bool true))) = some (w', s1) ∧ b (st.put (some g) (.v (.bool false))) = some (w', s2) ∧ s1.σ d = .v (.bool x) ∧ s2.σ d = .v (.bool y) ∧
      st' = ⟨T.set deep (st.tr.keep D) d (.v (.bool (bif c then x else y))), st.bx⟩ := by
  unfold selS at h
  split at h
  · rename_i c hc
    split at h
    · rename_i w1 s1 w2 s2 h1 h2
      split at h
      · rename_i x y hs hx hy
        have := same_eq hs
        subst this
        cases h
        exact ⟨c, s1, s2, x, y, hc, h1, h2, hx, hy, rfl⟩
      · cases h
    · cases h
  · cases h
theorem pr_wpP : ∀ (p : Plan) {w w' : Wh} {st st' : St} {k : Wh → St → HP} {h : H}, pr X ops p w st = some (w', st') → k w' st' h → wpP X ops p w st k h ∧ st'.bx = st.bx := by
  intro p
  induction p with
  | nil => intro w w' st st' k h x kk; cases x; exact ⟨kk, rfl⟩
  | run l p ih =>
    intro w w' st st' k h x kk
    simp only [pr] at x
    split at x
    · rename_i w1 s1 h1
      obtain ⟨q1, q2⟩ := ih (k := k) x kk
      obtain ⟨r1, r2⟩ := prL_wpL (k := fun w' st' => wpP X ops p w' st' k) l h1 q1
      exact ⟨r1, q2.trans r2⟩
    · cases x
  | sel g d D p p' q ihp ihp' ihq =>
    intro w w' st st' k h x kk
    simp only [pr] at x
    simp only [wpP]
    cases hi : inD ops (Nat.testBit D) p && inD ops (Nat.testBit D) p' with
    | false => rw [hi] at x; cases x
    | true =>
      rw [hi] at x
      simp only at x ⊢
      cases hs : selS g d (Nat.testBit D) st (pr X ops p w) (pr X ops p' w) with
      | none => rw [hs] at x; cases x
      | some z =>
        obtain ⟨w1, s1⟩ := z
        rw [hs] at x
        obtain ⟨q1, q2⟩ := ihq (k := k) x kk
        refine ⟨q1, q2.trans ?_⟩
        obtain ⟨c, _, _, _, _, _, _, _, _, _, rfl⟩ := selS_spec hs
        rfl
  | _ => intro w w' st st' k h x kk; cases x
theorem lit_ok {β : Nat → Nat} {st : St} {ρ : Env} {L : H} {g : Nat} {c : Bool} (ok : Ok β st ρ L) (h : st.σ g = .v (.bool c)) : Ok β (st.put (some g) (.v (.bool c))) ρ L := by
  refine ⟨fun t => ?_, ok.boxes, ok.inj, ok.nd⟩
  show Rel st.bx β (ρ t) ((T.set deep st.tr g (.v (.bool c))).get t)
  rcases T.get_set deep st.tr g (.v (.bool c)) t with q | ⟨rfl, q⟩ | ⟨_, q⟩
  · rw [q]; trivial
  · rw [q]
    have := ok.slots t
    rw [h] at this; exact this
  · rw [q]; exact ok.slots t
theorem wpP_sound : ∀ (p : Plan) {D : Nat → Bool} {w : Wh} {st : St} {k : Wh → St → HP} {h : H} {β : Nat → Nat} {ρ : Env} {L : H}, inD ops D p = true → wpP X ops p w st k h → Ok β st ρ L →
    (∀ w' st' β' ρ' L' h', Tr β st β' st' → Ok β' st' ρ' L' → Agree D ρ ρ' → k w' st' h' → Goal P ops next w' ρ' L' h') → Goal P ops next w ρ L h := by
  intro p
  induction p with
  | nil => exact fun {D w st k h β ρ L} _ x ok hn => hn _ _ _ _ _ _ (Tr.refl _ _) ok (Agree.refl _ _) x
  | run l p ih =>
    intro D w st k h β ρ L hd x ok hn
    simp only [inD, Bool.and_eq_true] at hd
    exact wpL_sound l x ok hd.1 fun w' st' β' ρ' L' h' t ok' a kk => ih hd.2 kk ok' fun w2 st2 β2 ρ2 L2 h2 t2 ok2 a2 k2 => hn _ _ _ _ _ _ (t.trans t2) ok2 (a.trans a2) k2
  | split g p q ihp ihq =>
    intro D w st k h β ρ L hd x ok hn
    simp only [inD, Bool.and_eq_true] at hd
    simp only [wpP] at x
    cases hc : st.σ g with
    | v z =>
      cases z with
      | bool c =>
        rw [hc] at x
        cases c with
        | true => exact ihp hd.1 (x.1 rfl) (lit_ok ok hc) fun w2 st2 β2 ρ2 L2 h2 t2 ok2 a2 k2 => hn _ _ _ _ _ _ ((Tr.put β st _ _).trans t2) ok2 a2 k2
        | false => exact ihq hd.2 (x.2 rfl) (lit_ok ok hc) fun w2 st2 β2 ρ2 L2 h2 t2 ok2 a2 k2 => hn _ _ _ _ _ _ ((Tr.put β st _ _).trans t2) ok2 a2 k2
      | _ => rw [hc] at x; exact x.elim
    | _ => rw [hc] at x; exact x.elim
  | join its Dm M p q ihp ihq =>
    intro D w st k h β ρ L hd x ok hn
    simp only [inD, Bool.and_eq_true] at hd
    simp only [wpP] at x
    cases hi : inD ops (Nat.testBit Dm) p with
    | false => rw [hi] at x; exact x.elim
    | true =>
      rw [hi] at x
      refine ihp (inD_and hd.1 hi) x ok.inS fun w' st' β' ρ' L' h' t ok' a kk => ?_
      have a1 : Agree D ρ ρ' := fun t ht => a t (by show (D t && _) = false; rw [ht]; rfl)
      have a2 : Agree (Nat.testBit Dm) ρ ρ' := fun t ht => a t (by show (D t && Nat.testBit Dm t) = false; rw [ht, Bool.and_false])
      cases hs : w'.same (aft p w) with
      | false => rw [hs] at kk; exact kk.elim
      | true =>
        rw [hs] at kk
        have := same_eq hs
        subst this
        obtain ⟨s, h1, h2, kk⟩ := meet_elim kk
        · obtain ⟨m1, m2⟩ := meet_ok ok ok' (fun i hi => t.agree i (ink_clean.2 hi)) t.cleaned a2 h1 h2
          exact ihq hd.2 kk m1 fun w2 st2 β2 ρ2 L2 h2 t2 ok2 a3 k2 => hn _ _ _ _ _ _ (m2.trans t2) ok2 (a1.trans a3) k2
  | sel g d Dm p p' q ihp ihp' ihq =>
    intro D w st k h β ρ L hd x ok hn
    simp only [inD, Bool.and_eq_true] at hd
    simp only [wpP] at x
    cases hi : inD ops (Nat.testBit Dm) p && inD ops (Nat.testBit Dm) p' with
    | false => rw [hi] at x; exact x.elim
    | true =>
      rw [hi] at x
      rw [Bool.and_eq_true] at hi
      simp only at x
      cases hs : selS g d (Nat.testBit Dm) st (pr X ops p w) (pr X ops p' w) with
      | none => rw [hs] at x; exact x.elim
      | some z =>
        obtain ⟨w1, s1⟩ := z
        rw [hs] at x
        simp only at x
        obtain ⟨c, sa, sb, u, v, hc, ha, hb, hu, hv, rfl⟩ := selS_spec hs
        have fin : ∀ (b : Bool), c = b → ∀ (s' : St) (z : Bool), s'.bx = st.bx → s'.σ d = .v (.bool z) → z = (bif c then u else v) → ∀ (r : Plan), (∀ {D : Nat → Bool} {w : Wh} {st : St} {k : Wh → St → HP} {h : H} {β : Nat → Nat} {ρ : Env} {L : H}, inD ops D r = true → wpP X ops r w st k h → Ok β st ρ L →
            (∀ w' st' β' ρ' L' h', Tr β st β' st' → Ok β' st' ρ' L' → Agree D ρ ρ' → k w' st' h' → Goal P ops next w' ρ' L' h') → Goal P ops next w ρ L h) → inD ops D r = true → inD ops (Nat.testBit Dm) r = true →
            wpP X ops r w (st.put (some g) (.v (.bool b))) (fun w' st' h' => w' = w1 ∧ st' = s' ∧ h' = h) h → Goal P ops next w ρ L h := fun b hcb s' z hbx hz hze r ih hr1 hr2 hw => by
          subst hcb
          refine ih (inD_and hr1 hr2) hw (lit_ok ok hc) fun w' st' β' ρ' L' h' t ok' a kk => ?_
          obtain ⟨rfl, rfl, rfl⟩ := kk
          have a1 : Agree D ρ ρ' := fun t ht => a t (by show (D t && _) = false; rw [ht]; rfl)
          have a2 : Agree (Nat.testBit Dm) ρ ρ' := fun t ht => a t (by show (D t && Nat.testBit Dm t) = false; rw [ht, Bool.and_false])
          have tt : Tr β st β' st' := (Tr.put β st _ _).trans t
          have bx' : st'.bx = st.bx := hbx
          refine ihq hd.2 x (β := β') (ρ := ρ') (L := L') ⟨fun t => ?_, ?_, ?_, ?_⟩ fun w2 st2 β2 ρ2 L2 h2 t2 ok2 a3 k2 => hn _ _ _ _ _ _ ((tr_bx tt.agree).trans t2) ok2 (a1.trans a3) k2
          · show Rel st.bx β' (ρ' t) ((T.set deep (st.tr.keep (Nat.testBit Dm)) d (.v (.bool (bif c then u else v)))).get t)
            rcases T.get_set deep (st.tr.keep (Nat.testBit Dm)) d (.v (.bool (bif c then u else v))) t with q | ⟨rfl, q⟩ | ⟨_, q⟩
            · rw [q]; trivial
            · rw [q, ← hze]
              have := ok'.slots t
              rw [hz] at this
              exact this
            · rw [q, T.get_keep]
              cases hD : Nat.testBit Dm t with
              | true => rw [if_pos rfl]; trivial
              | false =>
                rw [if_neg Bool.false_ne_true, a2 t hD]
                have := ok.slots t
                revert this
                show Rel st.bx β (ρ t) (st.σ t) → Rel st.bx β' (ρ t) (st.σ t)
                cases st.σ t with
                | box j off => intro q m; rw [tt.agree j m]; exact q m
                | lit j n => intro q m; rw [tt.agree j m]; exact q m
                | _ => exact id
          · show ∀ e, e ∈ st.bx → _; rw [← bx']; exact ok'.boxes
          · show ∀ i j, InK st.bx i → InK st.bx j → _; rw [← bx']; exact ok'.inj
          · show (st.bx.map Bx.key).Nodup; exact ok.nd
        cases hcc : c with
        | true =>
          obtain ⟨q1, q2⟩ := pr_wpP p (k := fun w' st' h' => w' = w1 ∧ st' = sa ∧ h' = h) ha ⟨rfl, rfl, rfl⟩
          exact fin true hcc sa u q2 hu (by rw [hcc]; rfl) p ihp hd.1.1 hi.1 q1
        | false =>
          obtain ⟨q1, q2⟩ := pr_wpP p' (k := fun w' st' h' => w' = w1 ∧ st' = sb ∧ h' = h) hb ⟨rfl, rfl, rfl⟩
          exact fin false hcc sb v q2 hv (by rw [hcc]; rfl) p' ihp' hd.1.2 hi.2 q1
  | both i j p q ihp ihq =>
    intro D w st k h β ρ L hd x ok hn
    simp only [inD, Bool.and_eq_true] at hd
    simp only [wpP] at x
    cases hm : may2 ops w i j with
    | false => rw [hm] at x; exact x.elim
    | true =>
      rw [hm] at x
      exact both_goal hm x.1 x.2 ok hd.1.1.1 hd.1.1.2
        (fun β' st' ρ' L' h' t ok' a kk => ihp hd.1.2 kk ok' fun w2 st2 β2 ρ2 L2 h2 t2 ok2 a2 k2 => hn _ _ _ _ _ _ (t.trans t2) ok2 (a.trans a2) k2)
        (fun β' st' ρ' L' h' t ok' a kk => ihq hd.2 kk ok' fun w2 st2 β2 ρ2 L2 h2 t2 ok2 a2 k2 => hn _ _ _ _ _ _ (t.trans t2) ok2 (a.trans a2) k2)
  | alt i p q ihp ihq =>
    intro D w st k h β ρ L hd x ok hn
    simp only [inD, Bool.and_eq_true] at hd
    simp only [wpP] at x
    cases hm : mayA ops w with
    | false => rw [hm] at x; exact x.elim
    | true =>
      rw [hm] at x
      exact alt_goal hm x.1 ok hd.1.1
        (fun β' st' ρ' L' h' t ok' a kk => ihp hd.1.2 kk ok' fun w2 st2 β2 ρ2 L2 h2 t2 ok2 a2 k2 => hn _ _ _ _ _ _ (t.trans t2) ok2 (a.trans a2) k2)
        (ihq hd.2 x.2 ok hn)
theorem inD_all : ∀ (p : Plan), inD ops (fun _ => true) p = true := by
  have one : ∀ i, dIn ops (fun _ => true) i = true := fun i => by
    unfold dIn dstIn
    split
    · split <;> rfl
    · rfl
  intro p
  induction p with
  | nil => rfl
  | run l p ih => simp only [inD, ih, Bool.and_true, List.all_eq_true]; exact fun x _ => one _
  | split g p q ihp ihq => simp only [inD, ihp, ihq]; rfl
  | join its D M p q ihp ihq => simp only [inD, ihp, ihq]; rfl
  | sel g d D p p' q ihp ihp' ihq => simp only [inD, ihp, ihp', ihq]; rfl
  | both i j p q ihp ihq => simp only [inD, ihp, ihq, one]; rfl
  | alt i p q ihp ihq => simp only [inD, ihp, ihq, one]; rfl
end plans
theorem decs_v : ∀ {A : List Ty} {l : List Value} {a : Den A}, decs A (l.map SV.v) = some a → l = valsD A a := by
  have one : ∀ {τ : Ty} {v : Value} {a : τ.T}, τ.dec (.v v) = some a → v = τ.val a := fun {τ v a} e => (τ.law _ _ e).symm
  intro A
  induction A with
  | nil =>
    intro l a e
    cases l with
    | nil => rfl
    | cons => cases e
  | cons t r ih =>
    intro l a e
    cases r with
    | nil =>
      match l, e with
      | [x], e => show [x] = [t.val a]; rw [one e]
      | x :: y :: r, e => cases e
    | cons u r =>
      match l, e with
      | x :: xs, e =>
        have e : (match t.dec (.v x), decs (u :: r) (xs.map SV.v) with | some p, some q => some (p, q) | _, _ => none) = some a := e
        split at e
        · rename_i p q h1 h2
          cases e
          show x :: xs = t.val p :: valsD (u :: r) q
          rw [one h1, ← ih h2]
        · cases e
section code
variable {P : Program} {X : Cx P} {n : Nat}
def PostOf (β : Nat → Nat) (st : St) (Q : Exit → St → HP) : Exit → Post := fun e ρ' L' h' => ∃ β' st', Tr β st β' st' ∧ Ok β' st' ρ' L' ∧ Q e st' h'
theorem fin_goal {ops : Array Oper} {next : Post} {w : Wh} {ρ : Env} {L h : H} (hf : fin ops w = true) (k : next ρ L h) : Goal P ops next w ρ L h := by
  cases w with
  | seq l =>
    have : l = [] := List.isEmpty_iff.1 hf
    subst this; exact k
  | any listed f => exact td (List.isEmpty_iff.1 hf) k
  | part listed f c => cases hf
theorem setA_ok {β : Nat → Nat} {L : H} : ∀ {A : List Ty} (x : Den A) (ps : List Tmp) {st : St} {ρ : Env}, Ok β st ρ L → Ok β (setA ps (svsD A x) st) (putL ρ ps (valsD A x)) L := by
  intro A
  induction A with
  | nil => intro x ps st ρ k; cases ps <;> exact k
  | cons t r ih =>
    intro x ps st ρ k
    cases ps with
    | nil => cases r <;> exact k
    | cons p ps =>
      cases r with
      | nil => cases ps <;> exact k.put ((t.svl x).rel _ _) (some p)
      | cons u r => exact ih x.2 ps (k.put ((t.svl x.1).rel _ _) (some p))
theorem outX_ok {Q : Exit → HP} {R : Exit → Post} {ρ : Env} {L : H} (hQ : ∀ e h, Q e h → R e ρ L h) : ∀ (xs : List Nat) {id : Nat} {h : H}, outX Q (id + 2) xs h → R (.exit id) ρ L h := by
  intro xs
  induction xs with
  | nil => exact fun x => x.elim
  | cons a r ih =>
    intro id h x
    by_cases e : id = a
    · subst e; exact hQ _ _ (x.1 (Nat.beq_refl _))
    · exact ih (x.2 (by rw [← Bool.not_eq_true, Nat.beq_eq]; omega))
theorem outX_no {Q : Exit → HP} {j : Nat} (hj : j < 2) : ∀ (xs : List Nat) {h : H}, ¬ outX Q j xs h := by
  intro xs
  induction xs with
  | nil => exact fun x => x.elim
  | cons a r ih => exact fun x => ih (x.2 (by rw [← Bool.not_eq_true, Nat.beq_eq]; omega))
theorem outK_ok {Q : Exit → HP} {R : Exit → Post} {ρ : Env} {L : H} (hQ : ∀ e h, Q e h → R e ρ L h) {xs : List Nat} {rt : Bool} : ∀ (j : Nat) {h : H}, outK xs rt Q j h → jumpQ R j ρ L h
  | 0, _, x => hQ _ _ (x.1 rfl)
  | 1, _, x => by
    have x := x.2 rfl
    cases rt with
    | true => exact hQ _ _ (x.1 rfl)
    | false => exact (outX_no (by omega) _ x).elim
  | id + 2, _, x => by
    have x := x.2 rfl
    cases rt with
    | true => exact outX_ok hQ xs (x.2 rfl)
    | false => exact outX_ok hQ xs x
theorem valsD_len : ∀ {A : List Ty} (a : Den A), (valsD A a).length = A.length := by
  intro A
  induction A with
  | nil => intro a; rfl
  | cons t r ih =>
    intro a
    cases r with
    | nil => rfl
    | cons u r => show (valsD (u :: r) a.2).length + 1 = _; rw [ih]; rfl
theorem wpc_sound : ∀ (c : Code) {top : Bool} {hint : Hint} {Q : Exit → St → HP} {st : St} {h : H} {β : Nat → Nat} {ρ : Env} {L : H}, wpc X n c top hint Q st h → Ok β st ρ L → cwp P n noP c top (PostOf β st Q) ρ L h := by
  intro c
  induction c with
  | skip => exact fun x ok => ⟨_, _, .refl .., ok, x⟩
  | label l => exact fun x ok => ⟨_, _, .refl .., ok, x⟩
  | ret => exact fun x ok => ⟨_, _, .refl .., ok, x⟩
  | exit id => exact fun x ok => ⟨_, _, .refl .., ok, x⟩
  | region id ops dr =>
    intro top hint Q st h β ρ L x ok
    simp only [wpc] at x
    cases hf : fits n ops with
    | false => rw [hf] at x; exact x.elim
    | true =>
      rw [hf] at x
      have g := fun w0 (x : wpP X ops (hint.plan ops.size) w0 st (fun w st' => match fin ops w with | true => Q .normal st' | false => nope) h) =>
        wpP_sound (next := PostOf β st Q .normal) (hint.plan ops.size) (inD_all _) x ok fun w' st' β' ρ' L' h' t ok' _ kk => by
          cases hw : fin ops w' with
          | false => rw [hw] at kk; exact kk.elim
          | true => rw [hw] at kk; exact fin_goal hw ⟨β', st', t, ok', kk⟩
      cases dr with
      | false => exact ⟨hf, g _ x⟩
      | true => exact ⟨X.mixed, hf, g _ x⟩
  | block id a ih =>
    intro top hint Q st h β ρ L x ok
    simp only [wpc] at x
    refine cwp_mono a _ _ _ (fun e ρ' L' h' k => ?_) _ _ _ (ih x ok)
    obtain ⟨β', st', t, ok', q⟩ := k
    cases e with
    | exit id' =>
      simp only at q
      show (bif Nat.beq id' id then PostOf β st Q .normal else PostOf β st Q (.exit id')) ρ' L' h'
      cases hb : Nat.beq id' id <;> rw [hb] at q <;> exact ⟨β', st', t, ok', q⟩
    | _ => exact ⟨β', st', t, ok', q⟩
  | scope a ih =>
    intro top hint Q st h β ρ L x ok
    simp only [wpc] at x
    refine cwp_mono a _ _ _ (fun e ρ' L' h' k => ?_) _ _ _ (ih x ok)
    obtain ⟨β', st', t, ok', q⟩ := k
    cases e with
    | goto l => exact q.elim
    | _ => exact ⟨β', st', t, ok', q⟩
  | cond c a b iha ihb =>
    intro top hint Q st h β ρ L x ok
    simp only [wpc] at x
    cases hc : sv st c with
    | v z =>
      cases z with
      | bool t =>
        rw [hc] at x
        have hv := ok.v hc
        have dflt : ∀ ha hb, mIf t (wpc X n a top ha Q st) (wpc X n b top hb Q st) h → cwp P n noP (.cond c a b) top (PostOf β st Q) ρ L h := fun ha hb x =>
          ⟨t, hv, fun e => iha (x.1 e) ok, fun e => ihb (x.2 e) ok⟩
        cases hint with
        | known ha hb =>
          simp only at x
          refine ⟨t, hv, fun e => ?_, fun e => ?_⟩
          · subst e; exact iha x ok
          · subst e; exact ihb x ok
        | _ => exact dflt _ _ x
      | _ => rw [hc] at x; exact x.elim
    | _ => rw [hc] at x; exact x.elim
  | seq a b iha ihb =>
    intro top hint Q st h β ρ L x ok
    have dflt : ∀ ha hb, wpc X n a top ha (fun e st' => match e with | .normal => wpc X n b top hb Q st' | e => Q e st') st h → cwp P n noP (.seq a b) top (PostOf β st Q) ρ L h := fun ha hb x => by
      refine cwp_mono a _ _ _ (fun e ρ' L' h' k => ?_) _ _ _ (iha x ok)
      obtain ⟨β', st', t, ok', q⟩ := k
      cases e with
      | normal =>
        refine drop.of (cwp_mono b _ _ _ (fun e ρ2 L2 h2 k => ?_) _ _ _ (ihb q ok'))
        obtain ⟨β2, st2, t2, ok2, q2⟩ := k
        exact ⟨β2, st2, t.trans t2, ok2, q2⟩
      | _ => exact ⟨β', st', t, ok', q⟩
    simp only [wpc] at x
    cases hint with
    | join its D M ha hb =>
      simp only at x
      cases hD : dstsIn (Nat.testBit D) a with
      | false => rw [hD] at x; exact x.elim
      | true =>
        rw [hD] at x
        refine cwp_mono a _ _ _ (fun e ρ' L' h' k => ?_) _ _ _ (cwp_agree a _ hD _ _ _ _ (iha x ok.inS))
        obtain ⟨ag, β', st', t, ok', q⟩ := k
        cases e with
        | normal =>
          obtain ⟨s, h1, h2, kk⟩ := meet_elim q
          obtain ⟨m1, m2⟩ := meet_ok ok ok' (fun i hi => t.agree i (ink_clean.2 hi)) t.cleaned ag h1 h2
          refine drop.of (cwp_mono b _ _ _ (fun e ρ2 L2 h2 k => ?_) _ _ _ (ihb kk m1))
          obtain ⟨β2, st2, t2, ok2, q2⟩ := k
          exact ⟨β2, st2, m2.trans t2, ok2, q2⟩
        | _ => exact ⟨β', _, t.back ok.nd, ok'.backS, q⟩
    | _ => exact dflt _ _ x
  | loop a ih =>
    intro top hint Q st h β ρ L x ok
    simp only [wpc] at x
    cases hint with
    | loop its D M ha =>
      simp only at x
      cases hD : dstsIn (Nat.testBit D) a with
      | false => rw [hD] at x; exact x.elim
      | true =>
        rw [hD] at x
        cases hs : decs (tysI its) (getI (inS st) its) with
        | none => rw [hs] at x; exact x.elim
        | some s0 =>
          rw [hs] at x
          simp only at x
          obtain ⟨N, x⟩ := x
          refine ⟨N, ?_⟩
          obtain ⟨m1, m2⟩ := meet_ok (D := Nat.testBit D) (M := M) ok.inS ok.inS (fun _ _ => rfl) (Tr.refl β (inS st)).cleaned' (Agree.refl _ ρ) hs (stayed_clean M ok.nd)
          generalize hF : (fun (rec : DenI its → HP) (s : DenI its) => wpc X n a top ha (fun e st' => match e with | .normal => meet its M (inS st).bx rec st' | e => Q e (backS st st')) (encS its (Nat.testBit D) M s (inS st))) = F at x
          have key : ∀ N s β1 ρ1 L1 h1, loopF F N s h1 → Ok β1 (encS its (Nat.testBit D) M s (inS st)) ρ1 L1 → Tr β (inS st) β1 (encS its (Nat.testBit D) M s (inS st)) → Agree (Nat.testBit D) ρ ρ1 → iter (fun Q => cwp P n noP a top Q) (PostOf β st Q) N ρ1 L1 h1 := by
            intro N
            induction N with
            | zero => intro s β1 ρ1 L1 h1 x; exact x.elim
            | succ N ihN =>
              intro s β1 ρ1 L1 h1 x ok1 t1 ag1
              have x : F (loopF F N) s h1 := x
              rw [← hF] at x
              refine cwp_mono a _ _ _ (fun e ρ' L' h' k => ?_) _ _ _ (cwp_agree a _ hD _ _ _ _ (ih x ok1))
              obtain ⟨ag, β', st', t, ok', q⟩ := k
              have tt := t1.trans t
              cases e with
              | normal =>
                obtain ⟨s', g1, g2, kk⟩ := meet_elim q
                obtain ⟨m1, m2⟩ := meet_ok ok.inS ok' tt.agree tt.cleaned' (ag1.trans ag) g1 g2
                rw [hF] at kk
                exact drop.of (ihN s' β' ρ' L' h' kk m1 m2 (ag1.trans ag))
              | _ => exact ⟨β', _, tt.back ok.nd, ok'.backS, q⟩
          exact key N s0 β ρ L h x m1 m2 (.refl _ _)
    | _ => exact x.elim
  | rangeFunc g ps as_ bd iha ihb =>
    intro top hint Q st h β ρ L x ok
    simp only [wpc] at x
    have main : ∀ A xs rt ha hb fv, valOf? (sv st g) = some fv → (ps.toList.all fun p => Nat.blt p n) = true → (match Nat.beq A.length ps.size with
      | true => mRangeF P (valsD A) fv (fun (x : Den A) mid kj =>
          wpc X n as_ false ha (fun e st1 => match e with
            | .normal => mid (wpc X n bd false hb (fun e _ => match e with | .normal => kj 0 | .ret => kj 1 | .exit id => kj (id + 2) | _ => nope) st1)
            | _ => nope) (setA ps.toList (svsD A x) ⟨st.tr, []⟩)) (outK xs rt fun e => Q e st)
      | false => nope : HP) h → cwp P n noP (.rangeFunc g ps as_ bd) true (PostOf β st Q) ρ L h := fun A xs rt ha hb fv h1 h2 x => by
      cases hl : Nat.beq A.length ps.size with
      | false => rw [hl] at x; exact x.elim
      | true =>
        rw [hl] at x
        obtain ⟨f, fn, first, cap, rfl, cal, key⟩ := x
        refine ⟨rfl, fun _ _ x => x, h2, f, fn, first, cap, valOf_ok ok h1, ⟨cal.here, cal.name, cal.body⟩, fun l ob bz hf yl => (key l ob bz hf fun x kb h' h0 k => yl (valsD A x) kb h' (by rw [valsD_len]; exact Nat.eq_of_beq_eq_true hl) h0 ?_).mono (fun v h'' ⟨j, hj, kk⟩ => ⟨j, hj, fun o => outK_ok (fun e h q => ⟨β, st, .refl .., ok, q⟩) j (kk o)⟩) fun _ _ k => k⟩
        have ok0 : Ok β ⟨st.tr, []⟩ ρ (fun _ => none) := by
          refine ⟨fun t => ?_, fun e he => (by cases he), fun i j ⟨e, he, _⟩ => (by cases he), List.nodup_nil⟩
          have := ok.slots t
          show Rel [] β (ρ t) (st.σ t)
          cases hs : st.σ t <;> rw [hs] at this <;> first | exact this | (rintro ⟨e, he, _⟩; cases he)
        refine cwp_mono as_ _ _ _ (fun e ρ1 L1 h1 q => ?_) _ _ _ (iha k (setA_ok x ps.toList ok0))
        obtain ⟨β1, st1, t1, ok1, q⟩ := q
        cases e with
        | normal =>
          refine ⟨q.1, cwp_mono bd _ _ _ (fun e ρ2 L2 h2 q2 => ?_) _ _ _ (ihb q.2 ok1)⟩
          obtain ⟨β2, st2, t2, ok2, q2⟩ := q2
          cases e <;> first | exact q2.elim | exact q2
        | _ => exact q.elim
    cases top with
    | false => exact x.elim
    | true =>
      cases hint with
      | rng A xs rt ha hb =>
        cases h1 : valOf? (sv st g) with
        | none => rw [h1] at x; exact x.elim
        | some fv =>
          cases h2 : (ps.toList.all fun p => Nat.blt p n) with
          | false => rw [h1, h2] at x; exact x.elim
          | true => rw [h1, h2] at x; exact main A xs rt ha hb fv h1 h2 x
      | _ => exact x.elim
  | _ => exact fun x _ => x.elim
inductive Fits : List SV → List Value → Prop
  | nil : Fits [] []
  | cons {a : SV} {v : Value} {l : List SV} {m : List Value} : (∀ w, a.is w → v = w) → Fits l m → Fits (a :: l) (v :: m)
theorem decs_fits : ∀ {A : List Ty} {l : List SV} {vs : List Value} {a : Den A}, decs A l = some a → Fits l vs → vs = valsD A a := by
  intro A
  induction A with
  | nil =>
    intro l vs a e f
    cases l with
    | nil => cases f; rfl
    | cons => cases e
  | cons t r ih =>
    intro l vs a e f
    cases r with
    | nil =>
      match l, vs, e, f with
      | [x], [v], e, .cons h .nil => show [v] = [t.val a]; rw [h _ (t.law _ _ e)]
      | x :: y :: r, _, e, _ => cases e
    | cons u r =>
      match l, vs, e, f with
      | x :: xs, v :: vs, e, .cons h f =>
        have e : (match t.dec x, decs (u :: r) xs with | some p, some q => some (p, q) | _, _ => none) = some a := e
        split at e
        · rename_i p q h1 h2
          cases e
          show v :: vs = t.val p :: valsD (u :: r) q
          rw [h _ (t.law _ _ h1), ← ih h2 f]
        · cases e
theorem resM_ok {β : Nat → Nat} {st : St} {ρ : Env} {L h : H} (ok : Ok β st ρ L) (ap : Apart L h) : ∀ {rs : List ResultVar} {k : List SV → HP}, resM X st rs k h → ∃ vs l, RdsL P (un L h) ρ rs vs ∧ Fits l vs ∧ k l h := by
  intro rs
  induction rs with
  | nil => intro k e; exact ⟨[], [], trivial, .nil, e⟩
  | cons r rs ih =>
    intro k e
    cases r with
    | tmp t =>
      obtain ⟨vs, l, a, b, c⟩ := ih (k := fun l => k (st.σ t :: l)) e
      exact ⟨ρ t :: vs, _, ⟨rfl, a⟩, .cons (fun _ hw => is_eq hw (ok.slots t)) b, c⟩
    | cell a t =>
      simp only [resM] at e
      cases h2 : st.σ a with
      | box i off =>
        rw [h2] at e
        simp only at e
        cases h3 : findB st.bx i with
        | none => rw [h3] at e; exact e.elim
        | some b =>
          cases h4 : P.underlying t with
          | none => rw [h3, h4] at e; exact e.elim
          | some td =>
            cases h5 : P.info? t with
            | none => rw [h3, h4, h5] at e; exact e.elim
            | some ti =>
              rw [h3, h4, h5] at e
              simp only at e
              obtain ⟨c, hc, kn⟩ := ok.at h3
              have ha : ρ a = .pointer (some ⟨β i, off, none⟩) := ok.box (x := .tmp a) h2 h3
              cases hg : aggB td with
              | true =>
                rw [hg] at e
                simp only at e
                cases hw : grabO b.cells off ti.size with
                | none => rw [hw] at e; exact e.elim
                | some ws =>
                  rw [hw] at e
                  obtain ⟨vs, l, p, q, kk⟩ := ih e
                  exact ⟨_ :: vs, _, ⟨⟨_, ha, rds_load_agg h4 hg h5 rfl (un_left hc) (grabO_grab kn hw)⟩, p⟩, .cons (a := .v (.agg ws.toArray)) (fun _ hw => Eq.symm hw) q, kk⟩
              | false =>
                rw [hg] at e
                simp only at e
                have one : ∀ v, grabO b.cells off 1 = some [v] → resM X st rs (fun l => k (.v v :: l)) h → ∃ vs l, RdsL P (un L h) ρ (.cell a t :: rs) vs ∧ Fits l vs ∧ k l h := fun v hw e => by
                  obtain ⟨vs, l, p, q, kk⟩ := ih e
                  exact ⟨_ :: vs, _, ⟨⟨_, ha, rds_load_scalar h4 hg rfl (un_left hc) (grab_one (grabO_grab kn hw))⟩, p⟩, .cons (a := .v v) (fun _ hw => Eq.symm hw) q, kk⟩
                cases hw : grabO b.cells off 1 with
                | none => rw [hw] at e; exact e.elim
                | some ws =>
                  rw [hw] at e
                  match ws, hw, e with
                  | [v], hw, e => exact one v hw e
                  | [], _, e => exact e.elim
                  | _ :: _ :: _, _, e => exact e.elim
      | adr ad =>
        rw [h2] at e
        simp only at e
        have ha : ρ a = .pointer (some ad) := ok.adr (x := .tmp a) h2
        cases hτ : tyOf X.ty t with
        | none => rw [hτ] at e; exact e.elim
        | some τ =>
          rw [hτ] at e
          simp only at e
          cases ho : tyOk P t τ with
          | false => rw [ho] at e; exact e.elim
          | true =>
            rw [ho] at e
            obtain ⟨td, hu, hor⟩ := tyOk_spec ho
            obtain ⟨x, hat, e⟩ := e
            obtain ⟨hsp, c, et, fz, hb, hg⟩ := At_un ap hat
            obtain ⟨vs, l, p, q, kk⟩ := ih e
            refine ⟨τ.val x :: vs, _, ⟨⟨ad, ha, ?_⟩, p⟩, .cons (fun w hw => is_eq hw ((τ.svl x).rel st.bx β)) q, kk⟩
            rcases hor with ⟨h1, h2⟩ | ⟨ti, hi, h1, h2, h3⟩
            · rcases τ.hc with ⟨c1, _⟩ | ⟨_, c2⟩
              · rw [h2] at c1; cases c1
              · rw [c2] at hg
                exact rds_load_scalar hu h1 hsp hb (grab_one hg)
            · rcases τ.hc with ⟨_, c2⟩ | ⟨c1, _⟩
              · rw [(c2 x).1]
                rw [(c2 x).2, ← h3] at hg
                exact rds_load_agg hu h1 hi hsp hb hg
              · rw [h2] at c1; cases c1
      | _ => rw [h2] at e; exact e.elim
theorem argG_ok : ∀ {A : List Ty} {a : Den A} (n : Nat) (t : T) (u : Nat), (argG (svsD A a) n t).get u = .no ∨ (∃ v, ((argG (svsD A a) n t).get u).is v ∧ n ≤ u ∧ (valsD A a)[u - n]? = some v) ∨ (argG (svsD A a) n t).get u = t.get u := by
  have step : ∀ (n : Nat) (t : T) (s : SV) (v : Value) (g : T) (u : Nat), s.is v → (g.get u = .no ∨ (∃ v, (g.get u).is v ∧ n + 1 ≤ u ∧ False) ∨ g.get u = (T.set deep t n s).get u) → (g.get u = .no ∨ ((g.get u).is v ∧ u = n) ∨ g.get u = t.get u) := fun n t s v g u hs h => by
    rcases h with q | ⟨_, _, _, q⟩ | q
    · exact .inl q
    · exact q.elim
    · rcases T.get_set deep t n s u with w | ⟨w1, w⟩ | ⟨_, w⟩
      · exact .inl (q.trans w)
      · refine .inr (.inl ⟨?_, w1⟩); rw [q, w]; exact hs
      · exact .inr (.inr (q.trans w))
  intro A
  induction A with
  | nil => intro a n t u; exact .inr (.inr rfl)
  | cons x r ih =>
    intro a n t u
    cases r with
    | nil =>
      rcases step n t (x.sv a) (x.val a) (T.set deep t n (x.sv a)) u (x.svl a) (.inr (.inr rfl)) with q | ⟨q1, q2⟩ | q
      · exact .inl q
      · subst q2; exact .inr (.inl ⟨_, q1, Nat.le_refl _, by rw [Nat.sub_self]; rfl⟩)
      · exact .inr (.inr q)
    | cons w r =>
      rcases ih (a := a.2) (n + 1) (T.set deep t n (x.sv a.1)) u with q | ⟨v, q1, q2, q3⟩ | q
      · exact .inl q
      · refine .inr (.inl ⟨v, q1, by omega, ?_⟩)
        rw [show u - n = (u - (n + 1)) + 1 by omega]; exact q3
      · rcases step n t (x.sv a.1) (x.val a.1) (argG (svsD (x :: w :: r) a) n t) u (x.svl a.1) (.inr (.inr q)) with q | ⟨q1, q2⟩ | q
        · exact .inl q
        · subst q2; exact .inr (.inl ⟨_, q1, Nat.le_refl _, by rw [Nat.sub_self]; rfl⟩)
        · exact .inr (.inr q)
theorem wpF_ok (X : Cx P) {f : FuncId} {fn : Func} (hf : P.funcs[f]? = some fn) {A R : List Ty} (hn : Nat.ble A.length fn.ntmps = true) {hint : Hint} {a : Den A} {K : Den R → HP} {h : H} (hm : wpF X fn A R hint a K h) :
    ACall P f (valsD A a).toArray h (fun v h' => ∃ r, v = outV (valsD R r) ∧ K r h') noP := by
  unfold wpF at hm
  cases hb : fn.body with
  | none => rw [hb] at hm; exact hm.elim
  | some c =>
    rw [hb] at hm
    simp only at hm
    refine ac_func hf hb (by simp only [List.size_toArray, valsD_len]; exact Nat.le_of_ble_eq_true hn) (cwp_sound c _ _ _ _ _ (cwp_mono c _ _ _ (fun e ρ' L' h' k => ?_) _ _ _ (wpc_sound c hm (β := fun i => i) (ρ := start (valsD A a).toArray) (L := fun _ => none) ⟨fun t => ?_, fun e he => (by cases he), fun i j ⟨e, he, _⟩ => (by cases he), List.nodup_nil⟩)))
    · obtain ⟨β', st', t, ok', q⟩ := k
      have fin : (resM X st' fn.results.toList fun l => (match decs R l with | some r => K r | none => nope : HP)) h' → Out P fn (fun v h' => ∃ r, v = outV (valsD R r) ∧ K r h') ρ' L' h' := fun q => out_one (rs := fn.results.toList) rfl fun ap => by
        obtain ⟨vs, l, p1, p2, p3⟩ := resM_ok ok' ap q
        cases h2 : decs R l with
        | none => rw [h2] at p3; exact p3.elim
        | some r =>
          rw [h2] at p3
          have := decs_fits h2 p2
          subst this
          exact ⟨_, p1, r, rfl, p3⟩
      cases e with
      | normal => exact fin q
      | ret => exact fin q
      | _ => exact q.elim
    · show Rel [] _ (start (valsD A a).toArray t) ((argG (svsD A a) 0 .e).get t)
      rcases argG_ok (a := a) 0 .e t with q | ⟨v, q1, _, q2⟩ | q
      · rw [q]; trivial
      · have : start (valsD A a).toArray t = v := by
          simp only [start, Array.getD_eq_getD_getElem?, List.getElem?_toArray, Nat.sub_zero] at q2 ⊢
          rw [q2, Option.getD_some]
        rw [this]; exact q1.rel _ _
      · rw [q]; trivial
end code
def decStruct (tys : List Ty) {S : Type} (mk : Den tys → S) : SV → Option S
  | .v (.agg c) => match decs tys (c.toList.map SV.v) with | some x => some (mk x) | none => none
  | _ => none
def tStruct {S : Type} (tys : List Ty) (val : S → Value) (cells : S → List Value) (mk : Den tys → S) (h1 : ∀ x, val x = .agg (cells x).toArray) (h2 : ∀ x, (cells x).length = tys.length) (h3 : ∀ y, cells (mk y) = valsD tys y) : Ty :=
  ⟨S, val, cells, decStruct tys mk, fun x => .v (val x), tys.length, true,
    fun s x e => (by
      unfold decStruct at e
      split at e
      · rename_i c
        split at e
        · rename_i y hy
          cases e
          show val _ = Value.agg c
          rw [h1, h3, ← decs_v hy]
        · cases e
      · cases e), fun _ => rfl, .inl ⟨rfl, fun x => ⟨h1 x, h2 x⟩⟩⟩
def mkSpec {P : Program} (X : Cx P) (f : FuncId) (fn : Func) (A R : List Ty) (pure : Bool) (hint : Hint) (m : Den A → (Den R → HP) → HP) (hm : ∀ a K h, m a K h = wpF X fn A R hint a K h) (c : Callee P f fn) (hn : Nat.ble A.length fn.ntmps = true) : Spec P :=
  ⟨f, A, R, pure, m, fun a K h x => wpF_ok X c.here hn ((hm a K h).mp x), ⟨fn, c⟩⟩
end Go.Proofs.Ytbjkfllncegpcaa.K
namespace Go.Proofs.Ytbjkfllncegpcaa.K
open Go Go.Proofs
theorem mixed : Try.prog.follows .mixedOrders = true := by kernel_rfl
structure S_book_Book where
  xsteps : Int
  xlive : Option Nat
  xlists : Option Nat
  xways : Option Nat
  xknown : Option Nat
  xbytes : Option Nat
def S_book_Book.cells (x : S_book_Book) : _root_.List Value := [(Value.int .i64 x.xsteps), (Value.map x.xlive), (Value.map x.xlists), (Value.map x.xways), (Value.map x.xknown), (Value.map x.xbytes)]
def S_book_Book.val (x : S_book_Book) : Value := .agg (S_book_Book.cells x).toArray
def S_book_Book.ty : Ty := tStruct [(tInt .i64), tMap, tMap, tMap, tMap, tMap] S_book_Book.val S_book_Book.cells (fun y => ⟨y.1, y.2.1, y.2.2.1, y.2.2.2.1, y.2.2.2.2.1, y.2.2.2.2.2⟩) (fun _ => rfl) (fun _ => rfl) (fun _ => rfl)
structure S_api_Word where
  Hi : Int
  Lo : Int
def S_api_Word.cells (x : S_api_Word) : _root_.List Value := [(Value.int .u64 x.Hi), (Value.int .u64 x.Lo)]
def S_api_Word.val (x : S_api_Word) : Value := .agg (S_api_Word.cells x).toArray
def S_api_Word.ty : Ty := tStruct [(tInt .u64), (tInt .u64)] S_api_Word.val S_api_Word.cells (fun y => ⟨y.1, y.2⟩) (fun _ => rfl) (fun _ => rfl) (fun _ => rfl)
structure S_api_Cap where
  Obj : Int
  Pass : S_api_Word
def S_api_Cap.cells (x : S_api_Cap) : _root_.List Value := [(Value.int .i64 x.Obj), (Value.int .u64 x.Pass.Hi), (Value.int .u64 x.Pass.Lo)]
def S_api_Cap.val (x : S_api_Cap) : Value := .agg (S_api_Cap.cells x).toArray
def S_api_Cap.ty : Ty := tStruct [(tInt .i64), (tInt .u64), (tInt .u64)] S_api_Cap.val S_api_Cap.cells (fun y => ⟨y.1, ⟨y.2.1, y.2.2⟩⟩) (fun _ => rfl) (fun _ => rfl) (fun _ => rfl)
structure S_book_whom where
  xproc : Int
  xc : S_api_Cap
def S_book_whom.cells (x : S_book_whom) : _root_.List Value := [(Value.int .i64 x.xproc), (Value.int .i64 x.xc.Obj), (Value.int .u64 x.xc.Pass.Hi), (Value.int .u64 x.xc.Pass.Lo)]
def S_book_whom.val (x : S_book_whom) : Value := .agg (S_book_whom.cells x).toArray
def S_book_whom.ty : Ty := tStruct [(tInt .i64), (tInt .i64), (tInt .u64), (tInt .u64)] S_book_whom.val S_book_whom.cells (fun y => ⟨y.1, ⟨y.2.1, ⟨y.2.2.1, y.2.2.2⟩⟩⟩) (fun _ => rfl) (fun _ => rfl) (fun _ => rfl)
structure S_book_Link where
  Step : Int
  Kind : Int
  By : Int
  To : Int
  Cap : S_api_Cap
def S_book_Link.cells (x : S_book_Link) : _root_.List Value := [(Value.int .i64 x.Step), (Value.int .i64 x.Kind), (Value.int .i64 x.By), (Value.int .i64 x.To), (Value.int .i64 x.Cap.Obj), (Value.int .u64 x.Cap.Pass.Hi), (Value.int .u64 x.Cap.Pass.Lo)]
def S_book_Link.val (x : S_book_Link) : Value := .agg (S_book_Link.cells x).toArray
def S_book_Link.ty : Ty := tStruct [(tInt .i64), (tInt .i64), (tInt .i64), (tInt .i64), (tInt .i64), (tInt .u64), (tInt .u64)] S_book_Link.val S_book_Link.cells (fun y => ⟨y.1, y.2.1, y.2.2.1, y.2.2.2.1, ⟨y.2.2.2.2.1, ⟨y.2.2.2.2.2.1, y.2.2.2.2.2.2⟩⟩⟩) (fun _ => rfl) (fun _ => rfl) (fun _ => rfl)
structure S_book_token where
  xrights : Int
  xparent : S_api_Cap
  xroot : Bool
def S_book_token.cells (x : S_book_token) : _root_.List Value := [(Value.int .i64 x.xrights), (Value.int .i64 x.xparent.Obj), (Value.int .u64 x.xparent.Pass.Hi), (Value.int .u64 x.xparent.Pass.Lo), (Value.bool x.xroot)]
def S_book_token.val (x : S_book_token) : Value := .agg (S_book_token.cells x).toArray
def S_book_token.ty : Ty := tStruct [(tInt .i64), (tInt .i64), (tInt .u64), (tInt .u64), tBool] S_book_token.val S_book_token.cells (fun y => ⟨y.1, ⟨y.2.1, ⟨y.2.2.1, y.2.2.2.1⟩⟩, y.2.2.2.2⟩) (fun _ => rfl) (fun _ => rfl) (fun _ => rfl)
structure S_book_laid where
  xby : Int
  xc : S_api_Cap
  xway : Sl
def S_book_laid.cells (x : S_book_laid) : _root_.List Value := [(Value.int .i64 x.xby), (Value.int .i64 x.xc.Obj), (Value.int .u64 x.xc.Pass.Hi), (Value.int .u64 x.xc.Pass.Lo), (Sl.val x.xway)]
def S_book_laid.val (x : S_book_laid) : Value := .agg (S_book_laid.cells x).toArray
def S_book_laid.ty : Ty := tStruct [(tInt .i64), (tInt .i64), (tInt .u64), (tInt .u64), tSl] S_book_laid.val S_book_laid.cells (fun y => ⟨y.1, ⟨y.2.1, ⟨y.2.2.1, y.2.2.2.1⟩⟩, y.2.2.2.2⟩) (fun _ => rfl) (fun _ => rfl) (fun _ => rfl)
structure S_api_Call where
  Op : Int
  By : Int
  Size : Int
  Cap : S_api_Cap
  Given : Bool
  Rights : Int
  Off : Int
  N : Int
  Data : Sl
  Index : Int
  Gifts : Sl
def S_api_Call.cells (x : S_api_Call) : _root_.List Value := [(Value.int .i64 x.Op), (Value.int .i64 x.By), (Value.int .i64 x.Size), (Value.int .i64 x.Cap.Obj), (Value.int .u64 x.Cap.Pass.Hi), (Value.int .u64 x.Cap.Pass.Lo), (Value.bool x.Given), (Value.int .i64 x.Rights), (Value.int .i64 x.Off), (Value.int .i64 x.N), (Sl.val x.Data), (Value.int .i64 x.Index), (Sl.val x.Gifts)]
def S_api_Call.val (x : S_api_Call) : Value := .agg (S_api_Call.cells x).toArray
def S_api_Call.ty : Ty := tStruct [(tInt .i64), (tInt .i64), (tInt .i64), (tInt .i64), (tInt .u64), (tInt .u64), tBool, (tInt .i64), (tInt .i64), (tInt .i64), tSl, (tInt .i64), tSl] S_api_Call.val S_api_Call.cells (fun y => ⟨y.1, y.2.1, y.2.2.1, ⟨y.2.2.2.1, ⟨y.2.2.2.2.1, y.2.2.2.2.2.1⟩⟩, y.2.2.2.2.2.2.1, y.2.2.2.2.2.2.2.1, y.2.2.2.2.2.2.2.2.1, y.2.2.2.2.2.2.2.2.2.1, y.2.2.2.2.2.2.2.2.2.2.1, y.2.2.2.2.2.2.2.2.2.2.2.1, y.2.2.2.2.2.2.2.2.2.2.2.2⟩) (fun _ => rfl) (fun _ => rfl) (fun _ => rfl)
structure S_api_Reply where
  Code : Int
  Cap : S_api_Cap
  Data : Sl
  Number : Int
def S_api_Reply.cells (x : S_api_Reply) : _root_.List Value := [(Value.int .i64 x.Code), (Value.int .i64 x.Cap.Obj), (Value.int .u64 x.Cap.Pass.Hi), (Value.int .u64 x.Cap.Pass.Lo), (Sl.val x.Data), (Value.int .i64 x.Number)]
def S_api_Reply.val (x : S_api_Reply) : Value := .agg (S_api_Reply.cells x).toArray
def S_api_Reply.ty : Ty := tStruct [(tInt .i64), (tInt .i64), (tInt .u64), (tInt .u64), tSl, (tInt .i64)] S_api_Reply.val S_api_Reply.cells (fun y => ⟨y.1, ⟨y.2.1, ⟨y.2.2.1, y.2.2.2.1⟩⟩, y.2.2.2.2.1, y.2.2.2.2.2⟩) (fun _ => rfl) (fun _ => rfl) (fun _ => rfl)
structure S_api_Config where
  Width : Int
  Objects : Int
  Pages : Int
  Entries : Int
  Quota : Int
  Procs : Int
  List : Int
  Sets : Int
  Ways : Int
  Knob : Int
def S_api_Config.cells (x : S_api_Config) : _root_.List Value := [(Value.int .i64 x.Width), (Value.int .i64 x.Objects), (Value.int .i64 x.Pages), (Value.int .i64 x.Entries), (Value.int .i64 x.Quota), (Value.int .i64 x.Procs), (Value.int .i64 x.List), (Value.int .i64 x.Sets), (Value.int .i64 x.Ways), (Value.int .i64 x.Knob)]
def S_api_Config.val (x : S_api_Config) : Value := .agg (S_api_Config.cells x).toArray
def S_api_Config.ty : Ty := tStruct [(tInt .i64), (tInt .i64), (tInt .i64), (tInt .i64), (tInt .i64), (tInt .i64), (tInt .i64), (tInt .i64), (tInt .i64), (tInt .i64)] S_api_Config.val S_api_Config.cells (fun y => ⟨y.1, y.2.1, y.2.2.1, y.2.2.2.1, y.2.2.2.2.1, y.2.2.2.2.2.1, y.2.2.2.2.2.2.1, y.2.2.2.2.2.2.2.1, y.2.2.2.2.2.2.2.2.1, y.2.2.2.2.2.2.2.2.2⟩) (fun _ => rfl) (fun _ => rfl) (fun _ => rfl)
structure S_api_Process where
  Number : Int
  List : Sl
def S_api_Process.cells (x : S_api_Process) : _root_.List Value := [(Value.int .i64 x.Number), (Sl.val x.List)]
def S_api_Process.val (x : S_api_Process) : Value := .agg (S_api_Process.cells x).toArray
def S_api_Process.ty : Ty := tStruct [(tInt .i64), tSl] S_api_Process.val S_api_Process.cells (fun y => ⟨y.1, y.2⟩) (fun _ => rfl) (fun _ => rfl) (fun _ => rfl)
structure S_ref21_Model where
  C : S_api_Config
  Draws : Sl
  Taken : Int
  Objects : Sl
  Tokens : Sl
  Procs : Sl
  NextId : Int
  NextProc : Int
  NextNo : Int
def S_ref21_Model.cells (x : S_ref21_Model) : _root_.List Value := [(Value.int .i64 x.C.Width), (Value.int .i64 x.C.Objects), (Value.int .i64 x.C.Pages), (Value.int .i64 x.C.Entries), (Value.int .i64 x.C.Quota), (Value.int .i64 x.C.Procs), (Value.int .i64 x.C.List), (Value.int .i64 x.C.Sets), (Value.int .i64 x.C.Ways), (Value.int .i64 x.C.Knob), (Sl.val x.Draws), (Value.int .i64 x.Taken), (Sl.val x.Objects), (Sl.val x.Tokens), (Sl.val x.Procs), (Value.int .i64 x.NextId), (Value.int .i64 x.NextProc), (Value.int .i64 x.NextNo)]
def S_ref21_Model.val (x : S_ref21_Model) : Value := .agg (S_ref21_Model.cells x).toArray
def S_ref21_Model.ty : Ty := tStruct [(tInt .i64), (tInt .i64), (tInt .i64), (tInt .i64), (tInt .i64), (tInt .i64), (tInt .i64), (tInt .i64), (tInt .i64), (tInt .i64), tSl, (tInt .i64), tSl, tSl, tSl, (tInt .i64), (tInt .i64), (tInt .i64)] S_ref21_Model.val S_ref21_Model.cells (fun y => ⟨⟨y.1, y.2.1, y.2.2.1, y.2.2.2.1, y.2.2.2.2.1, y.2.2.2.2.2.1, y.2.2.2.2.2.2.1, y.2.2.2.2.2.2.2.1, y.2.2.2.2.2.2.2.2.1, y.2.2.2.2.2.2.2.2.2.1⟩, y.2.2.2.2.2.2.2.2.2.2.1, y.2.2.2.2.2.2.2.2.2.2.2.1, y.2.2.2.2.2.2.2.2.2.2.2.2.1, y.2.2.2.2.2.2.2.2.2.2.2.2.2.1, y.2.2.2.2.2.2.2.2.2.2.2.2.2.2.1, y.2.2.2.2.2.2.2.2.2.2.2.2.2.2.2.1, y.2.2.2.2.2.2.2.2.2.2.2.2.2.2.2.2.1, y.2.2.2.2.2.2.2.2.2.2.2.2.2.2.2.2.2⟩) (fun _ => rfl) (fun _ => rfl) (fun _ => rfl)
structure S_ref24_List where
  Proc : Int
  L : Sl
def S_ref24_List.cells (x : S_ref24_List) : _root_.List Value := [(Value.int .i64 x.Proc), (Sl.val x.L)]
def S_ref24_List.val (x : S_ref24_List) : Value := .agg (S_ref24_List.cells x).toArray
def S_ref24_List.ty : Ty := tStruct [(tInt .i64), tSl] S_ref24_List.val S_ref24_List.cells (fun y => ⟨y.1, y.2⟩) (fun _ => rfl) (fun _ => rfl) (fun _ => rfl)
structure S_ref24_Book where
  Step : Int
  Tells : Sl
  Tokens : Sl
  Lists : Sl
  Objects : Sl
def S_ref24_Book.cells (x : S_ref24_Book) : _root_.List Value := [(Value.int .i64 x.Step), (Sl.val x.Tells), (Sl.val x.Tokens), (Sl.val x.Lists), (Sl.val x.Objects)]
def S_ref24_Book.val (x : S_ref24_Book) : Value := .agg (S_ref24_Book.cells x).toArray
def S_ref24_Book.ty : Ty := tStruct [(tInt .i64), tSl, tSl, tSl, tSl] S_ref24_Book.val S_ref24_Book.cells (fun y => ⟨y.1, y.2.1, y.2.2.1, y.2.2.2.1, y.2.2.2.2⟩) (fun _ => rfl) (fun _ => rfl) (fun _ => rfl)
structure S_api_Object where
  Id : Int
  Bytes : Sl
def S_api_Object.cells (x : S_api_Object) : _root_.List Value := [(Value.int .i64 x.Id), (Sl.val x.Bytes)]
def S_api_Object.val (x : S_api_Object) : Value := .agg (S_api_Object.cells x).toArray
def S_api_Object.ty : Ty := tStruct [(tInt .i64), tSl] S_api_Object.val S_api_Object.cells (fun y => ⟨y.1, y.2⟩) (fun _ => rfl) (fun _ => rfl) (fun _ => rfl)
structure S_ref21_Held where
  No : Int
  Up : Int
  Cap : S_api_Cap
  Rights : Int
def S_ref21_Held.cells (x : S_ref21_Held) : _root_.List Value := [(Value.int .i64 x.No), (Value.int .i64 x.Up), (Value.int .i64 x.Cap.Obj), (Value.int .u64 x.Cap.Pass.Hi), (Value.int .u64 x.Cap.Pass.Lo), (Value.int .i64 x.Rights)]
def S_ref21_Held.val (x : S_ref21_Held) : Value := .agg (S_ref21_Held.cells x).toArray
def S_ref21_Held.ty : Ty := tStruct [(tInt .i64), (tInt .i64), (tInt .i64), (tInt .u64), (tInt .u64), (tInt .i64)] S_ref21_Held.val S_ref21_Held.cells (fun y => ⟨y.1, y.2.1, ⟨y.2.2.1, ⟨y.2.2.2.1, y.2.2.2.2.1⟩⟩, y.2.2.2.2.2⟩) (fun _ => rfl) (fun _ => rfl) (fun _ => rfl)
structure S_ref24_Telling where
  L : S_book_Link
  From : Int
def S_ref24_Telling.cells (x : S_ref24_Telling) : _root_.List Value := [(Value.int .i64 x.L.Step), (Value.int .i64 x.L.Kind), (Value.int .i64 x.L.By), (Value.int .i64 x.L.To), (Value.int .i64 x.L.Cap.Obj), (Value.int .u64 x.L.Cap.Pass.Hi), (Value.int .u64 x.L.Cap.Pass.Lo), (Value.int .i64 x.From)]
def S_ref24_Telling.val (x : S_ref24_Telling) : Value := .agg (S_ref24_Telling.cells x).toArray
def S_ref24_Telling.ty : Ty := tStruct [(tInt .i64), (tInt .i64), (tInt .i64), (tInt .i64), (tInt .i64), (tInt .u64), (tInt .u64), (tInt .i64)] S_ref24_Telling.val S_ref24_Telling.cells (fun y => ⟨⟨y.1, y.2.1, y.2.2.1, y.2.2.2.1, ⟨y.2.2.2.2.1, ⟨y.2.2.2.2.2.1, y.2.2.2.2.2.2.1⟩⟩⟩, y.2.2.2.2.2.2.2⟩) (fun _ => rfl) (fun _ => rfl) (fun _ => rfl)
structure S_ref24_Token where
  C : S_api_Cap
  Parent : S_api_Cap
  Root : Bool
  Rights : Int
def S_ref24_Token.cells (x : S_ref24_Token) : _root_.List Value := [(Value.int .i64 x.C.Obj), (Value.int .u64 x.C.Pass.Hi), (Value.int .u64 x.C.Pass.Lo), (Value.int .i64 x.Parent.Obj), (Value.int .u64 x.Parent.Pass.Hi), (Value.int .u64 x.Parent.Pass.Lo), (Value.bool x.Root), (Value.int .i64 x.Rights)]
def S_ref24_Token.val (x : S_ref24_Token) : Value := .agg (S_ref24_Token.cells x).toArray
def S_ref24_Token.ty : Ty := tStruct [(tInt .i64), (tInt .u64), (tInt .u64), (tInt .i64), (tInt .u64), (tInt .u64), tBool, (tInt .i64)] S_ref24_Token.val S_ref24_Token.cells (fun y => ⟨⟨y.1, ⟨y.2.1, y.2.2.1⟩⟩, ⟨y.2.2.2.1, ⟨y.2.2.2.2.1, y.2.2.2.2.2.1⟩⟩, y.2.2.2.2.2.2.1, y.2.2.2.2.2.2.2⟩) (fun _ => rfl) (fun _ => rfl) (fun _ => rfl)
structure S_ref24_Laid where
  Step : Int
  By : Int
  At : Int
def S_ref24_Laid.cells (x : S_ref24_Laid) : _root_.List Value := [(Value.int .i64 x.Step), (Value.int .i64 x.By), (Value.int .i64 x.At)]
def S_ref24_Laid.val (x : S_ref24_Laid) : Value := .agg (S_ref24_Laid.cells x).toArray
def S_ref24_Laid.ty : Ty := tStruct [(tInt .i64), (tInt .i64), (tInt .i64)] S_ref24_Laid.val S_ref24_Laid.cells (fun y => ⟨y.1, y.2.1, y.2.2⟩) (fun _ => rfl) (fun _ => rfl) (fun _ => rfl)
structure S_ref24_Object where
  Id : Int
  B : Sl
def S_ref24_Object.cells (x : S_ref24_Object) : _root_.List Value := [(Value.int .i64 x.Id), (Sl.val x.B)]
def S_ref24_Object.val (x : S_ref24_Object) : Value := .agg (S_ref24_Object.cells x).toArray
def S_ref24_Object.ty : Ty := tStruct [(tInt .i64), tSl] S_ref24_Object.val S_ref24_Object.cells (fun y => ⟨y.1, y.2⟩) (fun _ => rfl) (fun _ => rfl) (fun _ => rfl)
structure S_api_State where
  Objects : Sl
  Tokens : Sl
  Processes : Sl
  NextId : Int
  NextProc : Int
  Taken : Int
def S_api_State.cells (x : S_api_State) : _root_.List Value := [(Sl.val x.Objects), (Sl.val x.Tokens), (Sl.val x.Processes), (Value.int .i64 x.NextId), (Value.int .i64 x.NextProc), (Value.int .i64 x.Taken)]
def S_api_State.val (x : S_api_State) : Value := .agg (S_api_State.cells x).toArray
def S_api_State.ty : Ty := tStruct [tSl, tSl, tSl, (tInt .i64), (tInt .i64), (tInt .i64)] S_api_State.val S_api_State.cells (fun y => ⟨y.1, y.2.1, y.2.2.1, y.2.2.2.1, y.2.2.2.2.1, y.2.2.2.2.2⟩) (fun _ => rfl) (fun _ => rfl) (fun _ => rfl)
structure S_api_Token where
  Cap : S_api_Cap
  Rights : Int
  Parent : Int
def S_api_Token.cells (x : S_api_Token) : _root_.List Value := [(Value.int .i64 x.Cap.Obj), (Value.int .u64 x.Cap.Pass.Hi), (Value.int .u64 x.Cap.Pass.Lo), (Value.int .i64 x.Rights), (Value.int .i64 x.Parent)]
def S_api_Token.val (x : S_api_Token) : Value := .agg (S_api_Token.cells x).toArray
def S_api_Token.ty : Ty := tStruct [(tInt .i64), (tInt .u64), (tInt .u64), (tInt .i64), (tInt .i64)] S_api_Token.val S_api_Token.cells (fun y => ⟨⟨y.1, ⟨y.2.1, y.2.2.1⟩⟩, y.2.2.2.1, y.2.2.2.2⟩) (fun _ => rfl) (fun _ => rfl) (fun _ => rfl)
structure S_t146 where
  xe0 : Int
  xe1 : Int
  xe2 : Int
  xe3 : Int
  xe4 : Int
  xe5 : Int
  xe6 : Int
  xe7 : Int
  xe8 : Int
  xe9 : Int
def S_t146.cells (x : S_t146) : _root_.List Value := [(Value.int .i64 x.xe0), (Value.int .i64 x.xe1), (Value.int .i64 x.xe2), (Value.int .i64 x.xe3), (Value.int .i64 x.xe4), (Value.int .i64 x.xe5), (Value.int .i64 x.xe6), (Value.int .i64 x.xe7), (Value.int .i64 x.xe8), (Value.int .i64 x.xe9)]
def S_t146.val (x : S_t146) : Value := .agg (S_t146.cells x).toArray
def S_t146.ty : Ty := tStruct [(tInt .i64), (tInt .i64), (tInt .i64), (tInt .i64), (tInt .i64), (tInt .i64), (tInt .i64), (tInt .i64), (tInt .i64), (tInt .i64)] S_t146.val S_t146.cells (fun y => ⟨y.1, y.2.1, y.2.2.1, y.2.2.2.1, y.2.2.2.2.1, y.2.2.2.2.2.1, y.2.2.2.2.2.2.1, y.2.2.2.2.2.2.2.1, y.2.2.2.2.2.2.2.2.1, y.2.2.2.2.2.2.2.2.2⟩) (fun _ => rfl) (fun _ => rfl) (fun _ => rfl)
structure S_octet_Reader where
  xb : Sl
def S_octet_Reader.cells (x : S_octet_Reader) : _root_.List Value := [(Sl.val x.xb)]
def S_octet_Reader.val (x : S_octet_Reader) : Value := .agg (S_octet_Reader.cells x).toArray
def S_octet_Reader.ty : Ty := tStruct [tSl] S_octet_Reader.val S_octet_Reader.cells (fun y => ⟨y⟩) (fun _ => rfl) (fun _ => rfl) (fun _ => rfl)
structure S_image_source where
  xr : Option Addr
  xbad : Bool
def S_image_source.cells (x : S_image_source) : _root_.List Value := [(Value.pointer x.xr), (Value.bool x.xbad)]
def S_image_source.val (x : S_image_source) : Value := .agg (S_image_source.cells x).toArray
def S_image_source.ty : Ty := tStruct [tPtr, tBool] S_image_source.val S_image_source.cells (fun y => ⟨y.1, y.2⟩) (fun _ => rfl) (fun _ => rfl) (fun _ => rfl)
structure S_ref23_Tape where
  B : Sl
  At : Int
  Bad : Bool
def S_ref23_Tape.cells (x : S_ref23_Tape) : _root_.List Value := [(Sl.val x.B), (Value.int .i64 x.At), (Value.bool x.Bad)]
def S_ref23_Tape.val (x : S_ref23_Tape) : Value := .agg (S_ref23_Tape.cells x).toArray
def S_ref23_Tape.ty : Ty := tStruct [tSl, (tInt .i64), tBool] S_ref23_Tape.val S_ref23_Tape.cells (fun y => ⟨y.1, y.2.1, y.2.2⟩) (fun _ => rfl) (fun _ => rfl) (fun _ => rfl)
structure S_plain_Model where
  xc : S_api_Config
  xdraws : Sl
  xtaken : Int
  xobjects : Option Nat
  xtokens : Sl
  xnamed : Int
  xlists : Option Nat
  xnextId : Int
  xnextProc : Int
def S_plain_Model.cells (x : S_plain_Model) : _root_.List Value := [(Value.int .i64 x.xc.Width), (Value.int .i64 x.xc.Objects), (Value.int .i64 x.xc.Pages), (Value.int .i64 x.xc.Entries), (Value.int .i64 x.xc.Quota), (Value.int .i64 x.xc.Procs), (Value.int .i64 x.xc.List), (Value.int .i64 x.xc.Sets), (Value.int .i64 x.xc.Ways), (Value.int .i64 x.xc.Knob), (Sl.val x.xdraws), (Value.int .i64 x.xtaken), (Value.map x.xobjects), (Sl.val x.xtokens), (Value.int .i64 x.xnamed), (Value.map x.xlists), (Value.int .i64 x.xnextId), (Value.int .i64 x.xnextProc)]
def S_plain_Model.val (x : S_plain_Model) : Value := .agg (S_plain_Model.cells x).toArray
def S_plain_Model.ty : Ty := tStruct [(tInt .i64), (tInt .i64), (tInt .i64), (tInt .i64), (tInt .i64), (tInt .i64), (tInt .i64), (tInt .i64), (tInt .i64), (tInt .i64), tSl, (tInt .i64), tMap, tSl, (tInt .i64), tMap, (tInt .i64), (tInt .i64)] S_plain_Model.val S_plain_Model.cells (fun y => ⟨⟨y.1, y.2.1, y.2.2.1, y.2.2.2.1, y.2.2.2.2.1, y.2.2.2.2.2.1, y.2.2.2.2.2.2.1, y.2.2.2.2.2.2.2.1, y.2.2.2.2.2.2.2.2.1, y.2.2.2.2.2.2.2.2.2.1⟩, y.2.2.2.2.2.2.2.2.2.2.1, y.2.2.2.2.2.2.2.2.2.2.2.1, y.2.2.2.2.2.2.2.2.2.2.2.2.1, y.2.2.2.2.2.2.2.2.2.2.2.2.2.1, y.2.2.2.2.2.2.2.2.2.2.2.2.2.2.1, y.2.2.2.2.2.2.2.2.2.2.2.2.2.2.2.1, y.2.2.2.2.2.2.2.2.2.2.2.2.2.2.2.2.1, y.2.2.2.2.2.2.2.2.2.2.2.2.2.2.2.2.2⟩) (fun _ => rfl) (fun _ => rfl) (fun _ => rfl)
structure S_plain_token where
  xcap : S_api_Cap
  xrights : Int
  xname : Int
  xparent : Int
def S_plain_token.cells (x : S_plain_token) : _root_.List Value := [(Value.int .i64 x.xcap.Obj), (Value.int .u64 x.xcap.Pass.Hi), (Value.int .u64 x.xcap.Pass.Lo), (Value.int .i64 x.xrights), (Value.int .i64 x.xname), (Value.int .i64 x.xparent)]
def S_plain_token.val (x : S_plain_token) : Value := .agg (S_plain_token.cells x).toArray
def S_plain_token.ty : Ty := tStruct [(tInt .i64), (tInt .u64), (tInt .u64), (tInt .i64), (tInt .i64), (tInt .i64)] S_plain_token.val S_plain_token.cells (fun y => ⟨⟨y.1, ⟨y.2.1, y.2.2.1⟩⟩, y.2.2.2.1, y.2.2.2.2.1, y.2.2.2.2.2⟩) (fun _ => rfl) (fun _ => rfl) (fun _ => rfl)
structure S_runtime_boundsError where
  xx : Int
  xy : Int
  xsigned : Bool
  xcode : Int
def S_runtime_boundsError.cells (x : S_runtime_boundsError) : _root_.List Value := [(Value.int .i64 x.xx), (Value.int .i64 x.xy), (Value.bool x.xsigned), (Value.int .u8 x.xcode)]
def S_runtime_boundsError.val (x : S_runtime_boundsError) : Value := .agg (S_runtime_boundsError.cells x).toArray
def S_runtime_boundsError.ty : Ty := tStruct [(tInt .i64), (tInt .i64), tBool, (tInt .u8)] S_runtime_boundsError.val S_runtime_boundsError.cells (fun y => ⟨y.1, y.2.1, y.2.2.1, y.2.2.2⟩) (fun _ => rfl) (fun _ => rfl) (fun _ => rfl)
structure S_runtime_errorAddressString where
  xmsg : ByteArray
  xaddr : Int
def S_runtime_errorAddressString.cells (x : S_runtime_errorAddressString) : _root_.List Value := [(Value.string x.xmsg), (Value.int .u64 x.xaddr)]
def S_runtime_errorAddressString.val (x : S_runtime_errorAddressString) : Value := .agg (S_runtime_errorAddressString.cells x).toArray
def S_runtime_errorAddressString.ty : Ty := tStruct [tStr, (tInt .u64)] S_runtime_errorAddressString.val S_runtime_errorAddressString.cells (fun y => ⟨y.1, y.2⟩) (fun _ => rfl) (fun _ => rfl) (fun _ => rfl)
structure S_internal_runtime_maps_unhashableTypeError where
  xtyp : Option Addr
def S_internal_runtime_maps_unhashableTypeError.cells (x : S_internal_runtime_maps_unhashableTypeError) : _root_.List Value := [(Value.pointer x.xtyp)]
def S_internal_runtime_maps_unhashableTypeError.val (x : S_internal_runtime_maps_unhashableTypeError) : Value := .agg (S_internal_runtime_maps_unhashableTypeError.cells x).toArray
def S_internal_runtime_maps_unhashableTypeError.ty : Ty := tStruct [tPtr] S_internal_runtime_maps_unhashableTypeError.val S_internal_runtime_maps_unhashableTypeError.cells (fun y => ⟨y⟩) (fun _ => rfl) (fun _ => rfl) (fun _ => rfl)
structure S_runtime_TypeAssertionError where
  x_interface : Option Addr
  xconcrete : Option Addr
  xasserted : Option Addr
  xmissingMethod : ByteArray
def S_runtime_TypeAssertionError.cells (x : S_runtime_TypeAssertionError) : _root_.List Value := [(Value.pointer x.x_interface), (Value.pointer x.xconcrete), (Value.pointer x.xasserted), (Value.string x.xmissingMethod)]
def S_runtime_TypeAssertionError.val (x : S_runtime_TypeAssertionError) : Value := .agg (S_runtime_TypeAssertionError.cells x).toArray
def S_runtime_TypeAssertionError.ty : Ty := tStruct [tPtr, tPtr, tPtr, tStr] S_runtime_TypeAssertionError.val S_runtime_TypeAssertionError.cells (fun y => ⟨y.1, y.2.1, y.2.2.1, y.2.2.2⟩) (fun _ => rfl) (fun _ => rfl) (fun _ => rfl)
structure S_internal_abi_Type where
  Size_ : Int
  PtrBytes : Int
  Hash : Int
  TFlag : Int
  Align_ : Int
  FieldAlign_ : Int
  Kind_ : Int
  Equal : PV
  GCData : Option Addr
  Str : Int
  PtrToThis : Int
def S_internal_abi_Type.cells (x : S_internal_abi_Type) : _root_.List Value := [(Value.int .u64 x.Size_), (Value.int .u64 x.PtrBytes), (Value.int .u32 x.Hash), (Value.int .u8 x.TFlag), (Value.int .u8 x.Align_), (Value.int .u8 x.FieldAlign_), (Value.int .u8 x.Kind_), x.Equal.1, (Value.pointer x.GCData), (Value.int .i32 x.Str), (Value.int .i32 x.PtrToThis)]
def S_internal_abi_Type.val (x : S_internal_abi_Type) : Value := .agg (S_internal_abi_Type.cells x).toArray
def S_internal_abi_Type.ty : Ty := tStruct [(tInt .u64), (tInt .u64), (tInt .u32), (tInt .u8), (tInt .u8), (tInt .u8), (tInt .u8), tPV, tPtr, (tInt .i32), (tInt .i32)] S_internal_abi_Type.val S_internal_abi_Type.cells (fun y => ⟨y.1, y.2.1, y.2.2.1, y.2.2.2.1, y.2.2.2.2.1, y.2.2.2.2.2.1, y.2.2.2.2.2.2.1, y.2.2.2.2.2.2.2.1, y.2.2.2.2.2.2.2.2.1, y.2.2.2.2.2.2.2.2.2.1, y.2.2.2.2.2.2.2.2.2.2⟩) (fun _ => rfl) (fun _ => rfl) (fun _ => rfl)
abbrev N_u8 : Nat := 5
abbrev N_api_Word : Nat := 37
abbrev N_api_Cap : Nat := 39
abbrev N_Sl_i64 : Nat := 41
abbrev N_api_Call : Nat := 43
abbrev N_api_Reply : Nat := 47
abbrev N_api_Object : Nat := 86
abbrev N_api_Token : Nat := 88
abbrev N_api_Process : Nat := 90
abbrev N_plain_Model : Nat := 173
abbrev N_plain_token : Nat := 230
def tys : List (Nat × Ty) := [(1, tPV), (2, (tInt .i64)), (3, (tInt .i64)), (4, tBool), (5, (tInt .u8)), (6, (tInt .u8)), (7, S_runtime_boundsError.ty), (8, S_runtime_boundsError.ty), (9, tStr), (10, tStr), (11, tStr), (12, (tInt .u64)), (13, S_runtime_errorAddressString.ty), (14, S_runtime_errorAddressString.ty), (15, tPtr), (16, tPtr), (17, tPtr), (18, S_internal_runtime_maps_unhashableTypeError.ty), (19, S_internal_runtime_maps_unhashableTypeError.ty), (20, tPV), (21, (tInt .i32)), (22, S_api_Config.ty), (23, S_api_Config.ty), (24, tSl), (25, tSl), (26, tPV), (27, tPV), (28, tPtr), (29, tPV), (30, tPtr), (31, tPV), (32, tPtr), (33, tPV), (34, tSl), (35, (tInt .u64)), (36, S_api_Word.ty), (37, S_api_Word.ty), (38, S_api_Cap.ty), (39, S_api_Cap.ty), (40, tSl), (41, tSl), (42, S_api_Call.ty), (43, S_api_Call.ty), (44, tPV), (45, (tInt .i64)), (46, S_api_Reply.ty), (47, S_api_Reply.ty), (48, tPV), (49, tPV), (50, tPV), (51, tPV), (52, tPV), (53, tPV), (54, tPV), (55, tPV), (56, tPV), (57, tSl), (58, tSl), (59, tSl), (60, S_api_State.ty), (61, S_api_State.ty), (62, tPV), (64, tPV), (66, tPV), (67, tPV), (69, tPV), (71, tPV), (72, tPV), (73, tPV), (74, tSl), (76, tPV), (77, tPV), (78, tPtr), (80, tPV), (81, tPV), (82, tPV), (83, tPV), (84, tPV), (85, S_api_Object.ty), (86, S_api_Object.ty), (87, S_api_Token.ty), (88, S_api_Token.ty), (89, S_api_Process.ty), (90, S_api_Process.ty), (91, tSl), (93, tPV), (95, tPV), (96, S_book_Link.ty), (97, S_book_Link.ty), (98, tPV), (99, tPV), (100, tPV), (101, tPV), (102, tPV), (103, tSl), (104, S_ref21_Model.ty), (105, S_ref21_Model.ty), (106, tMap), (107, tMap), (108, tMap), (109, tMap), (110, S_book_Book.ty), (111, S_book_Book.ty), (112, S_ref24_List.ty), (113, S_ref24_List.ty), (114, tSl), (115, tSl), (116, tSl), (117, tSl), (118, S_ref24_Book.ty), (119, S_ref24_Book.ty), (121, tPV), (122, tPV), (123, tPV), (124, tPV), (125, tPV), (126, tPV), (127, tPV), (128, S_ref24_Token.ty), (129, S_ref24_Token.ty), (130, tSl), (131, S_ref24_Object.ty), (132, S_ref24_Object.ty), (133, tPV), (134, tPV), (135, tPV), (136, tPV), (137, tPV), (138, tPV), (139, tSl), (141, tPV), (142, tPV), (143, tPV), (144, tPV), (145, tPV), (146, S_t146.ty), (147, tPV), (148, tPV), (149, (tInt .u16)), (150, tPV), (151, (tInt .u32)), (152, tPV), (153, tPV), (154, tPV), (155, tPV), (156, tPV), (157, tPV), (158, tPtr), (159, S_ref23_Tape.ty), (160, S_ref23_Tape.ty), (161, tPV), (162, tPV), (163, tPV), (164, tPtr), (165, tPtr), (166, tPV), (167, S_image_source.ty), (168, S_image_source.ty), (169, tPV), (170, tMap), (171, tSl), (172, S_plain_Model.ty), (173, S_plain_Model.ty), (174, tPV), (176, tPV), (177, tPV), (178, tPV), (179, tPV), (180, tPV), (181, tPV), (182, tPV), (183, tPV), (184, tPV), (185, S_book_token.ty), (186, S_book_token.ty), (187, tPV), (188, tPV), (189, S_book_whom.ty), (190, S_book_whom.ty), (191, tPV), (192, tPV), (193, tPV), (194, tPV), (195, tPV), (197, tPV), (198, tPV), (199, tPV), (200, tPV), (201, S_ref21_Held.ty), (202, S_ref21_Held.ty), (203, tPV), (204, tPV), (205, tPV), (206, (tInt .u64)), (207, S_book_Link.ty), (208, S_ref24_Telling.ty), (209, S_ref24_Telling.ty), (210, tPV), (211, S_ref24_Laid.ty), (212, S_ref24_Laid.ty), (213, tPV), (214, tPV), (215, tPV), (216, tPV), (217, tPV), (218, tSl), (219, tPV), (221, tPV), (222, S_octet_Reader.ty), (223, S_octet_Reader.ty), (224, tPV), (225, tPV), (227, tPV), (228, tPV), (229, S_plain_token.ty), (230, S_plain_token.ty), (232, tPV), (234, tPV), (235, tPV), (236, tPV), (237, tPV), (238, tPV), (239, tPV), (240, tPV), (241, tMap), (243, tPV), (244, S_book_laid.ty), (245, S_book_laid.ty), (247, tPV), (248, tPV), (249, tPV), (250, tPV), (251, tPV), (253, tPV), (255, tPV), (256, tPV), (257, tPV), (258, tPV), (259, tPV), (260, tPV), (261, tPV), (262, tPV), (264, tPV), (265, tPV), (266, (tInt .i64)), (268, tPV), (269, tPV), (270, tPV), (271, tPV), (272, tPV), (273, tPV), (274, (tInt .u64)), (275, tPV), (276, tPV), (277, tPV), (278, tPtr), (279, tPV), (280, tPtr), (282, tPV), (283, tPV), (284, S_runtime_TypeAssertionError.ty), (285, S_runtime_TypeAssertionError.ty), (289, (tInt .u8)), (290, (tInt .u8)), (291, tPV), (292, tPtr), (293, (tInt .i32)), (294, (tInt .i32)), (295, S_internal_abi_Type.ty), (296, S_internal_abi_Type.ty)]
theorem callee7 : Callee Try.prog 7 Try.f7 := ⟨Try.func7, by kernel_rfl, by kernel_rfl⟩
theorem callee30 : Callee Try.prog 30 Try.f30 := ⟨Try.func30, by kernel_rfl, by kernel_rfl⟩
theorem callee31 : Callee Try.prog 31 Try.f31 := ⟨Try.func31, by kernel_rfl, by kernel_rfl⟩
theorem callee32 : Callee Try.prog 32 Try.f32 := ⟨Try.func32, by kernel_rfl, by kernel_rfl⟩
theorem callee33 : Callee Try.prog 33 Try.f33 := ⟨Try.func33, by kernel_rfl, by kernel_rfl⟩
theorem callee34 : Callee Try.prog 34 Try.f34 := ⟨Try.func34, by kernel_rfl, by kernel_rfl⟩
theorem callee35 : Callee Try.prog 35 Try.f35 := ⟨Try.func35, by kernel_rfl, by kernel_rfl⟩
theorem callee36 : Callee Try.prog 36 Try.f36 := ⟨Try.func36, by kernel_rfl, by kernel_rfl⟩
theorem callee37 : Callee Try.prog 37 Try.f37 := ⟨Try.func37, by kernel_rfl, by kernel_rfl⟩
theorem callee38 : Callee Try.prog 38 Try.f38 := ⟨Try.func38, by kernel_rfl, by kernel_rfl⟩
theorem callee39 : Callee Try.prog 39 Try.f39 := ⟨Try.func39, by kernel_rfl, by kernel_rfl⟩
theorem callee40 : Callee Try.prog 40 Try.f40 := ⟨Try.func40, by kernel_rfl, by kernel_rfl⟩
theorem callee107 : Callee Try.prog 107 Try.f107 := ⟨Try.func107, by kernel_rfl, by kernel_rfl⟩
theorem callee108 : Callee Try.prog 108 Try.f108 := ⟨Try.func108, by kernel_rfl, by kernel_rfl⟩
theorem callee109 : Callee Try.prog 109 Try.f109 := ⟨Try.func109, by kernel_rfl, by kernel_rfl⟩
theorem callee110 : Callee Try.prog 110 Try.f110 := ⟨Try.func110, by kernel_rfl, by kernel_rfl⟩
theorem callee111 : Callee Try.prog 111 Try.f111 := ⟨Try.func111, by kernel_rfl, by kernel_rfl⟩
theorem callee112 : Callee Try.prog 112 Try.f112 := ⟨Try.func112, by kernel_rfl, by kernel_rfl⟩
theorem callee113 : Callee Try.prog 113 Try.f113 := ⟨Try.func113, by kernel_rfl, by kernel_rfl⟩
theorem callee114 : Callee Try.prog 114 Try.f114 := ⟨Try.func114, by kernel_rfl, by kernel_rfl⟩
theorem callee115 : Callee Try.prog 115 Try.f115 := ⟨Try.func115, by kernel_rfl, by kernel_rfl⟩
theorem callee116 : Callee Try.prog 116 Try.f116 := ⟨Try.func116, by kernel_rfl, by kernel_rfl⟩
theorem callee117 : Callee Try.prog 117 Try.f117 := ⟨Try.func117, by kernel_rfl, by kernel_rfl⟩
theorem callee118 : Callee Try.prog 118 Try.f118 := ⟨Try.func118, by kernel_rfl, by kernel_rfl⟩
theorem callee119 : Callee Try.prog 119 Try.f119 := ⟨Try.func119, by kernel_rfl, by kernel_rfl⟩
theorem callee120 : Callee Try.prog 120 Try.f120 := ⟨Try.func120, by kernel_rfl, by kernel_rfl⟩
theorem callee121 : Callee Try.prog 121 Try.f121 := ⟨Try.func121, by kernel_rfl, by kernel_rfl⟩
theorem callee122 : Callee Try.prog 122 Try.f122 := ⟨Try.func122, by kernel_rfl, by kernel_rfl⟩
theorem callee123 : Callee Try.prog 123 Try.f123 := ⟨Try.func123, by kernel_rfl, by kernel_rfl⟩
theorem callee124 : Callee Try.prog 124 Try.f124 := ⟨Try.func124, by kernel_rfl, by kernel_rfl⟩
theorem callee125 : Callee Try.prog 125 Try.f125 := ⟨Try.func125, by kernel_rfl, by kernel_rfl⟩
theorem callee126 : Callee Try.prog 126 Try.f126 := ⟨Try.func126, by kernel_rfl, by kernel_rfl⟩
theorem callee127 : Callee Try.prog 127 Try.f127 := ⟨Try.func127, by kernel_rfl, by kernel_rfl⟩
theorem callee128 : Callee Try.prog 128 Try.f128 := ⟨Try.func128, by kernel_rfl, by kernel_rfl⟩
theorem callee135 : Callee Try.prog 135 Try.f135 := ⟨Try.func135, by kernel_rfl, by kernel_rfl⟩
theorem callee162 : Callee Try.prog 162 Try.f162 := ⟨Try.func162, by kernel_rfl, by kernel_rfl⟩
theorem callee163 : Callee Try.prog 163 Try.f163 := ⟨Try.func163, by kernel_rfl, by kernel_rfl⟩
theorem callee170 : Callee Try.prog 170 Try.f170 := ⟨Try.func170, by kernel_rfl, by kernel_rfl⟩
theorem callee171 : Callee Try.prog 171 Try.f171 := ⟨Try.func171, by kernel_rfl, by kernel_rfl⟩
theorem callee172 : Callee Try.prog 172 Try.f172 := ⟨Try.func172, by kernel_rfl, by kernel_rfl⟩
theorem callee173 : Callee Try.prog 173 Try.f173 := ⟨Try.func173, by kernel_rfl, by kernel_rfl⟩
theorem callee174 : Callee Try.prog 174 Try.f174 := ⟨Try.func174, by kernel_rfl, by kernel_rfl⟩
theorem callee175 : Callee Try.prog 175 Try.f175 := ⟨Try.func175, by kernel_rfl, by kernel_rfl⟩
theorem callee176 : Callee Try.prog 176 Try.f176 := ⟨Try.func176, by kernel_rfl, by kernel_rfl⟩
theorem callee177 : Callee Try.prog 177 Try.f177 := ⟨Try.func177, by kernel_rfl, by kernel_rfl⟩
theorem callee178 : Callee Try.prog 178 Try.f178 := ⟨Try.func178, by kernel_rfl, by kernel_rfl⟩
theorem callee179 : Callee Try.prog 179 Try.f179 := ⟨Try.func179, by kernel_rfl, by kernel_rfl⟩
theorem callee180 : Callee Try.prog 180 Try.f180 := ⟨Try.func180, by kernel_rfl, by kernel_rfl⟩
theorem callee181 : Callee Try.prog 181 Try.f181 := ⟨Try.func181, by kernel_rfl, by kernel_rfl⟩
theorem callee182 : Callee Try.prog 182 Try.f182 := ⟨Try.func182, by kernel_rfl, by kernel_rfl⟩
theorem callee183 : Callee Try.prog 183 Try.f183 := ⟨Try.func183, by kernel_rfl, by kernel_rfl⟩
theorem callee184 : Callee Try.prog 184 Try.f184 := ⟨Try.func184, by kernel_rfl, by kernel_rfl⟩
theorem callee185 : Callee Try.prog 185 Try.f185 := ⟨Try.func185, by kernel_rfl, by kernel_rfl⟩
theorem callee186 : Callee Try.prog 186 Try.f186 := ⟨Try.func186, by kernel_rfl, by kernel_rfl⟩
theorem callee187 : Callee Try.prog 187 Try.f187 := ⟨Try.func187, by kernel_rfl, by kernel_rfl⟩
theorem callee188 : Callee Try.prog 188 Try.f188 := ⟨Try.func188, by kernel_rfl, by kernel_rfl⟩
theorem callee189 : Callee Try.prog 189 Try.f189 := ⟨Try.func189, by kernel_rfl, by kernel_rfl⟩
theorem callee190 : Callee Try.prog 190 Try.f190 := ⟨Try.func190, by kernel_rfl, by kernel_rfl⟩
theorem callee199 : Callee Try.prog 199 Try.f199 := ⟨Try.func199, by kernel_rfl, by kernel_rfl⟩
theorem callee200 : Callee Try.prog 200 Try.f200 := ⟨Try.func200, by kernel_rfl, by kernel_rfl⟩
theorem callee204 : Callee Try.prog 204 Try.f204 := ⟨Try.func204, by kernel_rfl, by kernel_rfl⟩
theorem callee205 : Callee Try.prog 205 Try.f205 := ⟨Try.func205, by kernel_rfl, by kernel_rfl⟩
theorem callee206 : Callee Try.prog 206 Try.f206 := ⟨Try.func206, by kernel_rfl, by kernel_rfl⟩
theorem callee207 : Callee Try.prog 207 Try.f207 := ⟨Try.func207, by kernel_rfl, by kernel_rfl⟩
theorem callee208 : Callee Try.prog 208 Try.f208 := ⟨Try.func208, by kernel_rfl, by kernel_rfl⟩
theorem callee209 : Callee Try.prog 209 Try.f209 := ⟨Try.func209, by kernel_rfl, by kernel_rfl⟩
theorem callee210 : Callee Try.prog 210 Try.f210 := ⟨Try.func210, by kernel_rfl, by kernel_rfl⟩
theorem callee211 : Callee Try.prog 211 Try.f211 := ⟨Try.func211, by kernel_rfl, by kernel_rfl⟩
theorem callee212 : Callee Try.prog 212 Try.f212 := ⟨Try.func212, by kernel_rfl, by kernel_rfl⟩
theorem callee214 : Callee Try.prog 214 Try.f214 := ⟨Try.func214, by kernel_rfl, by kernel_rfl⟩
theorem callee217 : Callee Try.prog 217 Try.f217 := ⟨Try.func217, by kernel_rfl, by kernel_rfl⟩
theorem callee218 : Callee Try.prog 218 Try.f218 := ⟨Try.func218, by kernel_rfl, by kernel_rfl⟩
theorem callee219 : Callee Try.prog 219 Try.f219 := ⟨Try.func219, by kernel_rfl, by kernel_rfl⟩
theorem callee220 : Callee Try.prog 220 Try.f220 := ⟨Try.func220, by kernel_rfl, by kernel_rfl⟩
theorem callee221 : Callee Try.prog 221 Try.f221 := ⟨Try.func221, by kernel_rfl, by kernel_rfl⟩
theorem callee222 : Callee Try.prog 222 Try.f222 := ⟨Try.func222, by kernel_rfl, by kernel_rfl⟩
theorem callee223 : Callee Try.prog 223 Try.f223 := ⟨Try.func223, by kernel_rfl, by kernel_rfl⟩
theorem callee224 : Callee Try.prog 224 Try.f224 := ⟨Try.func224, by kernel_rfl, by kernel_rfl⟩
theorem callee225 : Callee Try.prog 225 Try.f225 := ⟨Try.func225, by kernel_rfl, by kernel_rfl⟩
theorem callee227 : Callee Try.prog 227 Try.f227 := ⟨Try.func227, by kernel_rfl, by kernel_rfl⟩
theorem callee229 : Callee Try.prog 229 Try.f229 := ⟨Try.func229, by kernel_rfl, by kernel_rfl⟩
theorem callee230 : Callee Try.prog 230 Try.f230 := ⟨Try.func230, by kernel_rfl, by kernel_rfl⟩
theorem callee231 : Callee Try.prog 231 Try.f231 := ⟨Try.func231, by kernel_rfl, by kernel_rfl⟩
theorem callee232 : Callee Try.prog 232 Try.f232 := ⟨Try.func232, by kernel_rfl, by kernel_rfl⟩
theorem callee233 : Callee Try.prog 233 Try.f233 := ⟨Try.func233, by kernel_rfl, by kernel_rfl⟩
theorem callee234 : Callee Try.prog 234 Try.f234 := ⟨Try.func234, by kernel_rfl, by kernel_rfl⟩
theorem callee235 : Callee Try.prog 235 Try.f235 := ⟨Try.func235, by kernel_rfl, by kernel_rfl⟩
end Go.Proofs.Ytbjkfllncegpcaa.K
namespace Go.Proofs.Ytbjkfllncegpcaa.K
open Go Go.ChangeShapes Go.WideShapes Go.ChangeAt Go.RowKit Go.Proofs
theorem own : ownKnob Try.prog.godebug = none := by kernel_rfl
theorem laid : laidOutB Try.prog = true := by kernel_rfl
section
variable {HH : Type} {enc : TypeId × Value → HH} {W : World} {base : Nat} {v : Value} {d : DataW HH} {ps : List MemPlace}
theorem open_u8C (n : Nat) (cs : List Value) (y : DataW HH × List MemPlace) (h : DataW.trod enc Try.prog W 0 (fun _ => true) true n N_u8 cs = some y) : ∃ x : UInt8, cs = cU8 x ∧ True := by
  obtain ⟨x, e, _, w⟩ := DataW.trod_int (k := .u8) (by kernel_rfl) h
  have w : (decide (IntKind.u8.min ≤ x) && decide (x ≤ IntKind.u8.max)) = true := w
  rw [Bool.and_eq_true, decide_eq_true_eq, decide_eq_true_eq] at w
  have w1 : (0 : Int) ≤ x := w.1
  have w2 : x ≤ (255 : Int) := w.2
  refine ⟨UInt8.ofNat x.toNat, ?_, trivial⟩
  have : (UInt8.ofNat x.toNat).toNat = x.toNat := by rw [UInt8.toNat_ofNat']; exact Nat.mod_eq_of_lt (by omega)
  rw [e, cU8, this, Int.toNat_of_nonneg w1]
end
section
variable {HH : Type} {enc : TypeId × Value → HH} {W : World} {base : Nat} {v : Value} {d : DataW HH} {ps : List MemPlace}
theorem open_intC {e : TypeId} {k : IntKind} (hu : Try.prog.underlying e = some (.int k)) {n : Nat} {cs : List Value} {y : DataW HH × List MemPlace} (h : DataW.trod enc Try.prog W 0 (fun _ => true) true n e cs = some y) : ∃ x : Int, cs = cInt k x ∧ (k.min ≤ x ∧ x ≤ k.max) := by
  obtain ⟨x, e, _, w⟩ := DataW.trod_int (k := k) hu h
  have w : (decide (k.min ≤ x) && decide (x ≤ k.max)) = true := w
  rw [Bool.and_eq_true, decide_eq_true_eq, decide_eq_true_eq] at w
  exact ⟨x, e, w⟩
theorem open_boolC {e : TypeId} (hu : Try.prog.underlying e = some .bool) {n : Nat} {cs : List Value} {y : DataW HH × List MemPlace} (h : DataW.trod enc Try.prog W 0 (fun _ => true) true n e cs = some y) : ∃ x : Bool, cs = cBool x ∧ True := by
  obtain ⟨x, e, _⟩ := DataW.trod_bool hu h
  exact ⟨x, e, trivial⟩
set_option maxRecDepth 100000 in
theorem open_str {t : TypeId} {fs : Array Field} (ht : Try.prog.underlying t = some (.struct fs)) (hval : Value.okWide Try.prog W .any base t v) (h : DataW.Trod enc Try.prog W 0 (fun _ => true) true t v d ps) : ∃ cs : List Value, v = .agg cs.toArray ∧ ∃ n y, DataW.trod enc Try.prog W 0 (fun _ => true) true n t cs = some y := by
  obtain ⟨cs, rfl, _⟩ := okWide_struct ht hval
  obtain ⟨fuel, hf⟩ := h
  exact ⟨cs.toList, by simp, fuel, _, hf⟩
end
def Weigh {HH : Type} (B : Nat) (t : TypeId) (d : DataW HH) : Prop := (d.weights Try.prog t).all (· ≤ B) = true
section
variable {HH : Type} {enc : TypeId × Value → HH} {W : World} {base : Nat} {v : Value} {d : DataW HH} {ps : List MemPlace} {B : Nat}
theorem fits_all {e : TypeId} : ∀ {l : List (DataW HH)}, (DataW.weightsAll Try.prog e l).all (· ≤ B) = true → ∀ x ∈ l, Weigh B e x := by
  intro l
  induction l with
  | nil => intro _ x hx; cases hx
  | cons a r ih =>
    intro h x hx
    rw [DataW.weightsAll, List.all_append, Bool.and_eq_true] at h
    rcases List.mem_cons.1 hx with rfl | hx
    · exact h.1
    · exact ih h.2 x hx
theorem fits_each : ∀ {ts : List TypeId} {l : List (DataW HH)}, (DataW.weightsEach Try.prog ts l).all (· ≤ B) = true → ∀ (i : Nat) t x, ts[i]? = some t → l[i]? = some x → Weigh B t x := by
  intro ts
  induction ts with
  | nil => intro l _ i t x h; simp at h
  | cons a r ih =>
    intro l h i t x h1 h2
    cases l with
    | nil => simp at h2
    | cons b s =>
      rw [DataW.weightsEach, List.all_append, Bool.and_eq_true] at h
      cases i with
      | zero =>
        simp at h1 h2
        subst h1; subst h2
        exact h.1
      | succ i => exact ih h.2 i t x (by simpa using h1) (by simpa using h2)
theorem trod_fieldW {t : TypeId} {fs : Array Field} {n : Nat} {cs : List Value} {y : DataW HH × List MemPlace} (ht : Try.prog.underlying t = some (.struct fs)) (h : DataW.trod enc Try.prog W 0 (fun _ => true) true n t cs = some y) (i : Nat) (f : Field) (hf : fs[i]? = some f) :
    ∃ y' n', DataW.trod enc Try.prog W 0 (fun _ => true) true n' f.type ((cs.drop f.offset).take (Try.prog.cellsOf f.type)) = some y' ∧ ∀ B, Weigh B t y.1 → Weigh B f.type y'.1 := by
  obtain ⟨xs, n', _, hy, _, hl, hh⟩ := DataW.trod_struct ht h
  have hi : i < xs.length := by
    rw [hl]
    rcases Nat.lt_or_ge i fs.size with q | q
    · exact q
    · rw [Array.getElem?_eq_none q] at hf; cases hf
  have := hh i f hf
  rw [List.getElem?_eq_getElem hi] at this
  refine ⟨xs[i], n', this, fun B hw => ?_⟩
  subst hy
  unfold Weigh at hw
  rw [DataW.weights, ht] at hw
  refine fits_each (ts := fs.toList.map (·.type)) (l := xs.map (·.1)) hw i _ _ ?_ ?_
  · rw [List.getElem?_map, Array.getElem?_toList, hf]; rfl
  · rw [List.getElem?_map, List.getElem?_eq_getElem hi]; rfl
theorem open_arrCW {t e : TypeId} {T : Type} (cells : T → List Value) (Good : T → Prop) (Big : Nat → T → Prop) {sz : Nat} (hs : ∀ x, (cells x).length = sz) (hpos : 0 < sz) (hc : Try.prog.cellsOf e = sz) (ht : Try.prog.underlying t = some (.slice e))
    (hT : ∀ n cs y, DataW.trod enc Try.prog W 0 (fun _ => true) true n e cs = some y → ∃ x, cs = cells x ∧ Good x ∧ ∀ B, Weigh B e y.1 → Big B x) {fuel : Nat} {cs : List Value} {d : DataW HH} {ps : List MemPlace} (hf : DataW.trod enc Try.prog W 0 (fun _ => true) true fuel t cs = some (d, ps)) :
    ∃ s xs, cs = [Sl.val s] ∧ Arr cells (heapH W) s xs ∧ (∀ x ∈ xs, Good x) ∧ s.cap ≤ maxLen ∧ ∀ B, Weigh B t d → xs.length * Try.prog.bytesOf e ≤ B ∧ ∀ x ∈ xs, Big B x := by
  rcases Go.Deep.open_slice ht hf with ⟨hcs, _⟩ | ⟨a, len, cap, m, n, D, Pl, hcs, _, hl, hm, hmm, hxd, hel⟩
  · subst hcs
    exact ⟨Sl.nil, [], rfl, ⟨rfl, Nat.le_refl _, fun e => absurd rfl e⟩, fun _ k => (by cases k), Nat.zero_le _, fun B _ => ⟨by simp, fun _ k => (by cases k)⟩⟩
  · subst hcs
    rw [if_pos rfl] at hmm
    have key : ∀ i, i < len → ∃ x, At (heapH W) (a.add (i * sz)) (cells x) ∧ Good x ∧ ∀ B, Weigh B e (D i) → Big B x := fun i hi => by
      obtain ⟨cs', h1, h2⟩ := hel i (by omega)
      obtain ⟨x, rfl, g, gb⟩ := hT _ _ _ h2
      rw [hc] at h1
      exact ⟨x, at_cells h1 hpos, g, gb⟩
    have mk : ∀ n, n ≤ len → ∃ xs : List T, xs.length = n ∧ ∀ i v, xs[i]? = some v → At (heapH W) (a.add (i * sz)) (cells v) ∧ Good v ∧ ∀ B, Weigh B e (D i) → Big B v := by
      intro n
      induction n with
      | zero => exact fun _ => ⟨[], rfl, fun i v k => by simp at k⟩
      | succ n ih =>
        intro hn
        obtain ⟨xs, hx, hg⟩ := ih (by omega)
        obtain ⟨x, q⟩ := key n (by omega)
        refine ⟨xs ++ [x], by simp [hx], fun i v k => ?_⟩
        rcases Nat.lt_or_ge i xs.length with r | r
        · rw [List.getElem?_append_left r] at k; exact hg i v k
        · rw [List.getElem?_append_right r] at k
          have hlt := lt_of_get k
          simp at hlt
          have : i = n := by omega
          subst this
          rw [hx, Nat.sub_self] at k
          cases k; exact q
    obtain ⟨xs, hx, hg⟩ := mk len (Nat.le_refl _)
    exact ⟨⟨some a, len, cap⟩, xs, rfl, ⟨hx.symm, hl, fun hne => ⟨a, rfl, at_flat hs xs a hne fun i v k => (hg i v k).1⟩⟩, fun x hx => by
      obtain ⟨i, hi, rfl⟩ := List.getElem_of_mem hx
      exact (hg i _ (List.getElem?_eq_getElem hi)).2.1, hm, fun B hw => by
        obtain ⟨rfl, -⟩ := Prod.mk.inj hxd
        unfold Weigh at hw
        rw [DataW.weights, ht] at hw
        simp only [List.all_cons, List.all_append, Bool.and_eq_true, decide_eq_true_eq, List.length_map, List.length_range] at hw
        refine ⟨Nat.le_trans (Nat.mul_le_mul_right _ ?_) hw.1, fun x hx' => ?_⟩
        · omega
        · obtain ⟨i, hi, rfl⟩ := List.getElem_of_mem hx'
          exact (hg i _ (List.getElem?_eq_getElem hi)).2.2 B (fits_all hw.2.1 _ (List.mem_map.2 ⟨i, List.mem_range.2 (by omega), rfl⟩))⟩
theorem open_slCW {t e : TypeId} {T : Type} {cells : T → List Value} {Good : T → Prop} {sz : Nat} (hs : ∀ x, (cells x).length = sz) (hpos : 0 < sz) (hc : Try.prog.cellsOf e = sz) (ht : Try.prog.underlying t = some (.slice e))
    (hT : ∀ n cs (y : DataW HH × List MemPlace), DataW.trod enc Try.prog W 0 (fun _ => true) true n e cs = some y → ∃ x, cs = cells x ∧ Good x) {n : Nat} {cs : List Value} {y : DataW HH × List MemPlace} (h : DataW.trod enc Try.prog W 0 (fun _ => true) true n t cs = some y) :
    ∃ s : Sl, cs = cSl s ∧ (∃ xs, Arr cells (heapH W) s xs ∧ (∀ x ∈ xs, Good x) ∧ s.cap ≤ maxLen) ∧ ∀ B, Weigh B t y.1 → s.len * Try.prog.bytesOf e ≤ B := by
  obtain ⟨d, ps⟩ := y
  obtain ⟨s, xs, e, a, g, c, w⟩ := open_arrCW (enc := enc) cells Good (fun _ _ => True) hs hpos hc ht (fun n cs y h => by obtain ⟨x, e, g⟩ := hT n cs y h; exact ⟨x, e, g, fun _ _ => trivial⟩) h
  exact ⟨s, e, ⟨xs, a, g, c⟩, fun B q => by rw [a.len]; exact (w B q).1⟩
set_option maxRecDepth 100000 in
theorem open_arrW {t e : TypeId} {T : Type} (cells : T → List Value) (Good : T → Prop) (Big : Nat → T → Prop) {sz : Nat} (hs : ∀ x, (cells x).length = sz) (hpos : 0 < sz) (hc : Try.prog.cellsOf e = sz) (ht : Try.prog.underlying t = some (.slice e))
    (hT : ∀ n cs y, DataW.trod enc Try.prog W 0 (fun _ => true) true n e cs = some y → ∃ x, cs = cells x ∧ Good x ∧ ∀ B, Weigh B e y.1 → Big B x) (hval : Value.okWide Try.prog W .any base t v) (h : DataW.Trod enc Try.prog W 0 (fun _ => true) true t v d ps) :
    ∃ s xs, v = Sl.val s ∧ Arr cells (heapH W) s xs ∧ (∀ x ∈ xs, Good x) ∧ s.cap ≤ maxLen ∧ ∀ B, Weigh B t d → xs.length * Try.prog.bytesOf e ≤ B ∧ ∀ x ∈ xs, Big B x := by
  obtain ⟨a0, len, cap, rfl⟩ := okWide_slice ht hval
  obtain ⟨fuel, hf⟩ := h
  obtain ⟨s, xs, e1, r⟩ := open_arrCW cells Good Big hs hpos hc ht hT hf
  exact ⟨s, xs, (List.cons.inj e1).1, r⟩
end
end Go.Proofs.Ytbjkfllncegpcaa.K
namespace Go.Proofs.Ytbjkfllncegpcaa.K
open Go
section
variable {K V : Type} [DecidableEq K]
theorem adel_sub (k : K) : ∀ (l : List (K × V)) (q : K × V), q ∈ adel l k → q ∈ l := by
  intro l
  induction l with
  | nil => intro q h; exact h
  | cons p r ih =>
    obtain ⟨a, w⟩ := p
    intro q h
    rw [adel_cons] at h
    by_cases e : k = a
    · rw [if_pos e] at h; exact List.mem_cons_of_mem _ h
    · rw [if_neg e] at h
      rcases List.mem_cons.1 h with z | z
      · exact List.mem_cons.2 (.inl z)
      · exact List.mem_cons_of_mem _ (ih q z)
theorem adel_keys (k : K) : ∀ (l : List (K × V)), (l.map (·.1)).Nodup → (adel l k).map (·.1) = (l.map (·.1)).erase k := by
  intro l
  induction l with
  | nil => intro _; rfl
  | cons p r ih =>
    obtain ⟨a, w⟩ := p
    intro h
    rw [List.map_cons, List.nodup_cons] at h
    rw [adel_cons, List.map_cons]
    by_cases e : k = a
    · rw [if_pos e, e, List.erase_cons_head]
    · rw [if_neg e, List.map_cons, ih h.2, List.erase_cons_tail (by simpa using fun z => e z.symm)]
theorem Once.del {l : List (K × V)} (x : Once l) (k : K) : Once (adel l k) := by
  unfold Once at *
  rw [adel_keys k l x]
  exact x.erase k
theorem aset_mem (k : K) (v : V) : ∀ (l : List (K × V)) (q : K × V), q ∈ aset l k v → q = (k, v) ∨ q ∈ l := by
  intro l
  induction l with
  | nil => intro q h; exact .inl (by simpa [aset, aidx] using h)
  | cons p r ih =>
    obtain ⟨a, w⟩ := p
    intro q h
    rw [aset_cons] at h
    by_cases e : k = a
    · rw [if_pos e] at h
      rcases List.mem_cons.1 h with z | z
      · exact .inl z
      · exact .inr (List.mem_cons_of_mem _ z)
    · rw [if_neg e] at h
      rcases List.mem_cons.1 h with z | z
      · exact .inr (List.mem_cons.2 (.inl z))
      · exact (ih q z).imp id (List.mem_cons_of_mem _)
theorem alook_mem {l : List (K × V)} {k : K} {v : V} (h : alook l k = some v) : (k, v) ∈ l := by
  induction l with
  | nil => cases h
  | cons p r ih =>
    obtain ⟨a, w⟩ := p
    rw [alook_cons] at h
    by_cases e : k = a
    · rw [if_pos e] at h; cases h; subst e; exact List.mem_cons_self ..
    · rw [if_neg e] at h; exact List.mem_cons_of_mem _ (ih h)
theorem Once.look {l : List (K × V)} (x : Once l) {k : K} {v : V} (h : (k, v) ∈ l) : alook l k = some v := by
  unfold Once at x
  induction l with
  | nil => cases h
  | cons p r ih =>
    obtain ⟨a, w⟩ := p
    rw [List.map_cons, List.nodup_cons] at x
    rw [alook_cons]
    rcases List.mem_cons.1 h with z | z
    · cases z; rw [if_pos rfl]
    · rw [if_neg (fun e => x.1 (by rw [← e]; exact List.mem_map.2 ⟨_, z, rfl⟩)), ih x.2 z]
end
def isort (l : List Int) : List Int := l.mergeSort fun x y => decide (x ≤ y)
theorem isort_perm (l : List Int) : (isort l).Perm l := List.mergeSort_perm _ _
theorem isort_le (l : List Int) : (isort l).Pairwise (· ≤ ·) := by
  have h := List.pairwise_mergeSort (le := fun x y : Int => decide (x ≤ y)) (fun a b c h1 h2 => by simp only [decide_eq_true_eq] at *; omega) (fun a b => by simp only [Bool.or_eq_true, decide_eq_true_eq]; omega) l
  exact h.imp fun z => by simpa using z
theorem isort_eq {l m : List Int} (h : l.Perm m) : isort l = isort m :=
  List.Perm.eq_of_pairwise (fun _ _ _ _ h1 h2 => Int.le_antisymm h1 h2) (isort_le l) (isort_le m) (((isort_perm l).trans h).trans (isort_perm m).symm)
theorem isort_nodup {l : List Int} (h : l.Nodup) : (isort l).Nodup := (isort_perm l).symm.nodup h
theorem rising_eq {l m : List Int} (hl : l.Pairwise (· < ·)) (hm : m.Pairwise (· < ·)) (h : ∀ x, x ∈ l ↔ x ∈ m) : l = m := by
  have nl : l.Nodup := hl.imp fun z => by omega
  have nm : m.Nodup := hm.imp fun z => by omega
  exact List.Perm.eq_of_pairwise (le := (· < ·)) (fun _ _ _ _ h1 h2 => by omega) hl hm ((List.perm_ext_iff_of_nodup nl nm).2 h)
theorem isort_rising {l : List Int} (h : l.Nodup) : (isort l).Pairwise (· < ·) := by
  have h1 := isort_le l
  have h2 := isort_nodup h
  exact (h1.and h2).imp fun z => by have := z.1; have := z.2; omega
theorem i64_eq {x : Int} (h1 : -9223372036854775808 ≤ x) (h2 : x < 9223372036854775808) : IntKind.i64.wrap x = x := by rw [IntKind.wrap_i64]; omega
theorem iAdd_eq {a b : Int} (h1 : -9223372036854775808 ≤ a + b) (h2 : a + b < 9223372036854775808) : iAdd .i64 a b = a + b := i64_eq h1 h2
theorem iSub_eq {a b : Int} (h1 : -9223372036854775808 ≤ a - b) (h2 : a - b < 9223372036854775808) : iSub .i64 a b = a - b := i64_eq h1 h2
theorem wrap_u64 (x : Int) : IntKind.u64.wrap x = x % 18446744073709551616 := by
  unfold IntKind.wrap
  simp [IntKind.signed, IntKind.bits]
theorem u_wrap {n : Nat} (h : n < 2 ^ 64) : IntKind.u64.wrap (n : Int) = (n : Int) := by rw [wrap_u64]; omega
theorem u_bv {n : Nat} (h : n < 2 ^ 64) : (BitVec.ofInt 64 (n : Int)).toNat = n := by
  rw [BitVec.ofInt_natCast, BitVec.toNat_ofNat]; exact Nat.mod_eq_of_lt h
theorem u_and {a b : Nat} (ha : a < 2 ^ 64) (hb : b < 2 ^ 64) : iAnd .u64 (a : Int) (b : Int) = ((a &&& b : Nat) : Int) := by
  show IntKind.u64.wrap ((BitVec.ofInt 64 (a : Int) &&& BitVec.ofInt 64 (b : Int)).toNat : Int) = _
  rw [BitVec.toNat_and, u_bv ha, u_bv hb, u_wrap (Nat.and_lt_two_pow _ hb)]
theorem pow_lt {n : Nat} (h : n < 64) : 2 ^ n < 2 ^ 64 := Nat.pow_lt_pow_right (by decide) h
theorem u_shl1 {n : Nat} (h : n < 64) : iShl .u64 1 (n : Int) = ((2 ^ n : Nat) : Int) := by
  show IntKind.u64.wrap (1 * 2 ^ (min (n : Int).toNat 64)) = _
  rw [Int.toNat_natCast, Nat.min_eq_left (by omega), Int.one_mul]
  have : ((2 : Int) ^ n) = ((2 ^ n : Nat) : Int) := by simp
  rw [this, u_wrap (pow_lt h)]
theorem u_shr {a n : Nat} (h : n ≤ 64) : iShr .u64 (a : Int) (n : Int) = ((a / 2 ^ n : Nat) : Int) := by
  show (a : Int).fdiv (2 ^ (min (n : Int).toNat 64)) = _
  rw [Int.toNat_natCast, Nat.min_eq_left h]
  have : ((2 : Int) ^ n) = ((2 ^ n : Nat) : Int) := by simp
  rw [this, Int.fdiv_eq_ediv_of_nonneg _ (Int.natCast_nonneg _)]
  rfl
theorem u_mask {n : Nat} (h : n < 64) : iSub .u64 (iShl .u64 1 (n : Int)) 1 = ((2 ^ n - 1 : Nat) : Int) := by
  rw [u_shl1 h]
  show IntKind.u64.wrap (((2 ^ n : Nat) : Int) - 1) = _
  have h1 : 0 < 2 ^ n := Nat.two_pow_pos n
  have h2 := pow_lt h
  rw [show ((2 ^ n : Nat) : Int) - 1 = ((2 ^ n - 1 : Nat) : Int) by omega, u_wrap (by omega)]
theorem u_low {a n : Nat} (ha : a < 2 ^ 64) (h : n < 64) : iAnd .u64 (a : Int) (iSub .u64 (iShl .u64 1 (n : Int)) 1) = ((a % 2 ^ n : Nat) : Int) := by
  rw [u_mask h, u_and ha (by have := pow_lt h; omega), Nat.and_two_pow_sub_one_eq_mod]
abbrev N_int : Nat := 3
theorem ci_len : ∀ x : Int, (cInt .i64 x).length = 1 := fun _ => rfl
theorem ia (a b : Nat) (h : a + b < 2 ^ 62) : iAdd .i64 (a : Int) (b : Int) = ((a + b : Nat) : Int) := (iAdd_eq (a := (a : Int)) (b := (b : Int)) (by omega) (by omega)).trans (by omega)
theorem ia1 (a : Nat) (h : a < 2 ^ 61) : iAdd .i64 (a : Int) 1 = ((a + 1 : Nat) : Int) := ia a 1 (by omega)
theorem is_ (a b : Nat) (h : a < 2 ^ 62) (hb : b ≤ a) : iSub .i64 (a : Int) (b : Int) = ((a - b : Nat) : Int) := (iSub_eq (a := (a : Int)) (b := (b : Int)) (by omega) (by omega)).trans (by omega)
theorem is1 (a : Nat) (h : a < 2 ^ 62) (hb : 1 ≤ a) : iSub .i64 (a : Int) 1 = ((a - 1 : Nat) : Int) := is_ a 1 h hb
theorem im2 (a : Nat) (h : a < 2 ^ 60) : iMul .i64 2 (a : Int) = ((2 * a : Nat) : Int) := by
  have : iMul .i64 2 (a : Int) = 2 * (a : Int) := i64_eq (by omega) (by omega)
  rw [this]; omega
theorem iq (a k : Nat) (h : a < 2 ^ 62) : iQuo .i64 (a : Int) (k : Int) = ((a / k : Nat) : Int) := by
  have e : (a : Int).tdiv (k : Int) = ((a / k : Nat) : Int) := rfl
  have l : a / k ≤ a := Nat.div_le_self a k
  show IntKind.i64.wrap ((a : Int).tdiv (k : Int)) = _
  rw [e]
  generalize a / k = c at l
  exact i64_eq (by omega) (by omega)
end Go.Proofs.Ytbjkfllncegpcaa.K
namespace Go.Proofs.Ytbjkfllncegpcaa.K
open Go Go.Proofs
def m_mask_Valid (a0 : Int) (K : (Bool) → H → Prop) : H → Prop :=
 K ((decide (1 ≤ a0)) && (decide (a0 ≤ 31)))
def x_mask_Valid : Cx Try.prog := ⟨tys, [], [], [], mixed⟩
def h_mask_Valid : Hint := (.seq .d (.seq (.reg (.run [3, 7, 11] (.sel 5 8 448 (.run [15, 19, 23] .nil) (.run [15, 19, 23] .nil) (.run [27] .nil)))) .d))
def s_mask_Valid : Spec Try.prog := mkSpec x_mask_Valid 199 Try.f199 [(tInt .i64)] [tBool] true h_mask_Valid (fun a => m_mask_Valid a) (fun a K h => by kernel_rfl) callee199 rfl
def m_mask_Part (a0 : Int) (a1 : Int) (K : (Bool) → H → Prop) : H → Prop :=
 mPure (m_mask_Valid a0) fun r1 =>
 mIf r1 (
 mPure (m_mask_Valid a1) fun r3 =>
 K (r3 && (decide ((iAnd .i64 a0 a1) = a0)))
 ) (
 K false
 )
def x_mask_Part : Cx Try.prog := ⟨tys, [s_mask_Valid], [], [], mixed⟩
def h_mask_Part : Hint := (.seq .d (.seq (.reg (.run [3, 7, 11] (.split 7 (.run [15, 19, 23, 27] (.sel 11 17 258048 (.run [31, 35, 39, 43, 47, 51] .nil) (.run [31, 35, 39, 43, 47, 51] .nil) (.run [55] .nil))) (.run [15, 19, 23, 27, 31, 35, 39, 43, 47, 51, 55] .nil)))) .d))
def s_mask_Part : Spec Try.prog := mkSpec x_mask_Part 162 Try.f162 [(tInt .i64), (tInt .i64)] [tBool] true h_mask_Part (fun a => m_mask_Part a.1 a.2) (fun a K h => by kernel_rfl) callee162 rfl
def m_mask_Has (a0 : Int) (a1 : Int) (K : (Bool) → H → Prop) : H → Prop :=
 mPure (m_mask_Part a1 a0) fun r1 =>
 K r1
def x_mask_Has : Cx Try.prog := ⟨tys, [s_mask_Part], [], [], mixed⟩
def h_mask_Has : Hint := .d
def s_mask_Has : Spec Try.prog := mkSpec x_mask_Has 205 Try.f205 [(tInt .i64), (tInt .i64)] [tBool] true h_mask_Has (fun a => m_mask_Has a.1 a.2) (fun a K h => by kernel_rfl) callee205 rfl
end Go.Proofs.Ytbjkfllncegpcaa.K
namespace Go.Proofs.Ytbjkfllncegpcaa.K
open Go
instance : DecidableEq S_api_Word := fun a b => decidable_of_iff (a.Hi = b.Hi ∧ a.Lo = b.Lo) ⟨fun ⟨h1, h2⟩ => by cases a; cases b; simp_all, fun e => by subst e; exact ⟨rfl, rfl⟩⟩
instance : DecidableEq S_api_Cap := fun a b => decidable_of_iff (a.Obj = b.Obj ∧ a.Pass = b.Pass) ⟨fun ⟨h1, h2⟩ => by cases a; cases b; simp_all, fun e => by subst e; exact ⟨rfl, rfl⟩⟩
theorem cap_eqB (x y : S_api_Cap) : ((decide (x.Obj = y.Obj)) && (((decide (x.Pass.Hi = y.Pass.Hi)) && ((decide (x.Pass.Lo = y.Pass.Lo)) && true)) && true)) = decide (x = y) := by
  obtain ⟨a, b, c⟩ := x
  obtain ⟨a', b', c'⟩ := y
  rw [Bool.eq_iff_iff]
  simp only [Bool.and_eq_true, decide_eq_true_eq, Bool.and_true, S_api_Cap.mk.injEq, S_api_Word.mk.injEq]
theorem pt_add (p n : Nat) : (⟨p, 0, none⟩ : Addr).add n = ⟨p, n, none⟩ := by rw [addr_add, Nat.zero_add]
theorem w_Valid {h : H} {r : Int} {k : Bool → H → Prop} (y : k (decide (1 ≤ r ∧ r ≤ 31)) h) : mPure (m_mask_Valid r) k h := by
  refine w_pure _ (fun _ _ z => ?_) y
  unfold m_mask_Valid
  rw [← Bool.decide_and]; exact z
def partOf (sub r : Int) : Bool := decide (1 ≤ sub ∧ sub ≤ 31) && (decide (1 ≤ r ∧ r ≤ 31) && decide (iAnd .i64 sub r = sub))
theorem t_Part {h : H} {sub r : Int} {K : Bool → H → Prop} (y : K (partOf sub r) h) : m_mask_Part sub r K h := by
  unfold m_mask_Part
  unfold partOf at y
  refine w_Valid (w_if (fun c => ?_) fun c => ?_)
  · rw [c, Bool.true_and] at y; exact w_Valid y
  · rw [c] at y; exact y
theorem w_Part {h : H} {sub r : Int} {k : Bool → H → Prop} (y : k (partOf sub r) h) : mPure (m_mask_Part sub r) k h := w_pure _ (fun _ _ z => t_Part z) y
theorem callV_of {P : Program} (s : Spec P) {first cap : Array Value} {args : List Value} (a : Den s.A) (e : first ++ args.toArray ++ cap = (valsD s.A a).toArray) {k : Den s.R → HP} {h : H} (hm : s.m a k h) :
    mCallV P (fun r => outV (valsD s.R r)) (.func (.func s.f) first cap) args k h := by
  obtain ⟨fn, c⟩ := s.callee
  exact .inl ⟨_, fn, first, cap, rfl, c, by rw [e]; exact s.ok a k h hm⟩
section
variable {T : Type} {cells : T → List Value} {sz by_ : Nat} {e : TypeId} {h : H}
theorem w_appIn (hs : ∀ x, (cells x).length = sz) {zero : Array Value} (hz : zero.size = sz) {m : Nat} {new : List Value} {s : Sl} {xs : List T} (x : Buf cells sz e h s xs) (ys : List T) (hnew : new = flat cells ys) (hm : m = ys.length) (fit : s.len + ys.length ≤ s.cap)
    (room : (2 * (xs.length + ys.length) + 192) * by_ ≤ 2 ^ 48) {k : Sl → H → Prop} (y : ∀ h', Buf cells sz e h' ⟨s.a, s.len + ys.length, s.cap⟩ (xs ++ ys) → But s.foot h h' → (∀ b, h' b = none → h b = none) → k ⟨s.a, s.len + ys.length, s.cap⟩ h') : mApp e sz by_ zero m new s k h := by
  subst hm; subst hnew
  refine ⟨fun hle => ?_, fun hgt => absurd fit hgt⟩
  have old := (w_app hs hz x ys rfl rfl (.inl room) (k := fun s' h' => s' = ⟨s.a, s.len + ys.length, s.cap⟩ → k s' h') (fun s' h' bu b _ d eq => by subst eq; exact y h' bu b d) : mApp e sz by_ zero ys.length (flat cells ys) s _ h).1 hle
  obtain ⟨sa, sl, sc⟩ := s
  cases sa with
  | none => exact ⟨old.1, old.2 rfl⟩
  | some a =>
    rcases old with ⟨p, q⟩ | ⟨p, c, e', fz, hb, hl, hf, q⟩
    · exact .inl ⟨p, q rfl⟩
    · exact .inr ⟨p, c, e', fz, hb, hl, hf, q rfl⟩
theorem foot_front {s : Sl} {n c b : Nat} (f : (⟨s.a, n, c⟩ : Sl).foot b) : s.foot b := f
theorem Buf.front {s : Sl} {xs : List T} (x : Buf cells sz e h s xs) {n : Nat} (hn : n ≤ xs.length) : Buf cells sz e h ⟨s.a, n, s.cap⟩ (xs.take n) := by
  have hl := x.len
  have hc := x.cap
  refine ⟨by show n = _; rw [List.length_take]; omega, by show n ≤ s.cap; omega, x.at_.imp id fun ⟨b, z, fz, ha, hb, hz, ht⟩ => ⟨b, flat cells (xs.drop n) ++ z, fz, ha, ?_, ?_, ht⟩⟩
  · rw [← List.append_assoc, ← flat_append, List.take_append_drop]; exact hb
  · rw [← List.append_assoc, ← flat_append, List.take_append_drop]; exact hz
theorem w_delete (hs : ∀ x, (cells x).length = sz) (hp : ∀ x, (cells x).all plainVal = true) (z0 : T) {zero : Array Value} (hz : zero = (cells z0).toArray) {s : Sl} {xs : List T} (x : Buf cells sz e h s xs) {i : Nat} (hi : i < xs.length) (room : (2 * xs.length + 192) * by_ ≤ 2 ^ 48) {i' j' : Int} (ei : i' = i) (ej : j' = ((i + 1 : Nat) : Int)) {k : Sl → H → Prop}
    (y : ∀ s' h', Buf cells sz e h' s' (xs.eraseIdx i) → (∀ b, s'.foot b → s.foot b) → But s.foot h h' → (∀ b, h' b = none → h b = none) → k s' h') :
    mCut3 s i' j' (s.len : Int) sz (fun _ => mIf (decide (i' = j')) (k s) (mCut s 0 i' sz fun s2 => mCut s j' (s.len : Int) sz fun s3 => mAppend e sz by_ zero s2 s3 fun s4 => mCut s4 (s4.len : Int) (s.len : Int) sz fun s5 => mClear zero s5 <| k s4)) h := by
  subst ei; subst ej
  have hl := x.len
  have hc := x.cap
  refine ⟨_, ⟨by omega, by omega, by omega, by omega, rfl⟩, w_if' (fun c => by omega) fun _ => ?_⟩
  have hcut : (if s.cap = 0 then s.a else s.a.map (·.add (0 * sz))) = s.a := by
    split
    · rfl
    · cases s.a <;> simp [add_zero]
  refine w_cut (lo := 0) (hi := i) rfl rfl (Nat.zero_le _) (by omega) ?_
  rw [hcut, Nat.sub_zero, Nat.sub_zero]
  refine w_mid hs x.arr (lo := i + 1) (hi := xs.length) (by omega) (Nat.le_refl _) rfl (by rw [hl]) fun s3 a3 _ _ _ => ?_
  have bu2 := x.front (n := i) (by omega)
  have e3 : (xs.drop (i + 1)).take (xs.length - (i + 1)) = xs.drop (i + 1) := by rw [List.take_of_length_le]; rw [List.length_drop]; omega
  rw [e3] at a3
  have hl3 : (xs.drop (i + 1)).length = xs.length - (i + 1) := List.length_drop ..
  have hl2 : (xs.take i).length = i := by rw [List.length_take]; omega
  refine ⟨flat cells (xs.drop (i + 1)), a3.row, fun _ => by rw [flat_len hs, a3.len], ?_, w_appIn hs (by rw [hz, List.size_toArray, hs]) bu2 (xs.drop (i + 1)) rfl a3.len (by rw [hl3]; show i + _ ≤ s.cap; omega) (Nat.le_trans (Nat.mul_le_mul_right _ (by omega)) room) fun h4 bu4 b4 d4 => ?_⟩
  · rw [List.all_eq_true]
    intro v hv
    obtain ⟨t, _, hv⟩ := List.mem_flatMap.1 hv
    exact List.all_eq_true.1 (hp t) v hv
  have exs : xs.take i ++ xs.drop (i + 1) = xs.eraseIdx i := by rw [List.eraseIdx_eq_take_drop_succ]
  rw [exs] at bu4
  have hlen : i + (xs.drop (i + 1)).length = xs.length - 1 := by omega
  show mCut ⟨s.a, i + (xs.drop (i + 1)).length, s.cap⟩ ((i + (xs.drop (i + 1)).length : Nat) : Int) (s.len : Int) sz _ h4
  have bu4' : Buf cells sz e h4 ⟨s.a, i + (xs.drop (i + 1)).length, s.cap⟩ (xs.eraseIdx i) := bu4
  rw [hlen] at bu4' ⊢
  refine w_cut (lo := xs.length - 1) (hi := s.len) rfl rfl (by omega) (by show s.len ≤ s.cap; omega) ?_
  have el : (xs.eraseIdx i).length = xs.length - 1 := by rw [List.length_eraseIdx, if_pos hi]
  rcases bu4'.at_ with ⟨ha, h0⟩ | ⟨b, z, fz, ha, hb, hzl, hth⟩
  · have h0 : s.cap = 0 := h0
    omega
  have ha : s.a = some ⟨b, 0, none⟩ := ha
  have hzl : (flat cells (xs.eraseIdx i) ++ z).length = s.cap * sz := hzl
  have hth : Thawed fz (s.cap * sz) := hth
  have hne : s.cap ≠ xs.length - 1 := by omega
  show mClear zero ⟨if s.cap = xs.length - 1 then s.a else s.a.map (·.add ((xs.length - 1) * sz)), s.len - (xs.length - 1), s.cap - (xs.length - 1)⟩ _ h4
  rw [if_neg hne, ha, show s.len - (xs.length - 1) = 1 by omega]
  refine .inr ⟨by show (1 : Nat) ≠ 0; omega, (⟨b, 0, none⟩ : Addr).add ((xs.length - 1) * sz), rfl, ?_⟩
  rw [show (Builtin.zeroCells zero 1).toList = flat cells (List.replicate 1 z0) from zero_flat hs z0 hz 1]
  have hzn : sz ≤ z.length := by
    rw [List.length_append, flat_len hs, el] at hzl
    have : (xs.length - 1) * sz + sz ≤ s.cap * sz := by rw [← Nat.succ_mul]; exact Nat.mul_le_mul_right _ (by omega)
    omega
  have hb' : h4 b = some (.cells (flat cells (xs.eraseIdx i) ++ z.take sz ++ z.drop sz).toArray e fz) := by rw [List.append_assoc, List.take_append_drop]; exact hb
  refine w_storeF (l1 := flat cells (xs.eraseIdx i)) (addr_add _ _ _) hb' (by rw [List.append_assoc, List.take_append_drop, hzl]; exact hth) (by rw [flat_len hs, el, Nat.zero_add]) (by rw [flat_len hs, List.length_replicate, List.length_take]; omega) ?_
  refine y _ _ ⟨bu4'.len, bu4'.cap, .inr ⟨b, flat cells (List.replicate 1 z0) ++ z.drop sz, fz, rfl, ?_, ?_, hth⟩⟩ (fun b f => ⟨_, ha, (by obtain ⟨a, q, r⟩ := f; cases q; exact r)⟩) (b4.trans (But.upd (F := (· = b)) rfl) fun n q => .inl ⟨_, ha, q.symm⟩) fun c hc => d4 c (upd_none.1 hc).2
  · rw [upd_same, List.append_assoc]
  · rw [← hzl, List.length_append, List.length_append, List.length_append, flat_len hs, flat_len hs, List.length_replicate, List.length_drop]; omega
end
theorem w_clone {T : Type} {cells : T → List Value} {sz by_ : Nat} {e : TypeId} (hs : ∀ x, (cells x).length = sz) (hp : ∀ x, (cells x).all plainVal = true) {zero : Array Value} (hz : zero.size = sz) {h : H} {s : Sl} {xs : List T} (x : Arr cells h s xs) (room : xs.length * by_ ≤ 2 ^ 48) {k : Sl → H → Prop}
    (y : ∀ s' h', Buf cells sz e h' s' xs → Keeps h h' → (∀ b, s'.foot b → h b = none) → k s' h') :
    mIf (s.a.isNone) (k Sl.nil) (mNew e #[] fun ad => mAppend e sz by_ zero (⟨some ad, 0, 0⟩ : Sl) s fun s2 => k s2) h := by
  refine w_if (fun c => ?_) fun c => w_new fun b hb => ?_
  · have hx : xs = [] := by
      rcases List.eq_nil_or_concat xs with q | ⟨r, a, q⟩
      · exact q
      · obtain ⟨a', ha, _⟩ := x.at_ (by rw [q]; simp)
        rw [ha] at c; cases c
    subst hx
    exact y _ _ Buf.nil (.refl _) fun b ⟨a, ha, _⟩ => by cases ha
  · have bu : Buf cells sz e (upd h b (.cells #[] e (0, 0))) ⟨some ⟨b, 0, none⟩, 0, 0⟩ ([] : List T) := ⟨rfl, Nat.le_refl _, .inr ⟨b, [], (0, 0), rfl, upd_same _ _ _, by simp [flat], thawed0 _⟩⟩
    refine w_append hs hp hz bu (x.keep (.new hb)) (.inr ⟨rfl, room⟩) fun s' h' bu' b' f' n' => ?_
    rw [List.nil_append] at bu'
    have foot : ∀ c, (⟨some ⟨b, 0, none⟩, 0, 0⟩ : Sl).foot c → h c = none := fun c ⟨a, ha, hc⟩ => by
      cases ha; subst hc; exact hb
    refine y s' h' bu' (Keeps.but (.new hb) b' foot) fun c fc => ?_
    rcases f' c fc with q | q
    · exact foot c q
    · exact (upd_none.1 q).2
structure KChg (F F' : Nat → Prop) (h h' : H) : Prop where
  but : But F h h'
  foot : ∀ c, F' c → F c ∨ h c = none
  dom : ∀ c, h' c = none → h c = none
theorem KChg.trans {F1 F2 F3 : Nat → Prop} {h1 h2 h3 : H} (x : KChg F1 F2 h1 h2) (y : KChg F2 F3 h2 h3) : KChg F1 F3 h1 h3 :=
  ⟨x.but.trans y.but fun n f => x.foot n f, fun c f => (y.foot c f).elim (x.foot c) fun e => .inr (x.dom c e), fun c e => x.dom c (y.dom c e)⟩
section
variable {h : H}
theorem w_box {t : TypeId} {c : Array Value} {k : Addr → H → Prop} (y : ∀ b h', h b = none → h' b = some (.cells c t (0, 0)) → Keeps h h' → k ⟨b, 0, none⟩ h') : mNew t c k h := w_new fun b hb => y b _ hb (upd_same _ _ _) (.new hb)
theorem w_setBox {b : Nat} {old new : List Value} {t : TypeId} {k : H → Prop} (e : h b = some (.cells old.toArray t (0, 0))) (hn : new.length = old.length) (y : ∀ h', h' b = some (.cells new.toArray t (0, 0)) → But (· = b) h h' → (∀ c, h' c = none → h c = none) → k h') : mStore ⟨b, 0, none⟩ new k h :=
  w_store (l1 := []) (l2 := old) (l3 := []) rfl (by rw [List.nil_append, List.append_nil]; exact e) rfl hn (by rw [List.nil_append, List.append_nil]; exact y _ (upd_same _ _ _) (.upd rfl) fun c q => (upd_none.1 q).2)
theorem at_box {b : Nat} {cs : List Value} {t : TypeId} {fz : Nat × Nat} (e : h b = some (.cells cs.toArray t fz)) : At h ⟨b, 0, none⟩ cs := At.own (l1 := []) (l3 := []) (by rw [List.nil_append, List.append_nil]; exact e) rfl
theorem Buf.one {T : Type} {cells : T → List Value} {sz : Nat} {e : TypeId} (hs : ∀ x, (cells x).length = sz) {b : Nat} {x : T} (q : h b = some (.cells (cells x).toArray e (0, 0))) : Buf cells sz e h ⟨some ⟨b, 0, none⟩, 1, 1⟩ [x] := by
  have e1 : flat cells [x] ++ [] = cells x := by simp [flat]
  exact ⟨rfl, Nat.le_refl _, .inr ⟨b, [], (0, 0), rfl, by rw [e1]; exact q, by rw [e1, hs]; simp, thawed0 _⟩⟩
end
theorem cap_len : ∀ x, (S_api_Cap.cells x).length = 3 := fun _ => rfl
theorem cap_plain : ∀ x, (S_api_Cap.cells x).all plainVal = true := fun _ => rfl
theorem partOf_r {r u : Int} (h : partOf r u = true) : 1 ≤ r ∧ r ≤ 31 := by
  unfold partOf at h
  rw [Bool.and_eq_true] at h
  exact of_decide_eq_true h.1
end Go.Proofs.Ytbjkfllncegpcaa.K
namespace Go.Proofs.Ytbjkfllncegpcaa.K
open Go Go.Proofs
def m_wide_cut (a0 : Int) (a1 : Int) (K : (Int) → H → Prop) : H → Prop :=
 mIf (decide (a1 ≤ 0)) (
 K 0
 ) (
 mIf (decide (64 ≤ a1)) (
 K a0
 ) (
 mNN a1 <|
 K (iAnd .u64 a0 (iSub .u64 (iShl .u64 1 a1) 1))
 )
 )
def x_wide_cut : Cx Try.prog := ⟨tys, [], [], [], mixed⟩
def h_wide_cut : Hint := .d
def s_wide_cut : Spec Try.prog := mkSpec x_wide_cut 214 Try.f214 [(tInt .u64), (tInt .i64)] [(tInt .u64)] true h_wide_cut (fun a => m_wide_cut a.1 a.2) (fun a K h => by kernel_rfl) callee214 rfl
def m_wide_Cut (a0 : S_api_Word) (a1 : Int) (K : (S_api_Word) → H → Prop) : H → Prop :=
 mPure (m_wide_cut a0.Hi (iSub .i64 (iMin (iMax a1 0) 128) 64)) fun r1 =>
 mPure (m_wide_cut a0.Lo (iMin (iMax a1 0) 128)) fun r2 =>
 K (⟨r1, r2⟩ : S_api_Word)
def x_wide_Cut : Cx Try.prog := ⟨tys, [s_wide_cut], [2, 4], [], mixed⟩
def h_wide_Cut : Hint := (.seq .d (.seq .d (.seq (.reg (.run [0, 8, 12, 20, 28, 5, 16, 25, 32, 36, 43] .nil)) .d)))
def s_wide_Cut : Spec Try.prog := mkSpec x_wide_Cut 200 Try.f200 [S_api_Word.ty, (tInt .i64)] [S_api_Word.ty] true h_wide_Cut (fun a => m_wide_Cut a.1 a.2) (fun a K h => by kernel_rfl) callee200 rfl
def m_wide_Fits (a0 : S_api_Word) (a1 : Int) (K : (Bool) → H → Prop) : H → Prop :=
 mIf (decide (1 ≤ a1)) (
 mPure (m_wide_Cut a0 a1) fun r2 =>
 K ((decide (r2.Hi = a0.Hi)) && ((decide (r2.Lo = a0.Lo)) && true))
 ) (
 K false
 )
def x_wide_Fits : Cx Try.prog := ⟨tys, [s_wide_Cut], [2], [], mixed⟩
def h_wide_Fits : Hint := (.seq .d (.seq (.reg (.run [0, 4, 8] (.split 7 (.run [16, 13, 20, 25, 28, 32, 36] .nil) (.run [12, 16, 20, 24, 28, 32, 36] .nil)))) .d))
def s_wide_Fits : Spec Try.prog := mkSpec x_wide_Fits 163 Try.f163 [S_api_Word.ty, (tInt .i64)] [tBool] true h_wide_Fits (fun a => m_wide_Fits a.1 a.2) (fun a K h => by kernel_rfl) callee163 rfl
end Go.Proofs.Ytbjkfllncegpcaa.K
namespace Go.Proofs.Ytbjkfllncegpcaa.K
open Go
theorem word_len : ∀ x : S_api_Word, (S_api_Word.cells x).length = 2 := fun _ => rfl
theorem word_plain : ∀ x : S_api_Word, (S_api_Word.cells x).all plainVal = true := fun _ => rfl
def wordOf (n : Nat) : S_api_Word := ⟨((n / 2 ^ 64 : Nat) : Int), ((n % 2 ^ 64 : Nat) : Int)⟩
def valW (hi lo : Nat) : Nat := 2 ^ 64 * hi + lo
def eqWd (x w : S_api_Word) : Bool := (decide (x.Hi = w.Hi)) && ((decide (x.Lo = w.Lo)) && true)
theorem eqWd_iff (x w : S_api_Word) : eqWd x w = true ↔ x = w := by
  cases x; cases w; simp [eqWd]
def wc (w : Int) : Nat := (min (max w 0) 128).toNat
theorem wc_le (w : Int) : wc w ≤ 128 := by unfold wc; omega
theorem wc_eq (w : Int) : iMin (iMax w 0) 128 = (wc w : Int) := by
  unfold iMin iMax wc
  split <;> split <;> omega
theorem two_le {a b : Nat} (h : a ≤ b) : 2 ^ a ≤ 2 ^ b := Nat.pow_le_pow_right (by decide) h
section
variable {h : H}
theorem p_cut {K : Int → H → Prop} {x : Nat} {b : Int} (hx : x < 2 ^ 64) (k : K ((x % 2 ^ (min b.toNat 64) : Nat) : Int) h) : m_wide_cut (x : Int) b K h := by
  unfold m_wide_cut
  refine w_if' (fun c => ?_) fun c => w_if' (fun c2 => ?_) fun c2 => ?_
  · rw [show min b.toNat 64 = 0 by omega, Nat.pow_zero, Nat.mod_one] at k; exact k
  · rw [show min b.toNat 64 = 64 by omega, Nat.mod_eq_of_lt hx] at k; exact k
  · refine w_nn (by omega) ?_
    obtain ⟨n, rfl⟩ := Int.eq_ofNat_of_zero_le (show 0 ≤ b by omega)
    rw [show min (n : Int).toNat 64 = n by omega] at k
    rw [u_low hx (by omega)]; exact k
theorem wordOf_mod (n c : Nat) (hc : c ≤ 128) : wordOf (n % 2 ^ c) = ⟨((n / 2 ^ 64 % 2 ^ (c - 64) : Nat) : Int), ((n % 2 ^ 64 % 2 ^ (min c 64) : Nat) : Int)⟩ := by
  unfold wordOf
  by_cases h : c ≤ 64
  · have h1 : n % 2 ^ c < 2 ^ 64 := Nat.lt_of_lt_of_le (Nat.mod_lt _ (Nat.two_pow_pos c)) (two_le h)
    rw [Nat.div_eq_of_lt h1, Nat.mod_eq_of_lt h1, show c - 64 = 0 by omega, Nat.min_eq_left h, Nat.mod_mod_of_dvd _ (Nat.pow_dvd_pow 2 h), Nat.pow_zero, Nat.mod_one]
  · have e : 2 ^ c = 2 ^ 64 * 2 ^ (c - 64) := by rw [← Nat.pow_add]; congr 1; omega
    rw [Nat.min_eq_right (by omega), Nat.mod_mod, e, Nat.mod_mul_right_div_self, Nat.mod_mul_right_mod]
theorem p_Cut {K : S_api_Word → H → Prop} {n : Nat} {w : Int} (hn : n < 2 ^ 128) (k : K (wordOf (n % 2 ^ wc w)) h) : m_wide_Cut (wordOf n) w K h := by
  unfold m_wide_Cut
  have hc := wc_le w
  rw [wc_eq, iSub_eq (by omega) (by omega)]
  refine w_pure _ (fun _ _ q => p_cut (by omega) q) (w_pure _ (fun _ _ q => p_cut (by omega) q) ?_)
  rw [wordOf_mod _ _ hc] at k
  rw [show min ((wc w : Int) - 64).toNat 64 = wc w - 64 by omega, show min (wc w : Int).toNat 64 = min (wc w) 64 by omega]
  exact k
end
abbrev cW := S_api_Word.cells
def GoodW (x : S_api_Word) : Prop := ∃ n : Nat, n < 2 ^ 128 ∧ x = wordOf n
def cutW (w : Int) (x : S_api_Word) : S_api_Word := wordOf (valW x.Hi.toNat x.Lo.toNat % 2 ^ wc w)
theorem valW_of (n : Nat) : valW (wordOf n).Hi.toNat (wordOf n).Lo.toNat = n := by
  unfold valW wordOf
  rw [Int.toNat_natCast, Int.toNat_natCast]
  omega
section
variable {h : H}
theorem w_WCut {x : S_api_Word} (g : GoodW x) {w : Int} {k : S_api_Word → H → Prop} (y : k (cutW w x) h) : mPure (m_wide_Cut x w) k h := by
  obtain ⟨n, hn, rfl⟩ := g
  refine w_pure _ (fun _ _ q => p_Cut hn q) ?_
  unfold cutW at y
  rwa [valW_of] at y
end
abbrev Tk := S_plain_token
structure MdS where
  c : S_api_Config
  dr : List S_api_Word
  tk : Nat
  ob : List (Int × List UInt8)
  ts : List Tk
  nm : Nat
  ls : List (Int × List S_api_Cap)
  ni : Int
  np : Int
structure RpV where
  code : Int
  cap : S_api_Cap
  data : List UInt8
  num : Int
def cap0 : S_api_Cap := ⟨0, ⟨0, 0⟩⟩
def refO (e : Int) : RpV := ⟨e, cap0, [], 0⟩
def inB (n lo hi : Int) : Prop := lo ≤ n ∧ n ≤ hi
instance (n lo hi : Int) : Decidable (inB n lo hi) := inferInstanceAs (Decidable (_ ∧ _))
def formedO (c : S_api_Call) (ds : List UInt8) (gs : List Int) : Prop :=
  (inB c.By 0 65535 ∧ inB c.Index 0 65535 ∧ inB c.Size (-2147483648) 2147483647 ∧ inB c.Off (-2147483648) 2147483647 ∧ inB c.N (-2147483648) 2147483647 ∧ inB c.Cap.Obj 0 4611686018427387904 ∧ inB c.Rights 0 255 ∧ ds.length ≤ 1025 ∧ gs.length ≤ 255 ∧ ∀ g ∈ gs, inB g 0 65535) ∧
  inB c.Op 1 10 ∧ (c.Op ≠ 1 → c.Size = 0) ∧ ((c.Op = 1 ∨ 8 ≤ c.Op) → c.Cap = cap0) ∧ ((c.Op ≠ 5 ∧ c.Op ≠ 6) → c.Given = false ∧ c.Off = 0) ∧ (c.Op ≠ 3 → c.Rights = 0) ∧ (c.Op ≠ 5 → c.N = 0) ∧ (c.Op ≠ 6 → ds = []) ∧ (c.Op ≠ 8 → c.Index = 0) ∧ (c.Op ≠ 9 → gs = []) ∧
  ((c.Op = 5 ∨ c.Op = 6) → c.Given = false → c.Cap.Pass = ⟨0, 0⟩)
instance (c : S_api_Call) (ds : List UInt8) (gs : List Int) : Decidable (formedO c ds gs) := by unfold formedO; infer_instance
def pagesO (n : Nat) : Nat := (n + 63) / 64
def allPages (l : List (Int × List UInt8)) : Nat := (l.map fun p => pagesO p.2.length).sum
def findT (ts : List Tk) (c : S_api_Cap) : Option Tk := ts.find? fun t => decide (t.xcap = c)
def givenT (ts : List Tk) (c : S_api_Cap) (need : Int) : Option Tk × Int := match findT ts c with
  | none => (none, 3)
  | some t => if partOf need t.xrights = true then (some t, 0) else (none, 4)
theorem givenT_none {ts : List Tk} {c : S_api_Cap} {need : Int} (e : findT ts c = none) : givenT ts c need = (none, 3) := by unfold givenT; rw [e]
theorem givenT_some {ts : List Tk} {c : S_api_Cap} {need : Int} {t : Tk} (e : findT ts c = some t) : givenT ts c need = if partOf need t.xrights = true then (some t, 0) else (none, 4) := by unfold givenT; rw [e]
def namedT (ts : List Tk) (need : Int) (o : Int) : List S_api_Cap → Int → Int
  | [], a => a
  | x :: r, a => if x.Obj = o then (if (givenT ts x need).2 = 0 then 0 else namedT ts need o r (if (givenT ts x need).2 = 4 then 4 else a)) else namedT ts need o r a
def mayT (ts : List Tk) (c : S_api_Call) (need : Int) (l : List S_api_Cap) : Int := if c.Given = true then (givenT ts c.Cap need).2 else namedT ts need c.Cap.Obj l 3
def MdS.cut (m : MdS) (w : S_api_Word) : S_api_Word := cutW m.c.Width w
def createO (m : MdS) (size : Int) : RpV × MdS :=
  if size < 0 ∨ 4096 < size then (refO 6, m) else
  if m.c.Objects ≤ (m.ob.length : Int) ∨ 4611686018427387904 < m.ni then (refO 7, m) else
  if m.c.Pages < ((allPages m.ob + pagesO size.toNat : Nat) : Int) then (refO 8, m) else
  if m.c.Entries ≤ (m.ts.length : Int) then (refO 10, m) else
  match m.dr[m.tk]? with
  | none => (refO 11, m)
  | some w => (⟨0, ⟨m.ni, m.cut w⟩, [], 0⟩, { m with tk := m.tk + 1, ni := m.ni + 1, ob := m.ob ++ [(m.ni, List.replicate size.toNat 0)], ts := m.ts ++ [⟨⟨m.ni, m.cut w⟩, 31, ((m.nm + 1 : Nat) : Int), 0⟩], nm := m.nm + 1 })
def goneO (m : MdS) (o : Int) : MdS := { m with ob := adel m.ob o, ts := m.ts.filter fun t => !decide (t.xcap.Obj = o) }
def destroyO (m : MdS) (c : S_api_Cap) : RpV × MdS := match givenT m.ts c 16 with
  | (none, e) => (refO e, m)
  | (some t, _) => (refO 0, goneO m t.xcap.Obj)
def namesO (ts : List Tk) (n : Int) : List Int := ts.foldl (fun ns x => if x.xparent ∈ ns then ns ++ [x.xname] else ns) [n]
def revokeO (m : MdS) (c : S_api_Cap) : RpV × MdS := match givenT m.ts c 8 with
  | (none, e) => (refO e, m)
  | (some t, _) => if t.xparent = 0 then (refO 0, goneO m t.xcap.Obj) else (refO 0, { m with ts := m.ts.filter fun x => !decide (x.xname ∈ namesO m.ts t.xname) })
def countT (ts : List Tk) (o : Int) : Nat := ts.countP fun t => decide (t.xcap.Obj = o)
def derO (m : MdS) (o r name : Int) : Nat → Nat → RpV × MdS
  | tk, 0 => (refO 12, { m with tk := tk })
  | tk, n + 1 => match m.dr[tk]? with
    | none => (refO 11, { m with tk := tk })
    | some w => if (findT m.ts ⟨o, m.cut w⟩).isSome = true then derO m o r name (tk + 1) n else
      (⟨0, ⟨o, m.cut w⟩, [], 0⟩, { m with tk := tk + 1, ts := m.ts ++ [⟨⟨o, m.cut w⟩, r, ((m.nm + 1 : Nat) : Int), name⟩], nm := m.nm + 1 })
def deriveO (m : MdS) (c : S_api_Cap) (r : Int) : RpV × MdS := match givenT m.ts c 4 with
  | (none, e) => (refO e, m)
  | (some t, _) =>
    if partOf r t.xrights = true then
      if m.c.Quota ≤ (countT m.ts c.Obj : Int) then (refO 9, m) else
      if m.c.Entries ≤ (m.ts.length : Int) then (refO 10, m) else derO m c.Obj r t.xname m.tk 9
    else (refO 4, m)
def bytesO (m : MdS) (o : Int) : List UInt8 := (alook m.ob o).getD []
def placeO (m : MdS) (o off n : Int) : Int := if off < 0 ∨ n < 0 ∨ 1024 < n ∨ ((bytesO m o).length : Int) < off + n then 5 else 0
def listO (m : MdS) (p : Int) : List S_api_Cap := (alook m.ls p).getD []
def readO (m : MdS) (c : S_api_Call) : RpV × MdS :=
  let e := mayT m.ts c 1 (listO m c.By)
  if e = 0 then
    let e := placeO m c.Cap.Obj c.Off c.N
    if e = 0 then (⟨0, cap0, ((bytesO m c.Cap.Obj).drop c.Off.toNat).take c.N.toNat, 0⟩, m) else (refO e, m)
  else (refO e, m)
def overO (l d : List UInt8) (off : Nat) : List UInt8 := l.take off ++ d ++ l.drop (off + d.length)
def writeO (m : MdS) (c : S_api_Call) (ds : List UInt8) : RpV × MdS :=
  let e := mayT m.ts c 2 (listO m c.By)
  if e = 0 then
    let e := placeO m c.Cap.Obj c.Off ds.length
    if e = 0 then (refO 0, { m with ob := aset m.ob c.Cap.Obj (overO (bytesO m c.Cap.Obj) ds c.Off.toNat) }) else (refO e, m)
  else (refO e, m)
def addO (m : MdS) (c : S_api_Call) : RpV × MdS :=
  if cutW m.c.Width c.Cap.Pass = c.Cap.Pass then
    if m.c.List ≤ ((listO m c.By).length : Int) then (refO 14, m) else (refO 0, { m with ls := aset m.ls c.By (listO m c.By ++ [c.Cap]) })
  else (refO 18, m)
def removeO (m : MdS) (c : S_api_Call) : RpV × MdS :=
  if ((listO m c.By).length : Int) ≤ c.Index then (refO 15, m) else (refO 0, { m with ls := aset m.ls c.By ((listO m c.By).eraseIdx c.Index.toNat) })
def giftsO (l : List S_api_Cap) : List Int → Option (List S_api_Cap)
  | [] => some []
  | g :: r => match l[g.toNat]? with
    | none => none
    | some c => (giftsO l r).map (c :: ·)
def spawnO (m : MdS) (c : S_api_Call) (gs : List Int) : RpV × MdS := match giftsO (listO m c.By) gs with
  | none => (refO 15, m)
  | some l =>
    if m.c.List < (l.length : Int) then (refO 14, m) else
    if m.c.Procs ≤ (m.ls.length : Int) ∨ 65535 < m.np then (refO 13, m) else
    (⟨0, cap0, [], m.np⟩, { m with np := m.np + 1, ls := m.ls ++ [(m.np, l)] })
def doO (m : MdS) (c : S_api_Call) (ds : List UInt8) (gs : List Int) : RpV × MdS :=
  if formedO c ds gs then
    if (alook m.ls c.By).isSome = true then
      if c.Op = 1 then createO m c.Size else
      if c.Op = 2 then destroyO m c.Cap else
      if c.Op = 3 then deriveO m c.Cap c.Rights else
      if c.Op = 4 then revokeO m c.Cap else
      if c.Op = 5 then readO m c else
      if c.Op = 6 then writeO m c ds else
      if c.Op = 7 then addO m c else
      if c.Op = 8 then removeO m c else
      if c.Op = 9 then spawnO m c gs else (refO 0, { m with ls := adel m.ls c.By })
    else (refO 2, m)
  else (refO 1, m)
def newO (c : S_api_Config) (dr : List S_api_Word) : MdS := ⟨c, dr, 0, [], [], 0, [(0, [])], 1, 1⟩
def belowO (ts : List Tk) (o : Int) : Nat → Int → Int → List S_api_Token → List S_api_Token
  | 0, _, _, out => out
  | f + 1, name, at_, out => ts.foldl (fun out t => if t.xcap.Obj = o ∧ t.xparent = name then belowO ts o f t.xname (out.length : Int) (out ++ [⟨t.xcap, t.xrights, at_⟩]) else out) out
structure StV where
  ob : List (Int × List UInt8)
  ts : List S_api_Token
  ls : List (Int × List S_api_Cap)
  ni : Int
  np : Int
  tk : Int
def stateO (m : MdS) : StV := ⟨m.ob, m.ob.foldl (fun out p => belowO m.ts p.1 (m.ts.length + 1) 0 (-1) out) [], m.ls, m.ni, m.np, (m.tk : Int)⟩
end Go.Proofs.Ytbjkfllncegpcaa.K
namespace Go.Proofs.Ytbjkfllncegpcaa.K
open Go Go.Proofs
def m_math_bits_Len64 (a0 : Int) (K : (Int) → H → Prop) : H → Prop :=
 mJoin (fun (s1 : Int × Int) =>
 mJoin (fun (s3 : Int × Int) =>
 mJoin (fun (s5 : Int × Int) =>
 mByte (ByteArray.mk #[0, 1, 2, 2, 3, 3, 3, 3, 4, 4, 4, 4, 4, 4, 4, 4, 5, 5, 5, 5, 5, 5, 5, 5, 5, 5, 5, 5, 5, 5, 5, 5, 6, 6, 6, 6, 6, 6, 6, 6, 6, 6, 6, 6, 6, 6, 6, 6, 6, 6, 6, 6, 6, 6, 6, 6, 6, 6, 6, 6, 6, 6, 6, 6, 7, 7, 7, 7, 7, 7, 7, 7, 7, 7, 7, 7, 7, 7, 7, 7, 7, 7, 7, 7, 7, 7, 7, 7, 7, 7, 7, 7, 7, 7, 7, 7, 7, 7, 7, 7, 7, 7, 7, 7, 7, 7, 7, 7, 7, 7, 7, 7, 7, 7, 7, 7, 7, 7, 7, 7, 7, 7, 7, 7, 7, 7, 7, 7, 8, 8, 8, 8, 8, 8, 8, 8, 8, 8, 8, 8, 8, 8, 8, 8, 8, 8, 8, 8, 8, 8, 8, 8, 8, 8, 8, 8, 8, 8, 8, 8, 8, 8, 8, 8, 8, 8, 8, 8, 8, 8, 8, 8, 8, 8, 8, 8, 8, 8, 8, 8, 8, 8, 8, 8, 8, 8, 8, 8, 8, 8, 8, 8, 8, 8, 8, 8, 8, 8, 8, 8, 8, 8, 8, 8, 8, 8, 8, 8, 8, 8, 8, 8, 8, 8, 8, 8, 8, 8, 8, 8, 8, 8, 8, 8, 8, 8, 8, 8, 8, 8, 8, 8, 8, 8, 8, 8, 8, 8, 8, 8, 8, 8, 8, 8, 8, 8, 8, 8, 8, 8, 8, 8, 8, 8, 8, 8]) (IntKind.wrap .u8 s5.1) fun x7 =>
 K (iAdd .i64 s5.2 (IntKind.wrap .i64 x7))
 ) (fun j6 =>
 mIf (decide (256 ≤ s3.1)) (
 j6 ((iShr .u64 s3.1 8), (iAdd .i64 s3.2 8))
 ) (
 j6 (s3.1, s3.2)
 )
 )
 ) (fun j4 =>
 mIf (decide (65536 ≤ s1.1)) (
 j4 ((iShr .u64 s1.1 16), (iAdd .i64 s1.2 16))
 ) (
 j4 (s1.1, s1.2)
 )
 )
 ) (fun j2 =>
 mIf (decide (4294967296 ≤ a0)) (
 j2 ((iShr .u64 a0 32), 32)
 ) (
 j2 (a0, 0)
 )
 )
def x_math_bits_Len64 : Cx Try.prog := ⟨tys, [], [], [], mixed⟩
def h_math_bits_Len64 : Hint := (.seq .d (.join [.slot 0 (tInt .u64), .slot 2 (tInt .i64)] 125 [] .d (.join [.slot 0 (tInt .u64), .slot 2 (tInt .i64)] 8069 [] .d (.join [.slot 0 (tInt .u64), .slot 2 (tInt .i64)] 516101 [] .d .d))))
def s_math_bits_Len64 : Spec Try.prog := mkSpec x_math_bits_Len64 227 Try.f227 [(tInt .u64)] [(tInt .i64)] true h_math_bits_Len64 (fun a => m_math_bits_Len64 a) (fun a K h => by kernel_rfl) callee227 rfl
def m_math_bits_Len (a0 : Int) (K : (Int) → H → Prop) : H → Prop :=
 mPure (m_math_bits_Len64 a0) fun r1 =>
 K r1
def x_math_bits_Len : Cx Try.prog := ⟨tys, [s_math_bits_Len64], [], [], mixed⟩
def h_math_bits_Len : Hint := (.seq .d (.seq (.known .d .d) .d))
def s_math_bits_Len : Spec Try.prog := mkSpec x_math_bits_Len 212 Try.f212 [(tInt .u64)] [(tInt .i64)] true h_math_bits_Len (fun a => m_math_bits_Len a) (fun a K h => by kernel_rfl) callee212 rfl
def m_cmp_isNaN_int (a0 : Int) (K : (Bool) → H → Prop) : H → Prop :=
 K (!decide (a0 = a0))
def x_cmp_isNaN_int : Cx Try.prog := ⟨tys, [], [], [], mixed⟩
def h_cmp_isNaN_int : Hint := .d
def s_cmp_isNaN_int : Spec Try.prog := mkSpec x_cmp_isNaN_int 234 Try.f234 [(tInt .i64)] [tBool] true h_cmp_isNaN_int (fun a => m_cmp_isNaN_int a) (fun a K h => by kernel_rfl) callee234 rfl
def m_cmp_Less_int (a0 : Int) (a1 : Int) (K : (Bool) → H → Prop) : H → Prop :=
 mPure (m_cmp_isNaN_int a0) fun r1 =>
 mIf r1 (
 mPure (m_cmp_isNaN_int a1) fun r3 =>
 K ((!r3) || (decide (a0 < a1)))
 ) (
 K (decide (a0 < a1))
 )
def x_cmp_Less_int : Cx Try.prog := ⟨tys, [s_cmp_isNaN_int], [], [], mixed⟩
def h_cmp_Less_int : Hint := (.seq .d (.seq (.reg (.run [3, 7, 11] (.split 7 (.run [15, 19, 23, 27, 31] (.sel 12 16 122880 (.run [35, 39, 43, 47] .nil) (.run [35, 39, 43, 47] .nil) (.run [51] .nil))) (.run [15, 19, 23, 27, 31, 35, 39, 43, 47, 51] .nil)))) .d))
def s_cmp_Less_int : Spec Try.prog := mkSpec x_cmp_Less_int 223 Try.f223 [(tInt .i64), (tInt .i64)] [tBool] true h_cmp_Less_int (fun a => m_cmp_Less_int a.1 a.2) (fun a K h => by kernel_rfl) callee223 rfl
def m_slices_Clone_api_Cap_api_Cap (a0 : Sl) (K : (Sl) → H → Prop) : H → Prop :=
 mIf (a0.a.isNone) (
 K Sl.nil
 ) (
 mNew 39 #[] fun ad1 =>
 mAppend 39 3 24 #[(Value.int .i64 0), (Value.int .u64 0), (Value.int .u64 0)] (⟨some ad1, 0, 0⟩ : Sl) a0 fun s2 =>
 K s2
 )
def x_slices_Clone_api_Cap_api_Cap : Cx Try.prog := ⟨tys, [], [], [], mixed⟩
def h_slices_Clone_api_Cap_api_Cap : Hint := .d
def s_slices_Clone_api_Cap_api_Cap : Spec Try.prog := mkSpec x_slices_Clone_api_Cap_api_Cap 123 Try.f123 [tSl] [tSl] false h_slices_Clone_api_Cap_api_Cap (fun a => m_slices_Clone_api_Cap_api_Cap a) (fun a K h => by kernel_rfl) callee123 rfl
def m_slices_Delete_api_Cap_api_Cap (a0 : Sl) (a1 : Int) (a2 : Int) (K : (Sl) → H → Prop) : H → Prop :=
 mCut3 a0 a1 a2 (a0.len : Int) 3 fun _ =>
 mIf (decide (a1 = a2)) (
 K a0
 ) (
 mCut a0 0 a1 3 fun s2 =>
 mCut a0 a2 (a0.len : Int) 3 fun s3 =>
 mAppend 39 3 24 #[(Value.int .i64 0), (Value.int .u64 0), (Value.int .u64 0)] s2 s3 fun s4 =>
 mCut s4 (s4.len : Int) (a0.len : Int) 3 fun s5 =>
 mClear #[(Value.int .i64 0), (Value.int .u64 0), (Value.int .u64 0)] s5 <|
 K s4
 )
def x_slices_Delete_api_Cap_api_Cap : Cx Try.prog := ⟨tys, [], [], [], mixed⟩
def h_slices_Delete_api_Cap_api_Cap : Hint := (.seq .d (.seq .d (.seq .d (.seq .d (.seq (.reg (.run [0, 4, 8, 12, 16, 20, 27, 28] .nil)) .d)))))
def s_slices_Delete_api_Cap_api_Cap : Spec Try.prog := mkSpec x_slices_Delete_api_Cap_api_Cap 135 Try.f135 [tSl, (tInt .i64), (tInt .i64)] [tSl] false h_slices_Delete_api_Cap_api_Cap (fun a => m_slices_Delete_api_Cap_api_Cap a.1 a.2.1 a.2.2) (fun a K h => by kernel_rfl) callee135 rfl
def m_slices_Clone_byte_byte (a0 : Sl) (K : (Sl) → H → Prop) : H → Prop :=
 mIf (a0.a.isNone) (
 K Sl.nil
 ) (
 mNew 5 #[] fun ad1 =>
 mAppend 5 1 1 #[(Value.int .u8 0)] (⟨some ad1, 0, 0⟩ : Sl) a0 fun s2 =>
 K s2
 )
def x_slices_Clone_byte_byte : Cx Try.prog := ⟨tys, [], [], [], mixed⟩
def h_slices_Clone_byte_byte : Hint := .d
def s_slices_Clone_byte_byte : Spec Try.prog := mkSpec x_slices_Clone_byte_byte 122 Try.f122 [tSl] [tSl] false h_slices_Clone_byte_byte (fun a => m_slices_Clone_byte_byte a) (fun a K h => by kernel_rfl) callee122 rfl
def m_slices_Clone_api_Word_api_Word (a0 : Sl) (K : (Sl) → H → Prop) : H → Prop :=
 mIf (a0.a.isNone) (
 K Sl.nil
 ) (
 mNew 37 #[] fun ad1 =>
 mAppend 37 2 16 #[(Value.int .u64 0), (Value.int .u64 0)] (⟨some ad1, 0, 0⟩ : Sl) a0 fun s2 =>
 K s2
 )
def x_slices_Clone_api_Word_api_Word : Cx Try.prog := ⟨tys, [], [], [], mixed⟩
def h_slices_Clone_api_Word_api_Word : Hint := .d
def s_slices_Clone_api_Word_api_Word : Spec Try.prog := mkSpec x_slices_Clone_api_Word_api_Word 108 Try.f108 [tSl] [tSl] false h_slices_Clone_api_Word_api_Word (fun a => m_slices_Clone_api_Word_api_Word a) (fun a K h => by kernel_rfl) callee108 rfl
def m_slices_IndexFunc_int_int (a0 : Sl) (a1 : PV) (K : (Int) → H → Prop) : H → Prop :=
 mLoop (fun (rec2 : Int → H → Prop) (s1 : Int) =>
 mIf (decide (s1 < (a0.len : Int))) (
 mIdx a0 s1 1 fun ad3 =>
 mLoad (cInt .i64) ad3 fun x4 =>
 mCallV (T := Bool) Try.prog (fun r => (Value.bool r)) a1.1 [(Value.int .i64 x4)] fun r5 =>
 mIf r5 (
 K s1
 ) (
 rec2 (iAdd .i64 s1 1)
 )
 ) (
 K (-1)
 )
 ) 0
def x_slices_IndexFunc_int_int : Cx Try.prog := ⟨tys, [], [], [], mixed⟩
def h_slices_IndexFunc_int_int : Hint := (.seq .d (.seq (.seq .d (.blk (.loop [.slot 8 (tInt .i64)] 524080 [] .d))) .d))
def s_slices_IndexFunc_int_int : Spec Try.prog := mkSpec x_slices_IndexFunc_int_int 204 Try.f204 [tSl, tPV] [(tInt .i64)] false h_slices_IndexFunc_int_int (fun a => m_slices_IndexFunc_int_int a.1 a.2) (fun a K h => by kernel_rfl) callee204 rfl
def m_slices_ContainsFunc_int_int (a0 : Sl) (a1 : PV) (K : (Bool) → H → Prop) : H → Prop :=
 m_slices_IndexFunc_int_int a0 a1 fun r1 =>
 K (decide (0 ≤ r1))
def x_slices_ContainsFunc_int_int : Cx Try.prog := ⟨tys, [s_slices_IndexFunc_int_int], [], [], mixed⟩
def h_slices_ContainsFunc_int_int : Hint := .d
def s_slices_ContainsFunc_int_int : Spec Try.prog := mkSpec x_slices_ContainsFunc_int_int 174 Try.f174 [tSl, tPV] [tBool] false h_slices_ContainsFunc_int_int (fun a => m_slices_ContainsFunc_int_int a.1 a.2) (fun a K h => by kernel_rfl) callee174 rfl
def m_slices_IndexFunc_plain_token_plain_token (a0 : Sl) (a1 : PV) (K : (Int) → H → Prop) : H → Prop :=
 mLoop (fun (rec2 : Int → H → Prop) (s1 : Int) =>
 mIf (decide (s1 < (a0.len : Int))) (
 mIdx a0 s1 6 fun ad3 =>
 mLoad S_plain_token.cells ad3 fun x4 =>
 mCallV (T := Bool) Try.prog (fun r => (Value.bool r)) a1.1 [(S_plain_token.val x4)] fun r5 =>
 mIf r5 (
 K s1
 ) (
 rec2 (iAdd .i64 s1 1)
 )
 ) (
 K (-1)
 )
 ) 0
def x_slices_IndexFunc_plain_token_plain_token : Cx Try.prog := ⟨tys, [], [], [], mixed⟩
def h_slices_IndexFunc_plain_token_plain_token : Hint := (.seq .d (.seq (.seq .d (.blk (.loop [.slot 8 (tInt .i64)] 524080 [] .d))) .d))
def s_slices_IndexFunc_plain_token_plain_token : Spec Try.prog := mkSpec x_slices_IndexFunc_plain_token_plain_token 207 Try.f207 [tSl, tPV] [(tInt .i64)] false h_slices_IndexFunc_plain_token_plain_token (fun a => m_slices_IndexFunc_plain_token_plain_token a.1 a.2) (fun a K h => by kernel_rfl) callee207 rfl
def m_slices_DeleteFunc_plain_token_plain_token (a0 : Sl) (a1 : PV) (K : (Sl) → H → Prop) : H → Prop :=
 m_slices_IndexFunc_plain_token_plain_token a0 a1 fun r1 =>
 mIf (decide (r1 = (-1))) (
 K a0
 ) (
 mLoop (fun (rec3 : (Int × Int) → H → Prop) (s2 : Int × Int) =>
 mIf (decide (s2.2 < (a0.len : Int))) (
 mIdx a0 s2.2 6 fun ad4 =>
 mLoad S_plain_token.cells ad4 fun x5 =>
 mCallV (T := Bool) Try.prog (fun r => (Value.bool r)) a1.1 [(S_plain_token.val x5)] fun r6 =>
 mIf (!r6) (
 mIdx a0 s2.1 6 fun ad7 =>
 mStore ad7 [(Value.int .i64 x5.xcap.Obj), (Value.int .u64 x5.xcap.Pass.Hi), (Value.int .u64 x5.xcap.Pass.Lo), (Value.int .i64 x5.xrights), (Value.int .i64 x5.xname), (Value.int .i64 x5.xparent)] <|
 rec3 ((iAdd .i64 s2.1 1), (iAdd .i64 s2.2 1))
 ) (
 rec3 (s2.1, (iAdd .i64 s2.2 1))
 )
 ) (
 mCut a0 s2.1 (a0.len : Int) 6 fun s8 =>
 mClear #[(Value.int .i64 0), (Value.int .u64 0), (Value.int .u64 0), (Value.int .i64 0), (Value.int .i64 0), (Value.int .i64 0)] s8 <|
 mCut a0 0 s2.1 6 fun s9 =>
 K s9
 )
 ) (r1, (iAdd .i64 r1 1))
 )
def x_slices_DeleteFunc_plain_token_plain_token : Cx Try.prog := ⟨tys, [s_slices_IndexFunc_plain_token_plain_token], [7], [], mixed⟩
def h_slices_DeleteFunc_plain_token_plain_token : Hint := (.seq .d (.seq .d (.seq .d (.seq (.seq .d (.blk (.loop [.slot 5 (tInt .i64), .slot 6 (tInt .i64)] 68719411424 [] .d))) .d))))
def s_slices_DeleteFunc_plain_token_plain_token : Spec Try.prog := mkSpec x_slices_DeleteFunc_plain_token_plain_token 183 Try.f183 [tSl, tPV] [tSl] false h_slices_DeleteFunc_plain_token_plain_token (fun a => m_slices_DeleteFunc_plain_token_plain_token a.1 a.2) (fun a K h => by kernel_rfl) callee183 rfl
def m_slices_Index_int_int (a0 : Sl) (a1 : Int) (K : (Int) → H → Prop) : H → Prop :=
 mLoop (fun (rec2 : Int → H → Prop) (s1 : Int) =>
 mIf (decide (s1 < (a0.len : Int))) (
 mIdx a0 s1 1 fun ad3 =>
 mLoad (cInt .i64) ad3 fun x4 =>
 mIf (decide (a1 = x4)) (
 K s1
 ) (
 rec2 (iAdd .i64 s1 1)
 )
 ) (
 K (-1)
 )
 ) 0
def x_slices_Index_int_int : Cx Try.prog := ⟨tys, [], [], [], mixed⟩
def h_slices_Index_int_int : Hint := (.seq .d (.seq (.seq .d (.blk (.loop [.slot 8 (tInt .i64)] 524080 [] .d))) .d))
def s_slices_Index_int_int : Spec Try.prog := mkSpec x_slices_Index_int_int 209 Try.f209 [tSl, (tInt .i64)] [(tInt .i64)] false h_slices_Index_int_int (fun a => m_slices_Index_int_int a.1 a.2) (fun a K h => by kernel_rfl) callee209 rfl
def m_slices_Contains_int_int (a0 : Sl) (a1 : Int) (K : (Bool) → H → Prop) : H → Prop :=
 m_slices_Index_int_int a0 a1 fun r1 =>
 K (decide (0 ≤ r1))
def x_slices_Contains_int_int : Cx Try.prog := ⟨tys, [s_slices_Index_int_int], [], [], mixed⟩
def h_slices_Contains_int_int : Hint := .d
def s_slices_Contains_int_int : Spec Try.prog := mkSpec x_slices_Contains_int_int 182 Try.f182 [tSl, (tInt .i64)] [tBool] false h_slices_Contains_int_int (fun a => m_slices_Contains_int_int a.1 a.2) (fun a K h => by kernel_rfl) callee182 rfl
def m_slices_AppendSeq_int_int (a0 : Sl) (a1 : PV) (K : (Sl) → H → Prop) : H → Prop :=
 mNew 41 #[(Sl.val a0)] fun ad1 =>
 mRangeF (A := Int) Try.prog (fun x => [(Value.int .i64 x)]) a1.1 (fun x2 mid3 kj4 =>
 mid3 (
 mLoad cSl ad1 fun x6 =>
 mNew 3 #[(Value.int .i64 x2)] fun ad7 =>
 mAppend 3 1 8 #[(Value.int .i64 0)] x6 (⟨some ad7, 1, 1⟩ : Sl) fun s8 =>
 mStore ad1 [(Sl.val s8)] <|
 kj4 0
 )
 ) (fun j5 =>
 mIf (Nat.beq j5 0) (
 mLoad cSl ad1 fun x9 =>
 K x9
 ) (
 nope))
def x_slices_AppendSeq_int_int : Cx Try.prog := ⟨tys, [], [], [], mixed⟩
def h_slices_AppendSeq_int_int : Hint := (.seq .d (.seq (.seq .d (.blk (.rng [(tInt .i64)] [] false .d .d))) .d))
def s_slices_AppendSeq_int_int : Spec Try.prog := mkSpec x_slices_AppendSeq_int_int 210 Try.f210 [tSl, tPV] [tSl] false h_slices_AppendSeq_int_int (fun a => m_slices_AppendSeq_int_int a.1 a.2) (fun a K h => by kernel_rfl) callee210 rfl
def m_slices_Collect_int (a0 : PV) (K : (Sl) → H → Prop) : H → Prop :=
 m_slices_AppendSeq_int_int Sl.nil a0 fun r1 =>
 K r1
def x_slices_Collect_int : Cx Try.prog := ⟨tys, [s_slices_AppendSeq_int_int], [], [], mixed⟩
def h_slices_Collect_int : Hint := .d
def s_slices_Collect_int : Spec Try.prog := mkSpec x_slices_Collect_int 187 Try.f187 [tPV] [tSl] false h_slices_Collect_int (fun a => m_slices_Collect_int a) (fun a K h => by kernel_rfl) callee187 rfl
def m_slices_insertionSortOrdered_int (a0 : Sl) (a1 : Int) (a2 : Int) (K : (Unit) → H → Prop) : H → Prop :=
 mLoop (fun (rec2 : Int → H → Prop) (s1 : Int) =>
 mIf (decide (s1 < a2)) (
 mLoop (fun (rec4 : Int → H → Prop) (s3 : Int) =>
 mJoin (fun (s10 : Bool) =>
 mIf s10 (
 mIdx a0 (iSub .i64 s3 1) 1 fun ad12 =>
 mIdx a0 s3 1 fun ad13 =>
 mLoad (cInt .i64) ad12 fun x14 =>
 mLoad (cInt .i64) ad13 fun x15 =>
 mIdx a0 s3 1 fun ad16 =>
 mStore ad16 [(Value.int .i64 x14)] <|
 mIdx a0 (iSub .i64 s3 1) 1 fun ad17 =>
 mStore ad17 [(Value.int .i64 x15)] <|
 rec4 (iSub .i64 s3 1)
 ) (
 rec2 (iAdd .i64 s1 1)
 )
 ) (fun j11 =>
 mIf (decide (a1 < s3)) (
 mIdx a0 s3 1 fun ad18 =>
 mIdx a0 (iSub .i64 s3 1) 1 fun ad19 =>
 mLoad (cInt .i64) ad18 fun x20 =>
 mLoad (cInt .i64) ad19 fun x21 =>
 mPure (m_cmp_Less_int x20 x21) fun r22 =>
 j11 r22
 ) (
 j11 false
 ))
 ) s1
 ) (
 K ()
 )
 ) (iAdd .i64 a1 1)
def x_slices_insertionSortOrdered_int : Cx Try.prog := ⟨tys, [s_cmp_Less_int], [], [], mixed⟩
def h_slices_insertionSortOrdered_int : Hint := (.seq .d (.blk (.loop [.slot 6 (tInt .i64)] 562949953420480 [] (.seq .d (.seq (.blk (.seq .d (.blk (.loop [.slot 7 (tInt .i64)] 562949953355904 [] (.seq (.seq (.reg (.run [0, 4, 8, 12] (.join [.slot 30 tBool] 2146435072 [] (.split 19 (.run [16, 20, 24, 32, 36, 40, 44, 30, 50, 52, 56] .nil) (.run [16, 20, 24, 28, 32, 36, 40, 44, 48, 52, 56] .nil)) .nil))) .d) (.seq (.blk (.reg (.run [0, 4, 8, 12, 16, 20, 24, 28, 32, 40, 44, 48, 38, 54, 56, 63, 64, 71] .nil))) .d)))))) .d)))))
def s_slices_insertionSortOrdered_int : Spec Try.prog := mkSpec x_slices_insertionSortOrdered_int 217 Try.f217 [tSl, (tInt .i64), (tInt .i64)] [] false h_slices_insertionSortOrdered_int (fun a => m_slices_insertionSortOrdered_int a.1 a.2.1 a.2.2) (fun a K h => by kernel_rfl) callee217 rfl
def m_slices_siftDownOrdered_int (a0 : Sl) (a1 : Int) (a2 : Int) (a3 : Int) (K : (Unit) → H → Prop) : H → Prop :=
 mLoop (fun (rec2 : Int → H → Prop) (s1 : Int) =>
 mIf (decide (a2 ≤ (iAdd .i64 (iMul .i64 2 s1) 1))) (
 K ()
 ) (
 mJoin (fun (s3 : Int) =>
 mIdx a0 (iAdd .i64 a3 s1) 1 fun ad5 =>
 mIdx a0 (iAdd .i64 a3 s3) 1 fun ad6 =>
 mLoad (cInt .i64) ad5 fun x7 =>
 mLoad (cInt .i64) ad6 fun x8 =>
 mPure (m_cmp_Less_int x7 x8) fun r9 =>
 mIf (!r9) (
 K ()
 ) (
 mIdx a0 (iAdd .i64 a3 s3) 1 fun ad10 =>
 mIdx a0 (iAdd .i64 a3 s1) 1 fun ad11 =>
 mLoad (cInt .i64) ad10 fun x12 =>
 mLoad (cInt .i64) ad11 fun x13 =>
 mIdx a0 (iAdd .i64 a3 s1) 1 fun ad14 =>
 mStore ad14 [(Value.int .i64 x12)] <|
 mIdx a0 (iAdd .i64 a3 s3) 1 fun ad15 =>
 mStore ad15 [(Value.int .i64 x13)] <|
 rec2 s3
 )
 ) (fun j4 =>
 mJoin (fun (s21 : Bool) =>
 mIf s21 (
 j4 (iAdd .i64 (iAdd .i64 (iMul .i64 2 s1) 1) 1)
 ) (
 j4 (iAdd .i64 (iMul .i64 2 s1) 1)
 )
 ) (fun j22 =>
 mIf (decide ((iAdd .i64 (iAdd .i64 (iMul .i64 2 s1) 1) 1) < a2)) (
 mIdx a0 (iAdd .i64 a3 (iAdd .i64 (iMul .i64 2 s1) 1)) 1 fun ad23 =>
 mIdx a0 (iAdd .i64 (iAdd .i64 a3 (iAdd .i64 (iMul .i64 2 s1) 1)) 1) 1 fun ad24 =>
 mLoad (cInt .i64) ad23 fun x25 =>
 mLoad (cInt .i64) ad24 fun x26 =>
 mPure (m_cmp_Less_int x25 x26) fun r27 =>
 j22 r27
 ) (
 j22 false
 ))
 )
 )
 ) a1
def x_slices_siftDownOrdered_int : Cx Try.prog := ⟨tys, [s_cmp_Less_int], [], [], mixed⟩
def h_slices_siftDownOrdered_int : Hint := (.seq .d (.blk (.loop [.slot 8 (tInt .i64)] 75557863725914323417856 [] (.blk (.seq .d (.seq .d (.join [.slot 9 (tInt .i64)] 549755683328 [] (.seq (.reg (.run [0, 4, 8, 12, 16] (.join [.slot 36 tBool] 137434759168 [] (.split 21 (.run [20, 24, 28, 32, 36, 44, 48, 52, 56, 60, 64, 42, 70, 72, 76] .nil) (.run [20, 24, 28, 32, 36, 40, 44, 48, 52, 56, 60, 64, 68, 72, 76] .nil)) .nil))) .d) (.seq (.seq (.reg (.run [0, 4, 8, 12, 16, 24, 28, 32, 36, 40, 22, 46, 48, 52] .nil)) .d) (.seq (.reg (.run [0, 4, 8, 12, 16, 20, 24, 28, 32, 36, 40, 44, 48, 56, 60, 64, 68, 72, 54, 78, 80, 87, 88, 95] .nil)) .d)))))))))
def s_slices_siftDownOrdered_int : Spec Try.prog := mkSpec x_slices_siftDownOrdered_int 229 Try.f229 [tSl, (tInt .i64), (tInt .i64), (tInt .i64)] [] false h_slices_siftDownOrdered_int (fun a => m_slices_siftDownOrdered_int a.1 a.2.1 a.2.2.1 a.2.2.2) (fun a K h => by kernel_rfl) callee229 rfl
def m_slices_heapSortOrdered_int (a0 : Sl) (a1 : Int) (a2 : Int) (K : (Unit) → H → Prop) : H → Prop :=
 mLoop (fun (rec2 : Int → H → Prop) (s1 : Int) =>
 mIf (decide (0 ≤ s1)) (
 m_slices_siftDownOrdered_int a0 s1 (iSub .i64 a2 a1) a1 fun _ =>
 rec2 (iSub .i64 s1 1)
 ) (
 mLoop (fun (rec5 : Int → H → Prop) (s4 : Int) =>
 mIf (decide (0 ≤ s4)) (
 mIdx a0 (iAdd .i64 a1 s4) 1 fun ad6 =>
 mIdx a0 a1 1 fun ad7 =>
 mLoad (cInt .i64) ad6 fun x8 =>
 mLoad (cInt .i64) ad7 fun x9 =>
 mIdx a0 a1 1 fun ad10 =>
 mStore ad10 [(Value.int .i64 x8)] <|
 mIdx a0 (iAdd .i64 a1 s4) 1 fun ad11 =>
 mStore ad11 [(Value.int .i64 x9)] <|
 m_slices_siftDownOrdered_int a0 0 s4 a1 fun _ =>
 rec5 (iSub .i64 s4 1)
 ) (
 K ()
 )
 ) (iSub .i64 (iSub .i64 a2 a1) 1)
 )
 ) (iQuo .i64 (iSub .i64 (iSub .i64 a2 a1) 1) 2)
def x_slices_heapSortOrdered_int : Cx Try.prog := ⟨tys, [s_slices_siftDownOrdered_int], [], [], mixed⟩
def h_slices_heapSortOrdered_int : Hint := (.seq .d (.seq .d (.seq .d (.seq (.seq .d (.blk (.loop [.slot 9 (tInt .i64)] 133956096 [] .d))) (.seq .d (.blk (.loop [.slot 10 (tInt .i64)] 72057593501058048 [] (.seq .d (.seq (.blk (.seq (.reg (.run [0, 4, 8, 12, 16, 20, 24, 28, 32, 36, 40, 48, 52, 56, 46, 62, 64, 71, 72, 79] .nil)) .d)) .d)))))))))
def s_slices_heapSortOrdered_int : Spec Try.prog := mkSpec x_slices_heapSortOrdered_int 218 Try.f218 [tSl, (tInt .i64), (tInt .i64)] [] false h_slices_heapSortOrdered_int (fun a => m_slices_heapSortOrdered_int a.1 a.2.1 a.2.2) (fun a K h => by kernel_rfl) callee218 rfl
def m_slices_nextPowerOfTwo (a0 : Int) (K : (Int) → H → Prop) : H → Prop :=
 mPure (m_math_bits_Len (IntKind.wrap .u64 a0)) fun r1 =>
 mNN r1 <|
 K (iShl .u64 1 r1)
def x_slices_nextPowerOfTwo : Cx Try.prog := ⟨tys, [s_math_bits_Len], [], [], mixed⟩
def h_slices_nextPowerOfTwo : Hint := .d
def s_slices_nextPowerOfTwo : Spec Try.prog := mkSpec x_slices_nextPowerOfTwo 230 Try.f230 [(tInt .i64)] [(tInt .u64)] true h_slices_nextPowerOfTwo (fun a => m_slices_nextPowerOfTwo a) (fun a K h => by kernel_rfl) callee230 rfl
def m_slices_xorshift_Next (a0 : Option Addr) (K : (Int) → H → Prop) : H → Prop :=
 mDeref a0 fun ad1 =>
 mDeref a0 fun ad2 =>
 mLoad (cInt .u64) ad1 fun x3 =>
 mLoad (cInt .u64) ad2 fun x4 =>
 mDeref a0 fun ad5 =>
 mStore ad5 [(Value.int .u64 (iXor .u64 x3 (iShl .u64 x4 13)))] <|
 mDeref a0 fun ad6 =>
 mDeref a0 fun ad7 =>
 mLoad (cInt .u64) ad6 fun x8 =>
 mLoad (cInt .u64) ad7 fun x9 =>
 mDeref a0 fun ad10 =>
 mStore ad10 [(Value.int .u64 (iXor .u64 x8 (iShr .u64 x9 7)))] <|
 mDeref a0 fun ad11 =>
 mDeref a0 fun ad12 =>
 mLoad (cInt .u64) ad11 fun x13 =>
 mLoad (cInt .u64) ad12 fun x14 =>
 mDeref a0 fun ad15 =>
 mStore ad15 [(Value.int .u64 (iXor .u64 x13 (iShl .u64 x14 17)))] <|
 mDeref a0 fun ad16 =>
 mLoad (cInt .u64) ad16 fun x17 =>
 K x17
def x_slices_xorshift_Next : Cx Try.prog := ⟨tys, [], [], [], mixed⟩
def h_slices_xorshift_Next : Hint := (.seq .d (.seq (.reg (.run [0, 4, 12, 16, 10, 22, 24, 28, 32, 39] .nil)) (.seq (.reg (.run [0, 4, 12, 16, 10, 22, 24, 28, 32, 39] .nil)) (.seq (.reg (.run [0, 4, 12, 16, 10, 22, 24, 28, 32, 39] .nil)) .d))))
def s_slices_xorshift_Next : Spec Try.prog := mkSpec x_slices_xorshift_Next 231 Try.f231 [tPtr] [(tInt .u64)] false h_slices_xorshift_Next (fun a => m_slices_xorshift_Next a) (fun a K h => by kernel_rfl) callee231 rfl
def m_slices_breakPatternsOrdered_int (a0 : Sl) (a1 : Int) (a2 : Int) (K : (Unit) → H → Prop) : H → Prop :=
 mIf (decide (8 ≤ (iSub .i64 a2 a1))) (
 mNew 274 #[(Value.int .u64 0)] fun ad1 =>
 mStore ad1 [(Value.int .u64 (IntKind.wrap .u64 (iSub .i64 a2 a1)))] <|
 mPure (m_slices_nextPowerOfTwo (iSub .i64 a2 a1)) fun r2 =>
 mLoop (fun (rec4 : Int → H → Prop) (s3 : Int) =>
 mIf (decide (s3 ≤ (iAdd .i64 (iAdd .i64 a1 (iMul .i64 (iQuo .i64 (iSub .i64 a2 a1) 4) 2)) 1))) (
 m_slices_xorshift_Next (some ad1) fun r5 =>
 mJoin (fun (s6 : Int) =>
 mIdx a0 (iAdd .i64 a1 s6) 1 fun ad8 =>
 mIdx a0 s3 1 fun ad9 =>
 mLoad (cInt .i64) ad8 fun x10 =>
 mLoad (cInt .i64) ad9 fun x11 =>
 mIdx a0 s3 1 fun ad12 =>
 mStore ad12 [(Value.int .i64 x10)] <|
 mIdx a0 (iAdd .i64 a1 s6) 1 fun ad13 =>
 mStore ad13 [(Value.int .i64 x11)] <|
 rec4 (iAdd .i64 s3 1)
 ) (fun j7 =>
 mIf (decide ((iSub .i64 a2 a1) ≤ (IntKind.wrap .i64 (iAnd .u64 r5 (iSub .u64 r2 1))))) (
 j7 (iSub .i64 (IntKind.wrap .i64 (iAnd .u64 r5 (iSub .u64 r2 1))) (iSub .i64 a2 a1))
 ) (
 j7 (IntKind.wrap .i64 (iAnd .u64 r5 (iSub .u64 r2 1)))
 )
 )
 ) (
 K ()
 )
 ) (iSub .i64 (iAdd .i64 a1 (iMul .i64 (iQuo .i64 (iSub .i64 a2 a1) 4) 2)) 1)
 ) (
 K ()
 )
def x_slices_breakPatternsOrdered_int : Cx Try.prog := ⟨tys, [s_slices_nextPowerOfTwo, s_slices_xorshift_Next], [], [], mixed⟩
def h_slices_breakPatternsOrdered_int : Hint := (.seq .d (.seq .d (.cond (.seq .d (.seq .d (.seq .d (.blk (.loop [.slot 9 (tInt .i64)] 36893488147351995904 [] (.seq .d (.seq (.blk (.seq .d (.join [.slot 10 (tInt .i64)] 138538465100800 [] .d (.reg (.run [0, 4, 8, 12, 16, 20, 24, 28, 32, 36, 40, 48, 52, 56, 46, 62, 64, 71, 72, 79] .nil))))) .d))))))) .d)))
def s_slices_breakPatternsOrdered_int : Spec Try.prog := mkSpec x_slices_breakPatternsOrdered_int 219 Try.f219 [tSl, (tInt .i64), (tInt .i64)] [] false h_slices_breakPatternsOrdered_int (fun a => m_slices_breakPatternsOrdered_int a.1 a.2.1 a.2.2) (fun a K h => by kernel_rfl) callee219 rfl
def m_slices_order2Ordered_int (a0 : Sl) (a1 : Int) (a2 : Int) (a3 : Option Addr) (K : (Int × Int) → H → Prop) : H → Prop :=
 mIdx a0 a2 1 fun ad1 =>
 mIdx a0 a1 1 fun ad2 =>
 mLoad (cInt .i64) ad1 fun x3 =>
 mLoad (cInt .i64) ad2 fun x4 =>
 mPure (m_cmp_Less_int x3 x4) fun r5 =>
 mIf r5 (
 mDeref a3 fun ad6 =>
 mLoad (cInt .i64) ad6 fun x7 =>
 mDeref a3 fun ad8 =>
 mStore ad8 [(Value.int .i64 (iAdd .i64 x7 1))] <|
 K (a2, a1)
 ) (
 K (a1, a2)
 )
def x_slices_order2Ordered_int : Cx Try.prog := ⟨tys, [s_cmp_Less_int], [], [], mixed⟩
def h_slices_order2Ordered_int : Hint := (.seq .d (.seq (.seq (.reg (.run [0, 4, 8, 16, 20, 24, 14, 30, 32] .nil)) .d) .d))
def s_slices_order2Ordered_int : Spec Try.prog := mkSpec x_slices_order2Ordered_int 235 Try.f235 [tSl, (tInt .i64), (tInt .i64), tPtr] [(tInt .i64), (tInt .i64)] false h_slices_order2Ordered_int (fun a => m_slices_order2Ordered_int a.1 a.2.1 a.2.2.1 a.2.2.2) (fun a K h => by kernel_rfl) callee235 rfl
def m_slices_medianOrdered_int (a0 : Sl) (a1 : Int) (a2 : Int) (a3 : Int) (a4 : Option Addr) (K : (Int) → H → Prop) : H → Prop :=
 m_slices_order2Ordered_int a0 a1 a2 a4 fun r1 =>
 m_slices_order2Ordered_int a0 r1.2 a3 a4 fun r2 =>
 m_slices_order2Ordered_int a0 r1.1 r2.1 a4 fun r3 =>
 K r3.2
def x_slices_medianOrdered_int : Cx Try.prog := ⟨tys, [s_slices_order2Ordered_int], [], [], mixed⟩
def h_slices_medianOrdered_int : Hint := .d
def s_slices_medianOrdered_int : Spec Try.prog := mkSpec x_slices_medianOrdered_int 233 Try.f233 [tSl, (tInt .i64), (tInt .i64), (tInt .i64), tPtr] [(tInt .i64)] false h_slices_medianOrdered_int (fun a => m_slices_medianOrdered_int a.1 a.2.1 a.2.2.1 a.2.2.2.1 a.2.2.2.2) (fun a K h => by kernel_rfl) callee233 rfl
def m_slices_medianAdjacentOrdered_int (a0 : Sl) (a1 : Int) (a2 : Option Addr) (K : (Int) → H → Prop) : H → Prop :=
 m_slices_medianOrdered_int a0 (iSub .i64 a1 1) a1 (iAdd .i64 a1 1) a2 fun r1 =>
 K r1
def x_slices_medianAdjacentOrdered_int : Cx Try.prog := ⟨tys, [s_slices_medianOrdered_int], [], [], mixed⟩
def h_slices_medianAdjacentOrdered_int : Hint := .d
def s_slices_medianAdjacentOrdered_int : Spec Try.prog := mkSpec x_slices_medianAdjacentOrdered_int 232 Try.f232 [tSl, (tInt .i64), tPtr] [(tInt .i64)] false h_slices_medianAdjacentOrdered_int (fun a => m_slices_medianAdjacentOrdered_int a.1 a.2.1 a.2.2) (fun a K h => by kernel_rfl) callee232 rfl
def m_slices_choosePivotOrdered_int (a0 : Sl) (a1 : Int) (a2 : Int) (K : (Int × Int) → H → Prop) : H → Prop :=
 mNew 3 #[(Value.int .i64 0)] fun ad1 =>
 mJoin (fun (s2 : Int) =>
 mLoad (cInt .i64) ad1 fun x4 =>
 mIf (decide (x4 = 0)) (
 K (s2, 1)
 ) (
 mIf (decide (x4 = 12)) (
 K (s2, 2)
 ) (
 K (s2, 0)
 )
 )
 ) (fun j3 =>
 mIf (decide (8 ≤ (iSub .i64 a2 a1))) (
 mJoin (fun (s5 : Int × Int × Int) =>
 m_slices_medianOrdered_int a0 s5.1 s5.2.1 s5.2.2 (some ad1) fun r7 =>
 j3 r7
 ) (fun j6 =>
 mIf (decide (50 ≤ (iSub .i64 a2 a1))) (
 m_slices_medianAdjacentOrdered_int a0 (iAdd .i64 a1 (iMul .i64 (iQuo .i64 (iSub .i64 a2 a1) 4) 1)) (some ad1) fun r8 =>
 m_slices_medianAdjacentOrdered_int a0 (iAdd .i64 a1 (iMul .i64 (iQuo .i64 (iSub .i64 a2 a1) 4) 2)) (some ad1) fun r9 =>
 m_slices_medianAdjacentOrdered_int a0 (iAdd .i64 a1 (iMul .i64 (iQuo .i64 (iSub .i64 a2 a1) 4) 3)) (some ad1) fun r10 =>
 j6 (r8, r9, r10)
 ) (
 j6 ((iAdd .i64 a1 (iMul .i64 (iQuo .i64 (iSub .i64 a2 a1) 4) 1)), (iAdd .i64 a1 (iMul .i64 (iQuo .i64 (iSub .i64 a2 a1) 4) 2)), (iAdd .i64 a1 (iMul .i64 (iQuo .i64 (iSub .i64 a2 a1) 4) 3)))
 )
 )
 ) (
 j3 (iAdd .i64 a1 (iMul .i64 (iQuo .i64 (iSub .i64 a2 a1) 4) 2))
 )
 )
def x_slices_choosePivotOrdered_int : Cx Try.prog := ⟨tys, [s_slices_medianAdjacentOrdered_int, s_slices_medianOrdered_int], [], [], mixed⟩
def h_slices_choosePivotOrdered_int : Hint := (.seq .d (.seq .d (.seq .d (.seq .d (.seq .d (.seq .d (.join [.slot 11 (tInt .i64)] 562947805944832 [] (.seq .d (.cond (.join [.slot 10 (tInt .i64), .slot 11 (tInt .i64), .slot 12 (tInt .i64)] 17583596116992 [] .d .d) .d)) .d)))))))
def s_slices_choosePivotOrdered_int : Spec Try.prog := mkSpec x_slices_choosePivotOrdered_int 220 Try.f220 [tSl, (tInt .i64), (tInt .i64)] [(tInt .i64), (tInt .i64)] false h_slices_choosePivotOrdered_int (fun a => m_slices_choosePivotOrdered_int a.1 a.2.1 a.2.2) (fun a K h => by kernel_rfl) callee220 rfl
def m_slices_reverseRangeOrdered_int (a0 : Sl) (a1 : Int) (a2 : Int) (K : (Unit) → H → Prop) : H → Prop :=
 mLoop (fun (rec2 : (Int × Int) → H → Prop) (s1 : Int × Int) =>
 mIf (decide (s1.1 < s1.2)) (
 mIdx a0 s1.2 1 fun ad3 =>
 mIdx a0 s1.1 1 fun ad4 =>
 mLoad (cInt .i64) ad3 fun x5 =>
 mLoad (cInt .i64) ad4 fun x6 =>
 mIdx a0 s1.1 1 fun ad7 =>
 mStore ad7 [(Value.int .i64 x5)] <|
 mIdx a0 s1.2 1 fun ad8 =>
 mStore ad8 [(Value.int .i64 x6)] <|
 rec2 ((iAdd .i64 s1.1 1), (iSub .i64 s1.2 1))
 ) (
 K ()
 )
 ) (a1, (iSub .i64 a2 1))
def x_slices_reverseRangeOrdered_int : Cx Try.prog := ⟨tys, [], [], [], mixed⟩
def h_slices_reverseRangeOrdered_int : Hint := (.seq .d (.seq .d (.blk (.loop [.slot 6 (tInt .i64), .slot 7 (tInt .i64)] 4294965440 [] (.seq .d (.blk (.seq (.reg (.run [0, 4, 8, 12, 16, 20, 24, 32, 36, 40, 30, 46, 48, 55, 56, 63] .nil)) .d)))))))
def s_slices_reverseRangeOrdered_int : Spec Try.prog := mkSpec x_slices_reverseRangeOrdered_int 221 Try.f221 [tSl, (tInt .i64), (tInt .i64)] [] false h_slices_reverseRangeOrdered_int (fun a => m_slices_reverseRangeOrdered_int a.1 a.2.1 a.2.2) (fun a K h => by kernel_rfl) callee221 rfl
end Go.Proofs.Ytbjkfllncegpcaa.K
