/- More plain laws of memory: counted loops, elements read and written, made slices, bytes and texts. Plain laws of maps: typed entries; looked up, set, deleted. Runs over maps: each entry once, in any order. append, and what the old slice still reads. Who may write a block: tags, steps that write blocks of some tags alone. Parts of slices; blocks told apart by their types; copy. append onto slices that are full, or whole; cuts with a capacity. -/
import Derived.Test.YtiajjcboddaenaaL1
import Derived.Laws.Strings
import Derived.Test.YtiajjcboddaenaaK12
import Derived.Test.YtiajjcboddaenaaQ3
namespace Go.Proofs.Ytiajjcboddaenaa.K
open Go

section
variable {h : H}
/-- A loop that counts to 'n'. -/
theorem w_for {σ : Type} {F : (σ → H → Prop) → σ → H → Prop} (n : Nat) (I : Nat → σ → H → Prop)
    (step : ∀ (rec : σ → H → Prop) (j : Nat) (s : σ) (h : H), j ≤ n → I j s h → (∀ s' h', j < n → I (j + 1) s' h' → rec s' h') → F rec s h) {s : σ} (i : I 0 s h) : mLoop F s h := by
  suffices ∀ (m : Nat) (j : Nat) (s : σ) (h : H), j ≤ n → n - j ≤ m → I j s h → ∃ N, loopF F N s h from this n 0 s h (Nat.zero_le _) (Nat.sub_le _ _) i
  intro m
  induction m with
  | zero =>
    intro j s h hj hm i
    exact ⟨1, step _ j s h hj i fun s' h' q => by omega⟩
  | succ m ih =>
    intro j s h hj hm i
    have key : ∀ (N : Nat) (F' : σ → H → Prop), True := fun _ _ => trivial
    -- the number of rounds is not known ahead: bound it by the measure
    have all : ∀ (M : Nat) (j : Nat) (s : σ) (h : H), j ≤ n → n - j < M → I j s h → loopF F M s h := by
      intro M
      induction M with
      | zero => intro j s h _ q; omega
      | succ M ihM => exact fun j s h hj q i => step _ j s h hj i fun s' h' lt i' => ihM (j + 1) s' h' lt (by omega) i'
    exact ⟨n - j + 1, all _ j s h hj (Nat.lt_succ_self _) i⟩
/-- An element is read. -/
theorem w_get {T T' : Type} {cells : T → List Value} {cells' : T' → List Value} {sz : Nat} (hs : ∀ x, (cells x).length = sz) {s : Sl} {xs : List T} (x : Arr cells h s xs) {i : Nat} {v : T} (e : xs[i]? = some v) {j : Int} (hj : j = i) {v' : T'} (hv : cells' v' = cells v) {k : T' → H → Prop}
    (y : k v' h) : mIdx s j sz (fun a => mLoad cells' a k) h := by
  refine w_idx hs x e hj fun a _ ha => w_load (v := v') ?_ y
  rw [hv]; exact ha
/-- An element is written. -/
theorem w_put {T : Type} {cells : T → List Value} {sz : Nat} {e : TypeId} (hs : ∀ x, (cells x).length = sz) {s : Sl} {xs : List T} (x : Buf cells sz e h s xs) {i : Nat} (hi : i < xs.length) {j : Int} (hj : j = i) (v' : T) {new : List Value} (hv : cells v' = new) {k : H → Prop}
    (y : ∀ h', Buf cells sz e h' s (xs.set i v') → But s.foot h h' → (∀ b, h' b = none → h b = none) → k h') : mIdx s j sz (fun a => mStore a new k) h := by
  refine w_idx hs x.arr (List.getElem?_eq_getElem hi) hj fun a ha _ => ?_
  refine w_set hs x (v' := v') (List.getElem?_eq_getElem hi) ha (c1 := []) (c2 := cells xs[i]) (c3 := []) (new := new) (by simp) (by simp [hv]) (by rw [← hv, hs, hs]) (add_zero a).symm y
theorem flat_rep {T : Type} {cells : T → List Value} {sz : Nat} (hs : ∀ x, (cells x).length = sz) (z : T) : ∀ (n i : Nat), (flat cells (List.replicate n z))[i]? = if i < n * sz then (cells z)[i % sz]? else none := by
  intro n
  induction n with
  | zero => intro i; simp [flat]
  | succ n ih =>
    intro i
    rw [List.replicate_succ, flat_cons, List.getElem?_append, hs]
    split
    · rename_i hi
      have : sz ≤ (n + 1) * sz := Nat.le_mul_of_pos_left _ (Nat.succ_pos n)
      rw [if_pos (by omega), Nat.mod_eq_of_lt hi]
    · rename_i hi
      rw [ih, Nat.succ_mul]
      have e : (i - sz) % sz = i % sz := by
        conv => rhs; rw [show i = i - sz + sz by omega, Nat.add_mod_right]
      rw [e]
      by_cases c : i < n * sz + sz
      · rw [if_pos c, if_pos (by omega)]
      · rw [if_neg c, if_neg (by omega)]
theorem zero_flat {T : Type} {cells : T → List Value} {sz : Nat} (hs : ∀ x, (cells x).length = sz) (z : T) {zero : Array Value} (hz : zero = (cells z).toArray) (n : Nat) : (Builtin.zeroCells zero n).toList = flat cells (List.replicate n z) := by
  subst hz
  apply List.ext_getElem?
  intro i
  rw [flat_rep hs]
  unfold Builtin.zeroCells
  rw [Array.getElem?_toList, Array.getElem?_map, Array.getElem?_range]
  have hsz : (cells z).toArray.size = sz := by rw [List.size_toArray, hs]
  rw [hsz]
  split
  · rename_i hi
    rw [Option.map_some]
    have hpos : 0 < sz := by
      rcases Nat.eq_zero_or_pos sz with q | q
      · rw [q, Nat.mul_zero] at hi; omega
      · exact q
    have hlt : i % sz < (cells z).length := by rw [hs]; exact Nat.mod_lt _ hpos
    rw [List.getElem?_eq_getElem hlt]
    simp [hlt]
  · rfl
/-- make([]T, n). -/
theorem w_make {T : Type} {cells : T → List Value} {sz by_ : Nat} {e : TypeId} (hs : ∀ x, (cells x).length = sz) (z : T) {zero : Array Value} (hz : zero = (cells z).toArray) {n : Nat} {i j : Int} (hi : i = n) (hj : j = n) (hn : n ≤ 9223372036854775807) (hb : by_ * n ≤ 2 ^ 48) {k : Sl → H → Prop}
    (y : ∀ s h', Buf cells sz e h' s (List.replicate n z) → Keeps h h' → (∀ b, s.foot b → h b = none) → s.cap = n → k s h') : mMake e by_ zero i j k h := by
  subst hi; subst hj
  refine ⟨by omega, by omega, by omega, by exact_mod_cast hb, fun b hb => ?_⟩
  rw [Int.toNat_natCast]
  refine y _ _ ⟨by simp, Nat.le_refl _, .inr ⟨b, [], (0, 0), rfl, ?_, ?_, thawed0 _⟩⟩ (.new hb) (fun c ⟨a, ha, hc⟩ => by cases ha; subst hc; exact hb) rfl
  · rw [upd_same, List.append_nil, ← zero_flat hs z hz]
  · rw [List.append_nil, flat_len hs, List.length_replicate]

/-- Ways that meet with one known value, memory as it was. -/
theorem w_joinV {σ : Type} {rest : σ → H → Prop} {body : (σ → H → Prop) → H → Prop} (v : σ) (hb : ∀ j : σ → H → Prop, j v h → body j h) (hr : rest v h) : mJoin rest body h := hb rest hr
theorem w_both {A B : H → Prop} (x : A h) (y : B h) : mBoth A B h := ⟨x, y⟩

/-! Bytes. -/
def cU8 (b : UInt8) : List Value := [.int .u8 b.toNat]
theorem u8_len : ∀ b, (cU8 b).length = 1 := fun _ => rfl
theorem u8_plain : ∀ b, (cU8 b).all plainVal = true := fun _ => rfl
theorem flat_u8 (l : List UInt8) : flat cU8 l = l.map fun b => Value.int .u8 b.toNat := by
  induction l with
  | nil => rfl
  | cons b r ih => rw [flat_cons, ih]; rfl
/-- string(bytes). -/
theorem w_text {s : Sl} {bs : List UInt8} (x : Arr cU8 h s bs) {k : ByteArray → H → Prop} (y : k ⟨bs.toArray⟩ h) : mText s k h := by
  refine ⟨bs, ?_, fun _ => x.len.symm, y⟩
  rw [← flat_u8]; exact x.row
/-- []byte(text). -/
theorem w_bytes {e : TypeId} {t : ByteArray} {k : Sl → H → Prop} (y : ∀ s h', Buf cU8 1 e h' s t.data.toList → Keeps h h' → (∀ b, s.foot b → h b = none) → k s h') : mBytes e t k h := by
  intro b cap hb hcap
  have hsz : t.data.toList.length = t.size := by simp
  have e1 : ((t.data.map fun b => Value.int .u8 b.toNat) ++ Array.replicate (cap - t.size) (Value.int .u8 0)) = (flat cU8 t.data.toList ++ List.replicate (cap - t.size) (Value.int .u8 0)).toArray := by
    rw [flat_u8]
    apply Array.toList_inj.1
    simp
  rw [e1]
  refine y _ _ ⟨hsz.symm, hcap, .inr ⟨b, List.replicate (cap - t.size) (.int .u8 0), _, rfl, upd_same _ _ _, ?_, fun i hi => ?_⟩⟩ (.new hb) (fun c ⟨a, ha, hc⟩ => by cases ha; subst hc; exact hb)
  · rw [List.length_append, flat_len u8_len, List.length_replicate, hsz]
    show t.size * 1 + (cap - t.size) = cap * 1
    omega
  · have hi : i < cap * 1 := hi
    simp only [frozenIn, Bool.and_eq_false_iff, decide_eq_false_iff_not]
    exact .inl (by omega)
theorem bytes_eq {a b : List UInt8} : ((⟨a.toArray⟩ : ByteArray).toList == (⟨b.toArray⟩ : ByteArray).toList) = decide (a = b) := by
  rw [ByteArray.toList_mk, ByteArray.toList_mk, Bool.eq_iff_iff]
  simp
end
end Go.Proofs.Ytiajjcboddaenaa.K
namespace Go.Proofs.Ytiajjcboddaenaa.K
open Go

section
variable {K V : Type}
/-- A map: its typed entries in the order in which they were put in. -/
structure MapOf (kc : K → Value) (vc : V → Value) (h : H) (b : Nat) (l : List (K × V)) : Prop where
  ex : ∃ es cl, h b = some (.map es cl) ∧ es.toList.map (fun e => (e.key, e.val)) = l.map (fun p => (kc p.1, vc p.2)) ∧ (es.toList.map (·.born)).Nodup ∧ ∀ c ∈ es.toList.map (·.born), c < cl
theorem MapOf.keep {kc : K → Value} {vc : V → Value} {h h' : H} {b : Nat} {l : List (K × V)} (x : MapOf kc vc h b l) (k : Keeps h h') : MapOf kc vc h' b l := by
  obtain ⟨es, cl, e, r⟩ := x.ex
  exact ⟨es, cl, k _ _ e, r⟩
theorem MapOf.but {kc : K → Value} {vc : V → Value} {h h' : H} {b : Nat} {l : List (K × V)} {F : Nat → Prop} (x : MapOf kc vc h b l) (k : But F h h') (f : ¬ F b) : MapOf kc vc h' b l := by
  obtain ⟨es, cl, e, r⟩ := x.ex
  exact ⟨es, cl, k _ _ e f, r⟩
theorem w_makeMap {h : H} {kk : Option Nat → H → Prop} (kc : K → Value) (vc : V → Value) (y : ∀ b h', h b = none → MapOf kc vc h' b [] → Keeps h h' → kk (some b) h') : mMakeMap kk h := fun b hb =>
  y b _ hb ⟨#[], 0, upd_same _ _ _, rfl, List.nodup_nil, fun e he => by simp at he⟩ (.new hb)
/-- A map that is none holds nothing. -/
theorem w_lookup0 {h : H} {vc : V → Value} {eq : Value → Value → Option Bool} {z : V} {k : Value} {kk : V × Bool → H → Prop} (y : kk (z, false) h) : mLookup eq vc z none k kk h := ⟨#[], 0, (⟨rfl, rfl⟩ : MapAt h none #[] 0), fun e he => by simp at he, y⟩
variable [DecidableEq K]
/-- Where a key stands, and what lies there. -/
def aidx : List (K × V) → K → Option (Nat × V)
  | [], _ => none
  | (a, v) :: r, k => if k = a then some (0, v) else (aidx r k).map fun p => (p.1 + 1, p.2)
def alook (l : List (K × V)) (k : K) : Option V := (aidx l k).map (·.2)
def aset (l : List (K × V)) (k : K) (v : V) : List (K × V) := match aidx l k with
  | none => l ++ [(k, v)]
  | some (i, _) => l.set i (k, v)
def adel (l : List (K × V)) (k : K) : List (K × V) := match aidx l k with
  | none => l
  | some (i, _) => l.eraseIdx i
theorem set_same {T : Type} {l : List T} {i : Nat} {x : T} (h : l[i]? = some x) : l.set i x = l := by
  apply List.ext_getElem?
  intro j
  rw [List.getElem?_set]
  by_cases q : i = j
  · subst q
    rw [if_pos rfl, h, if_pos (lt_of_get h)]
  · rw [if_neg q]
theorem aidx_some {k : K} {v : V} : ∀ {l : List (K × V)} {i : Nat}, aidx l k = some (i, v) → l[i]? = some (k, v) := by
  intro l
  induction l with
  | nil => intro i h; cases h
  | cons p r ih =>
    obtain ⟨a, w⟩ := p
    intro i h
    unfold aidx at h
    by_cases e : k = a
    · rw [if_pos e] at h; cases h; subst e; rfl
    · rw [if_neg e] at h
      cases hr : aidx r k with
      | none => rw [hr] at h; cases h
      | some q => rw [hr] at h; cases h; exact ih hr
/-- How keys are compared. -/
def KeyEq (eq : Value → Value → Option Bool) (kc : K → Value) : Prop := ∀ a b, eq (kc a) (kc b) = some (decide (a = b))
variable {kc : K → Value} {vc : V → Value} {eq : Value → Value → Option Bool} {h : H} {b : Nat} {l : List (K × V)}
theorem ents_find (he : KeyEq eq kc) (k : K) : ∀ (es : List MapEntry) (l : List (K × V)) (i : Nat), es.map (fun e => (e.key, e.val)) = l.map (fun p => (kc p.1, vc p.2)) → findR eq (kc k) es i = (aidx l k).map fun p => (i + p.1, vc p.2) := by
  intro es
  induction es with
  | nil =>
    intro l i h
    cases l with
    | nil => rfl
    | cons => cases h
  | cons e r ih =>
    intro l i h
    cases l with
    | nil => cases h
    | cons p q =>
      obtain ⟨a, v⟩ := p
      rw [List.map_cons, List.map_cons] at h
      injection h with h1 h2
      have h3 : e.key = kc a := (Prod.mk.inj h1).1
      have h4 : e.val = vc v := (Prod.mk.inj h1).2
      unfold findR aidx
      rw [h3, he k a]
      by_cases e : k = a
      · rw [decide_eq_true e, if_pos e, h4]; rfl
      · rw [decide_eq_false e, if_neg e]
        simp only
        rw [ih q (i + 1) h2]
        cases aidx q k with
        | none => rfl
        | some z => simp only [Option.map_some]; congr 2; omega
theorem ents_keys (he : KeyEq eq kc) (k : K) {es : Array MapEntry} {l : List (K × V)} (h : es.toList.map (fun e => (e.key, e.val)) = l.map (fun p => (kc p.1, vc p.2))) : Keys eq (kc k) es := fun e hm => by
  have : (e.key, e.val) ∈ es.toList.map (fun e => (e.key, e.val)) := List.mem_map_of_mem hm
  rw [h] at this
  obtain ⟨p, _, hp⟩ := List.mem_map.1 this
  have : kc p.1 = e.key := (Prod.mk.inj hp).1
  exact ⟨_, by rw [← this]; exact he k p.1⟩
/-- v, ok := m[k]. -/
theorem w_lookup (he : KeyEq eq kc) (x : MapOf kc vc h b l) {z : V} {k : K} {kk : V × Bool → H → Prop} (y : kk ((alook l k).getD z, (alook l k).isSome) h) : mLookup eq vc z (some b) (kc k) kk h := by
  obtain ⟨es, cl, e, hm, _⟩ := x.ex
  refine ⟨es, cl, e, ents_keys he k hm, ?_⟩
  rw [ents_find he k es.toList l 0 hm]
  unfold alook at y
  cases ha : aidx l k with
  | none => rw [ha] at y; exact y
  | some p => rw [ha] at y; exact ⟨p.2, rfl, y⟩
/-- m[k] = v. -/
theorem w_mapSet (he : KeyEq eq kc) (x : MapOf kc vc h b l) {k : K} {v : V} {key val : Value} (hk : key = kc k) (hv : val = vc v) {kk : H → Prop} (y : ∀ h', MapOf kc vc h' b (aset l k v) → But (· = b) h h' → (∀ c, h' c = none → h c = none) → kk h') : mMapSet eq (some b) key val kk h := by
  subst hk; subst hv
  obtain ⟨es, cl, e, hm, hp, hb⟩ := x.ex
  refine ⟨b, es, cl, rfl, e, ents_keys he k hm, ?_⟩
  have hf := ents_find he k es.toList l 0 hm
  have hlen : es.toList.length = l.length := by have := congrArg List.length hm; simpa using this
  cases ha : aidx l k with
  | none =>
    rw [ha] at hf
    have hf : findR eq (kc k) es.toList 0 = none := hf
    rw [hf]
    refine y _ ⟨_, _, upd_same _ _ _, ?_, ?_, ?_⟩ (But.upd rfl) fun c hc => (upd_none.1 hc).2
    · unfold aset; rw [ha]
      simp only [Array.toList_push, List.map_append, hm, List.map_cons, List.map_nil]
    · rw [Array.toList_push, List.map_append, List.nodup_append]
      refine ⟨hp, by simp, fun a ha c hc => ?_⟩
      simp only [List.map_cons, List.map_nil, List.mem_singleton] at hc
      subst hc
      have := hb a ha
      omega
    · intro a ha
      rw [Array.toList_push, List.map_append, List.mem_append] at ha
      rcases ha with q | q
      · have := hb a q; omega
      · simp only [List.map_cons, List.map_nil, List.mem_singleton] at q
        omega
  | some p =>
    obtain ⟨i, w⟩ := p
    rw [ha] at hf
    have hf : findR eq (kc k) es.toList 0 = some (0 + i, vc w) := hf
    rw [Nat.zero_add] at hf
    rw [hf]
    have hi := aidx_some ha
    have hlt := lt_of_get hi
    obtain ⟨e0, h0, hk0⟩ : ∃ e0, es.toList[i]? = some e0 ∧ e0.key = kc k := by
      have hg := congrArg (·[i]?) hm
      simp only [List.getElem?_map, hi, Option.map_some] at hg
      cases h0 : es.toList[i]? with
      | none => rw [h0] at hg; cases hg
      | some e0 => rw [h0] at hg; exact ⟨e0, rfl, (Prod.mk.inj (Option.some.inj hg)).1⟩
    have ha0 : es[i]? = some e0 := by rw [← Array.getElem?_toList]; exact h0
    have hmod : (es.modify i fun e => { e with key := kc k, val := vc v }).toList = es.toList.set i { e0 with key := kc k, val := vc v } := by
      rw [Array.toList_modify]
      apply List.ext_getElem?
      intro j
      rw [List.getElem?_modify, List.getElem?_set]
      by_cases q : i = j
      · subst q
        rw [h0, if_pos rfl, if_pos (by omega)]
        simp
      · rw [if_neg q]; simp [q]
    refine ⟨by rw [ha0]; simp [hk0], y _ ⟨_, _, upd_same _ _ _, ?_, ?_, ?_⟩ (But.upd rfl) fun c hc => (upd_none.1 hc).2⟩
    · unfold aset
      rw [ha, hmod, List.map_set, List.map_set, hm]
    · rw [hmod, List.map_set]
      have : (es.toList.map (·.born)).set i e0.born = es.toList.map (·.born) := set_same (by rw [List.getElem?_map, h0]; rfl)
      rw [this]; exact hp
    · rw [hmod, List.map_set]
      have : (es.toList.map (·.born)).set i e0.born = es.toList.map (·.born) := set_same (by rw [List.getElem?_map, h0]; rfl)
      rw [this]; exact hb
theorem map_eraseIdx {S T : Type} (f : S → T) : ∀ (l : List S) (i : Nat), (l.eraseIdx i).map f = (l.map f).eraseIdx i := by
  intro l
  induction l with
  | nil => intro i; rfl
  | cons a r ih =>
    intro i
    cases i with
    | zero => rfl
    | succ i => simp only [List.eraseIdx_cons_succ, List.map_cons, ih]
/-- delete(m, k). -/
theorem w_mapDel (he : KeyEq eq kc) (x : MapOf kc vc h b l) {k : K} {key : Value} (hk : key = kc k) {kk : H → Prop} (y : ∀ h', MapOf kc vc h' b (adel l k) → But (· = b) h h' → (∀ c, h' c = none → h c = none) → kk h') : mMapDel eq (some b) key kk h := by
  subst hk
  have x0 := x
  obtain ⟨es, cl, e, hm, hp, hb⟩ := x.ex
  refine ⟨es, cl, e, ents_keys he k hm, ?_⟩
  have hf := ents_find he k es.toList l 0 hm
  have hlen : es.toList.length = l.length := by have := congrArg List.length hm; simpa using this
  cases ha : aidx l k with
  | none =>
    rw [ha] at hf
    have hf : findR eq (kc k) es.toList 0 = none := hf
    rw [hf]
    exact y _ (by unfold adel; rw [ha]; exact x0) (.refl _ _) fun _ q => q
  | some p =>
    obtain ⟨i, w⟩ := p
    rw [ha] at hf
    have hf : findR eq (kc k) es.toList 0 = some (0 + i, vc w) := hf
    rw [Nat.zero_add] at hf
    rw [hf]
    have hlt := lt_of_get (aidx_some ha)
    have hsz : i < es.size := by rw [← Array.length_toList]; omega
    have hmod : (es.eraseIdxIfInBounds i).toList = es.toList.eraseIdx i := by
      rw [Array.toList_eraseIdxIfInBounds]
    refine y _ ⟨_, _, upd_same _ _ _, ?_, ?_, ?_⟩ (But.upd rfl) fun c hc => (upd_none.1 hc).2
    · unfold adel
      rw [ha, hmod, map_eraseIdx, map_eraseIdx, hm]
    · rw [hmod, map_eraseIdx]
      exact hp.sublist (List.eraseIdx_sublist _ _)
    · rw [hmod, map_eraseIdx]
      exact fun c hc => hb c ((List.eraseIdx_sublist _ _).subset hc)
omit [DecidableEq K] in
theorem w_mapLen (x : MapOf kc vc h b l) (hl : l.length ≤ 9223372036854775807) {kk : Int → H → Prop} (y : kk (l.length : Nat) h) : mMapLen (some b) kk h := by
  obtain ⟨es, cl, e, hm, _⟩ := x.ex
  have hlen : es.toList.length = l.length := by have := congrArg List.length hm; simpa using this
  have hs : es.size = l.length := by rw [← Array.length_toList]; exact hlen
  exact ⟨es, cl, e, by omega, by rw [hs]; exact y⟩
end
end Go.Proofs.Ytiajjcboddaenaa.K
namespace Go.Proofs.Ytiajjcboddaenaa.K
open Go

section
variable {K V : Type}
def entOf (kc : K → Value) (vc : V → Value) (t : Nat × K × V) : MapEntry := ⟨kc t.2.1, vc t.2.2, t.1⟩
theorem typed (kc : K → Value) (vc : V → Value) : ∀ (es : List MapEntry) (l : List (K × V)), es.map (fun e => (e.key, e.val)) = l.map (fun p => (kc p.1, vc p.2)) → ∃ te : List (Nat × K × V), es = te.map (entOf kc vc) ∧ l = te.map (·.2) := by
  intro es
  induction es with
  | nil =>
    intro l h
    cases l with
    | nil => exact ⟨[], rfl, rfl⟩
    | cons => cases h
  | cons e r ih =>
    intro l h
    cases l with
    | nil => cases h
    | cons p q =>
      rw [List.map_cons, List.map_cons] at h
      injection h with h1 h2
      obtain ⟨te, rfl, rfl⟩ := ih q h2
      refine ⟨(e.born, p) :: te, ?_, rfl⟩
      rw [List.map_cons]
      congr 1
      obtain ⟨ek, ev_, eb⟩ := e
      cases (Prod.mk.inj h1).1
      cases (Prod.mk.inj h1).2
      rfl
/-- A run over a map: what it has not seen yet; where it stands. -/
structure IterOf (kc : K → Value) (vc : V → Value) (h : H) (it : Addr) (b : Nat) (l rest : List (K × V)) (at_ : Option (K × V)) : Prop where
  ex : ∃ (te : List (Nat × K × V)) (cl : Nat) (seen : Array Nat), it.off = 0 ∧ h it.block = some (.mapIter (some b) cl seen cl) ∧ h b = some (.map (te.map (entOf kc vc)).toArray cl) ∧ l = te.map (·.2) ∧ (te.map (·.1)).Nodup ∧ (∀ t ∈ te, t.1 < cl) ∧
    rest = (te.filter fun t => !seen.contains t.1).map (·.2) ∧ ∀ p, at_ = some p → ∃ t ∈ te, t.2 = p ∧ seen.back? = some t.1
variable {kc : K → Value} {vc : V → Value} {h : H} {b : Nat} {l rest : List (K × V)}
theorem IterOf.but {it : Addr} {o : Option (K × V)} {F : Nat → Prop} {h' : H} (x : IterOf kc vc h it b l rest o) (k : But F h h') (f1 : ¬ F it.block) (f2 : ¬ F b) : IterOf kc vc h' it b l rest o := by
  obtain ⟨te, cl, seen, h0, h1, h2, r⟩ := x.ex
  exact ⟨te, cl, seen, h0, k _ _ h1 f1, k _ _ h2 f2, r⟩
theorem IterOf.keep {it : Addr} {o : Option (K × V)} {h' : H} (x : IterOf kc vc h it b l rest o) (k : Keeps h h') : IterOf kc vc h' it b l rest o := by
  obtain ⟨te, cl, seen, h0, h1, h2, r⟩ := x.ex
  exact ⟨te, cl, seen, h0, k _ _ h1, k _ _ h2, r⟩
/-- for k, v := range m: its beginning. -/
theorem w_range (x : MapOf kc vc h b l) {kk : Addr → H → Prop} (y : ∀ it h', h it.block = none → IterOf kc vc h' it b l l none → Keeps h h' → kk it h') : mRange (some b) kk h := by
  obtain ⟨es, cl, e, hm, hn, hb⟩ := x.ex
  refine ⟨es, cl, e, fun c hc => ?_⟩
  obtain ⟨te, h1, h2⟩ := typed kc vc es.toList l hm
  have hne : b ≠ c := fun q => by subst q; rw [hc] at e; cases e
  refine y _ _ hc ⟨te, cl, #[], rfl, upd_same _ _ _, ?_, h2, ?_, ?_, ?_, fun p q => by cases q⟩ (.new hc)
  · rw [upd_ne _ _ hne, e, ← h1]
  · rw [h1, List.map_map] at hn; exact hn
  · intro t ht
    rw [h1, List.map_map] at hb
    exact hb t.1 (List.mem_map.2 ⟨t, ht, rfl⟩)
  · rw [h2]; congr 1; symm; rw [List.filter_eq_self]; intro t _; simp
theorem filt {t : Nat × K × V} {P : Nat × K × V → Bool} (hP : P t = true) : ∀ te : List (Nat × K × V), (te.map (·.1)).Nodup → t ∈ te → (te.filter P).Perm (t :: te.filter fun u => P u && u.1 != t.1) := by
  intro te
  induction te with
  | nil => intro _ h; cases h
  | cons a r ih =>
    intro hn ht
    rw [List.map_cons, List.nodup_cons] at hn
    rcases List.mem_cons.1 ht with rfl | ht
    · rw [List.filter_cons_of_pos hP, List.filter_cons_of_neg (by simp)]
      refine List.Perm.cons _ (List.Perm.of_eq (List.filter_congr fun u hu => ?_))
      have : u.1 ≠ t.1 := fun e => hn.1 (List.mem_map.2 ⟨u, hu, e⟩)
      simp [this]
    · have hne : a.1 ≠ t.1 := fun e => hn.1 (List.mem_map.2 ⟨t, ht, e.symm⟩)
      have := ih hn.2 ht
      by_cases pa : P a = true
      · rw [List.filter_cons_of_pos pa, List.filter_cons_of_pos (by simp [pa, hne])]
        exact (this.cons a).trans (List.Perm.swap _ _ _)
      · rw [List.filter_cons_of_neg pa, List.filter_cons_of_neg (by simp [pa])]
        exact this
/-- .. its next step. -/
theorem w_next {it : Addr} {o : Option (K × V)} (x : IterOf kc vc h it b l rest o) (hb : it.block ≠ b) {kk : Bool × List Value → H → Prop} (over : rest = [] → kk (false, []) h)
    (more : ∀ p rest' h', rest.Perm (p :: rest') → IterOf kc vc h' it b l rest' (some p) → But (· = it.block) h h' → (∀ c, h' c = none → h c = none) → kk (true, [kc p.1, vc p.2]) h') : mNext it kk h := by
  obtain ⟨te, cl, seen, h0, h1, h2, h3, h4, h5, h6, _⟩ := x.ex
  refine ⟨h0, some b, cl, seen, cl, h1, _, cl, h2, ?_, fun hov => ?_, fun e he hs => ?_⟩
  · cases te with
    | nil => simp
    | cons t r =>
      have := h5 t (List.mem_cons_self ..)
      have hf : ((List.map (entOf kc vc) (t :: r)).toArray.all fun x => decide (x.born ≥ cl)) = false := by
        rw [Array.all_eq_false]
        refine ⟨0, by simp, ?_⟩
        simp [entOf]; exact this
      rw [hf, Bool.and_false]
  · refine over ?_
    rw [h6, List.map_eq_nil_iff, List.filter_eq_nil_iff]
    intro t ht hc
    have hlt := h5 t ht
    rw [Array.isEmpty_iff] at hov
    have : entOf kc vc t ∈ ((List.map (entOf kc vc) te).toArray.filter fun e => !seen.contains e.born).filter (·.born < cl) := by
      simp only [Array.mem_filter, List.mem_toArray]
      exact ⟨⟨List.mem_map.2 ⟨t, ht, rfl⟩, hc⟩, decide_eq_true hlt⟩
    rw [hov] at this
    simp at this
  · have he : e ∈ te.map (entOf kc vc) := by simpa using he
    obtain ⟨t, ht, rfl⟩ := List.mem_map.1 he
    have hP : (!seen.contains t.1) = true := by
      have hs : seen.contains t.1 = false := hs
      rw [hs]; rfl
    have pm := filt (P := fun u => !seen.contains u.1) hP te h4 ht
    refine more t.2 ((te.filter fun u => !(seen.push t.1).contains u.1).map (·.2)) _ ?_ ⟨te, cl, seen.push t.1, h0, upd_same _ _ _, by rw [upd_ne _ _ (Ne.symm hb)]; exact h2, h3, h4, h5, rfl, fun p q => ⟨t, ht, by cases q; rfl, by simp⟩⟩ (But.upd rfl) fun c hc => (upd_none.1 hc).2
    rw [h6]
    have e2 : (te.filter fun u => !(seen.push t.1).contains u.1) = te.filter fun u => !seen.contains u.1 && u.1 != t.1 := by
      refine List.filter_congr fun u _ => ?_
      rw [Array.contains_push]
      cases seen.contains u.1 <;> simp [bne, BEq.comm]
    rw [e2]
    exact pm.map (·.2)
theorem find_born {t : Nat × K × V} : ∀ te : List (Nat × K × V), (te.map (·.1)).Nodup → t ∈ te → (te.map (entOf kc vc)).find? (·.born == t.1) = some (entOf kc vc t) := by
  intro te
  induction te with
  | nil => intro _ h; cases h
  | cons a r ih =>
    intro hn ht
    rw [List.map_cons, List.nodup_cons] at hn
    rcases List.mem_cons.1 ht with rfl | ht
    · rw [List.map_cons, List.find?_cons_of_pos (by simp [entOf])]
    · have hne : a.1 ≠ t.1 := fun e => hn.1 (List.mem_map.2 ⟨t, ht, e.symm⟩)
      rw [List.map_cons, List.find?_cons_of_neg (by simp [entOf, hne])]
      exact ih hn.2 ht
theorem w_entry {it : Addr} {p : K × V} (x : IterOf kc vc h it b l rest (some p)) {kk : K × V → H → Prop} (y : kk p h) : mEntry kc vc it kk h := by
  obtain ⟨te, cl, seen, h0, h1, h2, h3, h4, h5, h6, h7⟩ := x.ex
  obtain ⟨t, ht, rfl, hs⟩ := h7 p rfl
  refine ⟨h0, b, cl, seen, t.1, _, cl, entOf kc vc t, t.2.1, t.2.2, h1, hs, h2, ?_, rfl, rfl, y⟩
  rw [List.find?_toArray]
  exact find_born te h4 ht
variable [DecidableEq K]
theorem aidx_cons (a : K) (w : V) (r : List (K × V)) (k : K) : aidx ((a, w) :: r) k = if k = a then some (0, w) else (aidx r k).map fun p => (p.1 + 1, p.2) := rfl
theorem aset_cons (a : K) (w : V) (r : List (K × V)) (k : K) (v : V) : aset ((a, w) :: r) k v = if k = a then (k, v) :: r else (a, w) :: aset r k v := by
  unfold aset
  rw [aidx_cons]
  by_cases e : k = a
  · rw [if_pos e, if_pos e]; rfl
  · rw [if_neg e, if_neg e]
    cases aidx r k <;> rfl
theorem adel_cons (a : K) (w : V) (r : List (K × V)) (k : K) : adel ((a, w) :: r) k = if k = a then r else (a, w) :: adel r k := by
  unfold adel
  rw [aidx_cons]
  by_cases e : k = a
  · rw [if_pos e, if_pos e]; rfl
  · rw [if_neg e, if_neg e]
    cases aidx r k <;> rfl
theorem alook_cons (a : K) (w : V) (r : List (K × V)) (k : K) : alook ((a, w) :: r) k = if k = a then some w else alook r k := by
  unfold alook
  rw [aidx_cons]
  by_cases e : k = a
  · rw [if_pos e, if_pos e]; rfl
  · rw [if_neg e, if_neg e]
    cases aidx r k <;> rfl
theorem alook_set (k k' : K) (v : V) : ∀ l : List (K × V), alook (aset l k v) k' = if k' = k then some v else alook l k' := by
  intro l
  induction l with
  | nil => exact alook_cons k v [] k'
  | cons p r ih =>
    obtain ⟨a, w⟩ := p
    rw [aset_cons, alook_cons]
    by_cases e : k = a
    · rw [if_pos e, alook_cons, e]
      by_cases q : k' = a
      · rw [if_pos q, if_pos q]
      · rw [if_neg q, if_neg q, if_neg q]
    · rw [if_neg e, alook_cons, ih]
      by_cases q : k' = a
      · rw [if_pos q, if_neg (show ¬ k' = k from fun z => e (z.symm.trans q)), if_pos q]
      · rw [if_neg q, if_neg q]
/-- Each key once. -/
def Once (l : List (K × V)) : Prop := (l.map (·.1)).Nodup
theorem aidx_none {k : K} : ∀ {l : List (K × V)}, alook l k = none → k ∉ l.map (·.1) := by
  intro l
  induction l with
  | nil => intro _ h; cases h
  | cons p r ih =>
    obtain ⟨a, w⟩ := p
    intro h hm
    rw [alook_cons] at h
    by_cases e : k = a
    · rw [if_pos e] at h; cases h
    · rw [if_neg e] at h
      rcases List.mem_cons.1 hm with q | q
      · exact e q
      · exact ih h q
theorem alook_none {k : K} : ∀ {l : List (K × V)}, k ∉ l.map (·.1) → alook l k = none := by
  intro l
  induction l with
  | nil => intro _; rfl
  | cons p r ih =>
    obtain ⟨a, w⟩ := p
    intro h
    rw [List.map_cons, List.mem_cons, not_or] at h
    rw [alook_cons, if_neg h.1, ih h.2]
theorem aset_keys (k : K) (v : V) : ∀ (l : List (K × V)) (x : K), x ∈ (aset l k v).map (·.1) ↔ x = k ∨ x ∈ l.map (·.1) := by
  intro l
  induction l with
  | nil => intro x; simp [aset, aidx]
  | cons p r ih =>
    obtain ⟨a, w⟩ := p
    intro x
    rw [aset_cons]
    by_cases e : k = a
    · rw [if_pos e]; subst e; simp
    · rw [if_neg e, List.map_cons, List.mem_cons, ih, List.map_cons, List.mem_cons]
      constructor
      · rintro (q | q | q)
        · exact .inr (.inl q)
        · exact .inl q
        · exact .inr (.inr q)
      · rintro (q | q | q)
        · exact .inr (.inl q)
        · exact .inl q
        · exact .inr (.inr q)
theorem Once.set {l : List (K × V)} (x : Once l) (k : K) (v : V) : Once (aset l k v) := by
  unfold Once at *
  induction l with
  | nil => simp [aset, aidx]
  | cons p r ih =>
    obtain ⟨a, w⟩ := p
    rw [List.map_cons, List.nodup_cons] at x
    rw [aset_cons]
    by_cases e : k = a
    · rw [if_pos e]; subst e; rw [List.map_cons, List.nodup_cons]; exact x
    · rw [if_neg e, List.map_cons, List.nodup_cons]
      refine ⟨fun q => ?_, ih x.2⟩
      rcases (aset_keys k v r a).1 q with q | q
      · exact e q.symm
      · exact x.1 q
theorem alook_del (k k' : K) : ∀ l : List (K × V), Once l → alook (adel l k) k' = if k' = k then none else alook l k' := by
  intro l
  induction l with
  | nil => intro _; simp [adel, aidx, alook]
  | cons p r ih =>
    obtain ⟨a, w⟩ := p
    intro x
    unfold Once at x ih
    rw [List.map_cons, List.nodup_cons] at x
    rw [adel_cons, alook_cons]
    by_cases e : k = a
    · rw [if_pos e, e]
      by_cases q : k' = a
      · rw [if_pos q, q]; exact alook_none x.1
      · rw [if_neg q, if_neg q]
    · rw [if_neg e, alook_cons, ih x.2]
      by_cases q : k' = a
      · rw [if_pos q, if_neg (show ¬ k' = k from fun z => e (z.symm.trans q)), if_pos q]
      · rw [if_neg q, if_neg q]
end
end Go.Proofs.Ytiajjcboddaenaa.K
namespace Go.Proofs.Ytiajjcboddaenaa.K
open Go
theorem Buf.has {V : Type} {h : H} {cells : V → List Value} {sz : Nat} {e : TypeId} {s : Sl} {xs : List V} (x : Buf cells sz e h s xs) {c : Nat} (f : s.foot c) : h c ≠ none := by
  obtain ⟨a, ha, rfl⟩ := f
  rcases x.at_ with ⟨q, _⟩ | ⟨b, z, fz, q, hb, _⟩
  · rw [q] at ha; cases ha
  · rw [q] at ha; cases ha; rw [hb]; simp
/-- A field of an element is read. -/
theorem w_field {T T' : Type} {cells : T → List Value} {cells' : T' → List Value} {sz : Nat} (hs : ∀ x, (cells x).length = sz) {h : H} {s : Sl} {xs : List T} (x : Arr cells h s xs) {i : Nat} {v : T} (e : xs[i]? = some v) {j : Int} (hj : j = i) {v' : T'} {l1 l3 : List Value} {n : Nat} (hc : cells v = l1 ++ cells' v' ++ l3) (hn : l1.length = n) {k : T' → H → Prop}
    (y : k v' h) : mIdx s j sz (fun a => mLoad cells' (a.add n) k) h := by
  refine w_idx hs x e hj fun a _ ha => w_load (v := v') ?_ y
  rw [hc] at ha
  exact ha.sub hn
/-- append onto a slice that the program has made; the old slice reads what it read. -/
theorem w_appK {T : Type} {cells : T → List Value} {sz by_ : Nat} {e : TypeId} (hs : ∀ x, (cells x).length = sz) {h : H} {zero : Array Value} (hz : zero.size = sz) {m : Nat} {new : List Value} {s : Sl} {xs : List T} (x : Buf cells sz e h s xs) (ys : List T) (hnew : new = flat cells ys) (hm : m = ys.length)
    (room : (2 * (xs.length + ys.length) + 192) * by_ ≤ 2 ^ 48) {k : Sl → H → Prop}
    (y : ∀ s' h', Buf cells sz e h' s' (xs ++ ys) → Arr cells h' s xs → But s.foot h h' → (∀ b, s'.foot b → s.foot b ∨ h b = none) → (∀ b, h' b = none → h b = none) → k s' h') : mApp e sz by_ zero m new s k h := by
  subst hm; subst hnew
  refine ⟨fun hle => ?_, fun hgt => ?_⟩
  · -- in place
    have old := (w_app hs hz x ys rfl rfl (.inl room) (k := fun s' h' => s' = ⟨s.a, s.len + ys.length, s.cap⟩ → k s' h') fun s' h' bu b f d eq => ?_ : mApp e sz by_ zero ys.length (flat cells ys) s _ h).1 hle
    · revert old
      cases s.a with
      | none => exact fun ⟨q, r⟩ => ⟨q, r rfl⟩
      | some a =>
        intro old
        rcases old with ⟨q, r⟩ | ⟨q1, c, e', fz, q2, q3, q4, r⟩
        · exact .inl ⟨q, r rfl⟩
        · exact .inr ⟨q1, c, e', fz, q2, q3, q4, r rfl⟩
    · refine y s' h' bu ⟨x.len, x.cap, fun hne => ?_⟩ b f d
      obtain ⟨a, ha, q⟩ := bu.arr.at_ (by simp [hne])
      rw [flat_append] at q
      subst eq
      exact ⟨a, ha, q.head⟩
  · -- outgrown
    have old := (w_appX hs hz x ys rfl rfl (.inl room) (k := k) fun s' h' bu b f d => ?_ : mApp e sz by_ zero ys.length (flat cells ys) s k h).2 hgt
    · exact old
    · refine y s' h' bu (x.arr.but b fun _ a _ q => ?_) (b.mono fun _ q => q.1) (fun c hc => (f c hc).imp (fun q => q.1) id) d
      omega
end Go.Proofs.Ytiajjcboddaenaa.K
namespace Go.Proofs.Ytiajjcboddaenaa.K
open Go
section
variable {τ : Type}
/-- Memory and tags behind a step that writes blocks of the tags 'T' alone. -/
structure Mv (T : τ → Prop) (o o' : Nat → Option τ) (h h' : H) : Prop where
  mem : ∀ c x, h c = some x → (∀ t, o c = some t → ¬ T t) → h' c = some x
  own : ∀ c, h c ≠ none → (∀ t, o c = some t → ¬ T t) → o' c = o c
  dom : ∀ c, h' c = none → h c = none
variable {T T' : τ → Prop} {o o' o'' : Nat → Option τ} {h h' h'' : H}
theorem Mv.refl (T : τ → Prop) (o : Nat → Option τ) (h : H) : Mv T o o h h := ⟨fun _ _ e _ => e, fun _ _ _ => rfl, fun _ e => e⟩
theorem Mv.mono (x : Mv T o o' h h') (e : ∀ t, T t → T' t) : Mv T' o o' h h' := ⟨fun c y hc n => x.mem c y hc fun t ht hT => n t ht (e t hT), fun c hc n => x.own c hc fun t ht hT => n t ht (e t hT), x.dom⟩
theorem Mv.trans (x : Mv T o o' h h') (y : Mv T' o' o'' h' h'') : Mv (fun t => T t ∨ T' t) o o'' h h'' := by
  have live : ∀ c, h c ≠ none → h' c ≠ none := fun c e q => e (x.dom c q)
  refine ⟨fun c z hc n => ?_, fun c e n => ?_, fun c e => x.dom c (y.dom c e)⟩
  · have q := x.own c (by rw [hc]; simp) fun t ht hT => n t ht (.inl hT)
    exact y.mem c z (x.mem c z hc fun t ht hT => n t ht (.inl hT)) fun t ht hT => n t (q ▸ ht) (.inr hT)
  · have q := x.own c e fun t ht hT => n t ht (.inl hT)
    exact (y.own c (live c e) fun t ht hT => n t (q ▸ ht) (.inr hT)).trans q
theorem Mv.all (x : Mv T o o' h h') : Mv (fun _ => True) o o' h h' := x.mono fun _ _ => trivial
theorem Mv.seq (x : Mv (fun _ => True) o o' h h') (y : Mv T' o' o'' h' h'') : Mv (fun _ => True) o o'' h h'' := (x.trans y).all
theorem Mv.keeps (k : Keeps h h') : Mv T o o h h' := ⟨fun c x e _ => k c x e, fun _ _ _ => rfl, fun _ e => k.fresh e⟩
/-- Blocks of one set, which bear tags of 'T', are written. -/
theorem Mv.of {F : Nat → Prop} (k : But F h h') (d : ∀ c, h' c = none → h c = none) (hb : ∀ c, F c → h c ≠ none → ∃ t, o c = some t ∧ T t) : Mv T o o h h' :=
  ⟨fun c x e n => k c x e fun q => by
    obtain ⟨t, ht, hT⟩ := hb c q (by rw [e]; simp)
    exact n t ht hT, fun _ _ _ => rfl, d⟩
theorem Mv.but (x : Mv T o o' h h') : But (fun c => ∃ t, o c = some t ∧ T t) h h' := fun c y e n => x.mem c y e fun t ht hT => n ⟨t, ht, hT⟩
/-- A slice's block bears a tag, or none. -/
def tagd (o : Nat → Option τ) (s : Sl) (t : Option τ) : Nat → Option τ := fun c => match s.a with
  | none => o c
  | some a => if a.block = c then t else o c
theorem tagd_in {s : Sl} {t : Option τ} {c : Nat} (f : s.foot c) : tagd o s t c = t := by
  obtain ⟨a, ha, e⟩ := f
  unfold tagd; rw [ha]; simp only; rw [if_pos e]
theorem tagd_out {s : Sl} {t : Option τ} {c : Nat} (f : ¬ s.foot c) : tagd o s t c = o c := by
  unfold tagd
  split
  · rfl
  · rename_i a ha
    rw [if_neg fun e => f ⟨a, ha, e⟩]
theorem Mv.tag (x : Mv T o o' h h') {s : Sl} {t : Option τ} (f : ∀ c, s.foot c → h c = none ∨ o c = t) : Mv T o (tagd o' s t) h h' := by
  refine ⟨x.mem, fun c e n => ?_, x.dom⟩
  by_cases q : s.foot c
  · rw [tagd_in q]; exact ((f c q).resolve_left e).symm
  · rw [tagd_out q]; exact x.own c e n
/-- One block bears a tag. -/
def tag1 (o : Nat → Option τ) (b : Nat) (t : Option τ) : Nat → Option τ := fun c => if c = b then t else o c
theorem tag1_in {b : Nat} {t : Option τ} : tag1 o b t b = t := if_pos rfl
theorem tag1_out {b c : Nat} {t : Option τ} (e : c ≠ b) : tag1 o b t c = o c := if_neg e
theorem Mv.tag1 (x : Mv T o o' h h') {b : Nat} {t : Option τ} (f : h b = none) : Mv T o (K.tag1 o' b t) h h' := ⟨x.mem, fun c e n => by
  have hne : c ≠ b := fun q => e (by rw [q]; exact f)
  rw [tag1_out hne]; exact x.own c e n, x.dom⟩
theorem Mv.here (m : Mv T o o' h h') {c : Nat} {t : τ} (ob : o c = some t) (nt : ¬ T t) (e : h c ≠ none) : o' c = some t :=
  (m.own c e fun t' z hT => by rw [ob] at z; cases z; exact nt hT).trans ob
theorem Mv.cell (m : Mv T o o' h h') {c : Nat} {t : τ} {x : Obj} (ob : o c = some t) (nt : ¬ T t) (e : h c = some x) : h' c = some x :=
  m.mem c x e fun t' z hT => by rw [ob] at z; cases z; exact nt hT
theorem Mv.map {K V : Type} {kc : K → Value} {vc : V → Value} {b : Nat} {l : List (K × V)} {t : τ} (m : Mv T o o' h h') (nt : ¬ T t) (x : MapOf kc vc h b l) (ob : o b = some t) : MapOf kc vc h' b l :=
  x.but m.but fun ⟨t', e, hT⟩ => by rw [ob] at e; cases e; exact nt hT
theorem Mv.buf {V : Type} {cells : V → List Value} {sz : Nat} {e : TypeId} {s : Sl} {xs : List V} (m : Mv T o o' h h') (x : Buf cells sz e h s xs) (f : ∀ c, s.foot c → ∀ t, o c = some t → ¬ T t) : Buf cells sz e h' s xs :=
  x.but m.but fun a ha ⟨t, e, hT⟩ => f _ ⟨a, ha, rfl⟩ t e hT
/-- What bears no tag stays, from the beginning on. -/
theorem Mv.out {h0 h1 : H} (k : Keeps h0 h1) (f : ∀ c t, o c = some t → h0 c = none) (mv : Mv (fun _ => True) o o' h1 h') : Keeps h0 h' := fun c z e =>
  mv.mem c z (k c z e) fun t ht => by rw [f c t ht] at e; cases e
theorem Mv.none (m : Mv T o o' h h') {c : Nat} (ob : o c = .none) (e : h c ≠ .none) : o' c = .none := (m.own c e fun t z => by rw [ob] at z; cases z).trans ob
theorem Mv.kept (m : Mv T o o' h h') {c : Nat} {x : Obj} (ob : o c = .none) (e : h c = some x) : h' c = some x := m.mem c x e fun t z => by rw [ob] at z; cases z
end
end Go.Proofs.Ytiajjcboddaenaa.K
namespace Go.Proofs.Ytiajjcboddaenaa.K
open Go
/-- A block of cells of a type. -/
def Typed (h : H) (e : TypeId) (c : Nat) : Prop := ∃ cs fz, h c = some (.cells cs e fz)
theorem Typed.ne {h : H} {e e' : TypeId} {c d : Nat} (x : Typed h e c) (y : Typed h e' d) (n : e ≠ e') : c ≠ d := fun q => by
  subst q
  obtain ⟨_, _, a⟩ := x
  obtain ⟨_, _, b⟩ := y
  rw [a] at b; cases b; exact n rfl
theorem Typed.of {h : H} {e : TypeId} {c : Nat} {cs : Array Value} {fz : Nat × Nat} (x : h c = some (.cells cs e fz)) : Typed h e c := ⟨_, _, x⟩
theorem Typed.has {h : H} {e : TypeId} {c : Nat} (x : Typed h e c) : h c ≠ none := by
  obtain ⟨_, _, a⟩ := x; rw [a]; simp
theorem Buf.typed {V : Type} {h : H} {cells : V → List Value} {sz : Nat} {e : TypeId} {s : Sl} {xs : List V} (x : Buf cells sz e h s xs) {c : Nat} (f : s.foot c) : Typed h e c := by
  obtain ⟨a, ha, rfl⟩ := f
  rcases x.at_ with ⟨q, _⟩ | ⟨b, z, fz, q, hb, _⟩
  · rw [q] at ha; cases ha
  · rw [q] at ha; cases ha; exact ⟨_, _, hb⟩
theorem MapOf.untyped {K V : Type} {kc : K → Value} {vc : V → Value} {h : H} {b : Nat} {l : List (K × V)} (x : MapOf kc vc h b l) {e : TypeId} {c : Nat} (y : Typed h e c) : c ≠ b := fun q => by
  subst q
  obtain ⟨_, _, a, _⟩ := x.ex
  obtain ⟨_, _, b⟩ := y
  rw [a] at b; cases b
/-- A part of a slice. -/
theorem w_mid {T : Type} {cells : T → List Value} {sz : Nat} (hs : ∀ x, (cells x).length = sz) {h : H} {s : Sl} {xs : List T} (x : Arr cells h s xs) {lo hi : Nat} (h1 : lo ≤ hi) (h2 : hi ≤ xs.length) {i j : Int} (ei : i = lo) (ej : j = hi) {k : Sl → H → Prop}
    (y : ∀ s', Arr cells h s' ((xs.drop lo).take (hi - lo)) → (∀ b, s'.foot b → s.foot b) → s'.len = hi - lo → s'.cap = s.cap - lo → k s' h) : mCut s i j sz k h := by
  have hl := x.len
  have hc := x.cap
  refine w_cut ei ej h1 (by omega) (y _ ⟨?_, ?_, fun hne => ?_⟩ (fun b ⟨a, ha, e⟩ => ?_) rfl rfl)
  · show hi - lo = _; rw [List.length_take, List.length_drop]; omega
  · show hi - lo ≤ s.cap - lo; omega
  · have hlt : lo < hi := by
      rcases Nat.lt_or_ge lo hi with q | q
      · exact q
      · exact absurd (by rw [show hi - lo = 0 by omega, List.take_zero]) hne
    obtain ⟨a, ha, q⟩ := x.at_ (fun e => by rw [e] at h2; simp at h2; omega)
    refine ⟨a.add (lo * sz), ?_, ?_⟩
    · show (if s.cap = lo then s.a else s.a.map (·.add (lo * sz))) = _
      rw [if_neg (by omega), ha]; rfl
    · have e : xs = xs.take lo ++ (xs.drop lo).take (hi - lo) ++ (xs.drop lo).drop (hi - lo) := by rw [List.append_assoc, List.take_append_drop, List.take_append_drop]
      rw [e, flat_append, flat_append] at q
      exact q.sub (by rw [flat_len hs, List.length_take, Nat.min_eq_left (by omega)])
  · have ha : (if s.cap = lo then s.a else s.a.map (·.add (lo * sz))) = some a := ha
    split at ha
    · exact ⟨a, ha, e⟩
    · cases hsa : s.a with
      | none => rw [hsa] at ha; cases ha
      | some a0 => rw [hsa] at ha; cases ha; exact ⟨a0, hsa, by rw [← e, add_block]⟩
/-- copy into a place that all of it fits. -/
theorem w_copy {T : Type} {cells : T → List Value} {sz : Nat} (hs : ∀ x, (cells x).length = sz) (hp : ∀ x, (cells x).all plainVal = true) {h : H} {d s : Sl} {xs : List T} (x : Arr cells h s xs) (fit : xs.length ≤ d.len) {k : Int → H → Prop}
    (y0 : xs = [] → k 0 h) (y : xs ≠ [] → ∃ a, d.a = some a ∧ mStore a (flat cells xs) (k xs.length) h) : mCopy sz d s k h := by
  have hl := x.len
  have hm : Nat.min s.len d.len = xs.length := by rw [hl]; exact Nat.min_eq_left fit
  refine ⟨flat cells xs, x.row, fun _ => by rw [flat_len hs, hm], ?_, ?_⟩
  · rw [List.all_eq_true]
    intro v hv
    obtain ⟨t, _, hv⟩ := List.mem_flatMap.1 hv
    exact List.all_eq_true.1 (hp t) v hv
  · by_cases e : xs = []
    · subst e
      rw [hm]
      split
      · exact y0 rfl
      · exact .inl ⟨rfl, y0 rfl⟩
    · obtain ⟨a, ha, st⟩ := y e
      rw [ha, hm]
      exact .inr st
end Go.Proofs.Ytiajjcboddaenaa.K
namespace Go.Proofs.Ytiajjcboddaenaa.K
open Go
/-- A slice that is full, or that is a whole block's. -/
structure Can {T : Type} (cells : T → List Value) (sz : Nat) (e : TypeId) (h : H) (s : Sl) (xs : List T) : Prop where
  arr : Arr cells h s xs
  typed : ∀ c, s.foot c → Typed h e c
  buf : s.cap = s.len ∨ Buf cells sz e h s xs
section
variable {T : Type} {cells : T → List Value} {sz by_ : Nat} {e : TypeId} {h : H} {s : Sl} {xs : List T}
theorem Buf.can (x : Buf cells sz e h s xs) : Can cells sz e h s xs := ⟨x.arr, fun _ f => x.typed f, .inr x⟩
theorem Can.nil : Can cells sz e h Sl.nil ([] : List T) := Buf.nil.can
theorem Typed.keep {h' : H} {c : Nat} (x : Typed h e c) (k : Keeps h h') : Typed h' e c := by
  obtain ⟨a, b, q⟩ := x; exact ⟨a, b, k _ _ q⟩
theorem Typed.but {h' : H} {F : Nat → Prop} {c : Nat} (x : Typed h e c) (k : But F h h') (f : ¬ F c) : Typed h' e c := by
  obtain ⟨a, b, q⟩ := x; exact ⟨a, b, k _ _ q f⟩
theorem Can.keep {h' : H} (x : Can cells sz e h s xs) (k : Keeps h h') : Can cells sz e h' s xs := ⟨x.arr.keep k, fun c f => (x.typed c f).keep k, x.buf.imp id fun b => b.keep k⟩
theorem Can.but {h' : H} {F : Nat → Prop} (x : Can cells sz e h s xs) (k : But F h h') (f : ∀ c, s.foot c → ¬ F c) : Can cells sz e h' s xs :=
  ⟨x.arr.but k fun _ a ha => f _ ⟨a, ha, rfl⟩, fun c fc => (x.typed c fc).but k (f c fc), x.buf.imp id fun b => b.but k fun a ha => f _ ⟨a, ha, rfl⟩⟩
theorem w_appC (hs : ∀ x, (cells x).length = sz) {zero : Array Value} (hz : zero.size = sz) {m : Nat} {new : List Value} (x : Can cells sz e h s xs) (ys : List T) (hnew : new = flat cells ys) (hm : m = ys.length)
    (room : (2 * (xs.length + ys.length) + 192) * by_ ≤ 2 ^ 48) {k : Sl → H → Prop}
    (y : ∀ s' h', Can cells sz e h' s' (xs ++ ys) → But s.foot h h' → (∀ b, s'.foot b → s.foot b ∨ h b = none) → (∀ b, h' b = none → h b = none) → k s' h') : mApp e sz by_ zero m new s k h := by
  rcases x.buf with full | bu
  · subst hm; subst hnew
    have hlen := x.arr.len
    refine ⟨fun hle => ?_, fun hgt => ?_⟩
    · have hy : ys = [] := List.length_eq_zero_iff.1 (by omega)
      subst hy
      have same : Can cells sz e h (⟨s.a, s.len + 0, s.cap⟩ : Sl) (xs ++ []) := by rw [List.append_nil]; exact x
      have fin : k ⟨s.a, s.len + 0, s.cap⟩ h := y _ h same (.refl _ _) (fun b f => .inl f) fun _ q => q
      show match s.a with
        | none => _
        | some a => _
      revert fin
      cases s.a with
      | none => exact fun fin => ⟨rfl, fin⟩
      | some a => exact fun fin => .inl ⟨rfl, fin⟩
    · refine ⟨flat cells xs, x.arr.row, fun _ => by rw [flat_len hs, hlen], ?_, fun b cap hb hcap => ?_⟩
      · unfold Room
        exact Nat.le_trans (Nat.mul_le_mul_right _ (next_le (by omega))) (by rw [hlen]; exact room)
      · have bu : Buf cells sz e (upd h b (.cells ((flat cells xs).toArray ++ (flat cells ys).toArray ++ Builtin.zeroCells zero (cap - (s.len + ys.length))) e (0, 0))) ⟨some ⟨b, 0, none⟩, s.len + ys.length, cap⟩ (xs ++ ys) := by
          refine ⟨by rw [List.length_append]; show s.len + ys.length = _; omega, hcap, .inr ⟨b, (Builtin.zeroCells zero (cap - (s.len + ys.length))).toList, (0, 0), rfl, ?_, ?_, thawed0 _⟩⟩
          · rw [upd_same, flat_append]; congr 2; simp
          · rw [List.length_append, flat_len hs, show (Builtin.zeroCells zero (cap - (s.len + ys.length))).toList.length = (Builtin.zeroCells zero (cap - (s.len + ys.length))).size from Array.length_toList, zero_len, hz, List.length_append, hlen, ← Nat.add_mul]
            show _ = cap * sz
            congr 1; omega
        refine y _ _ bu.can (But.of (.new hb)) (fun c hc => ?_) fun c hc => (upd_none.1 hc).2
        obtain ⟨a, q, rfl⟩ := hc
        cases q
        exact .inr hb
  · exact w_app hs hz bu ys hnew hm (.inl room) fun s' h' b' => y s' h' b'.can
theorem w_appendC (hs : ∀ x, (cells x).length = sz) (hp : ∀ x, (cells x).all plainVal = true) {zero : Array Value} (hz : zero.size = sz) {x' : Sl} {ys : List T} (x : Can cells sz e h s xs) (hx : Arr cells h x' ys)
    (room : (2 * (xs.length + ys.length) + 192) * by_ ≤ 2 ^ 48) {k : Sl → H → Prop}
    (y : ∀ s' h', Can cells sz e h' s' (xs ++ ys) → But s.foot h h' → (∀ b, s'.foot b → s.foot b ∨ h b = none) → (∀ b, h' b = none → h b = none) → k s' h') : mAppend e sz by_ zero s x' k h := by
  refine ⟨flat cells ys, hx.row, fun _ => by rw [flat_len hs, hx.len], ?_, w_appC hs hz x ys rfl hx.len room y⟩
  rw [List.all_eq_true]
  intro v hv
  obtain ⟨t, _, hv⟩ := List.mem_flatMap.1 hv
  exact List.all_eq_true.1 (hp t) v hv
/-- s[:n:n] -/
theorem w_front {size : Nat} (x : Can cells sz e h s xs) {n : Nat} (hn : n ≤ xs.length) {i j k' : Int} (hi : i = 0) (hj : j = n) (hk : k' = n) {k : Sl → H → Prop}
    (y : ∀ s', Can cells sz e h s' (xs.take n) → (∀ b, s'.foot b → s.foot b) → k s' h) : mCut3 s i j k' size k h := by
  subst hi; subst hj; subst hk
  have hl := x.arr.len
  have hc := x.arr.cap
  refine ⟨_, ⟨Int.le_refl _, by omega, Int.le_refl _, by omega, rfl⟩, y _ ?_ ?_⟩
  · have ha : (if ((n : Int)).toNat = (0 : Int).toNat then s.a else s.a.map (·.add ((0 : Int).toNat * size))) = s.a := by
      split
      · rfl
      · cases s.a <;> simp [add_zero]
    rw [ha]
    refine ⟨⟨?_, Nat.le_refl _, fun hne => ?_⟩, fun c f => x.typed c f, .inl rfl⟩
    · rw [List.length_take]; show (n : Int).toNat - (0 : Int).toNat = _; omega
    · obtain ⟨a, ha, q⟩ := x.arr.at_ (fun e => hne (by rw [e]; exact List.take_nil))
      refine ⟨a, ha, ?_⟩
      rw [← List.take_append_drop n xs, flat_append] at q
      exact q.head
  · intro b ⟨a, ha, e⟩
    have ha : (if ((n : Int)).toNat = (0 : Int).toNat then s.a else s.a.map (·.add ((0 : Int).toNat * size))) = some a := ha
    split at ha
    · exact ⟨a, ha, e⟩
    · cases hsa : s.a with
      | none => rw [hsa] at ha; cases ha
      | some a0 => rw [hsa] at ha; cases ha; exact ⟨a0, hsa, by rw [← e, add_block]⟩
end
end Go.Proofs.Ytiajjcboddaenaa.K
