/- The cache of rights: whatever it says, the catalogue says. -/
import Derived.Test.YtiajjcboddaenaaCa10
import Derived.Test.YtiajjcboddaenaaFcache
namespace Go.Proofs.Ytiajjcboddaenaa.K
open Go
abbrev cPc := S_cache_place.cells
theorem cp_len : ∀ x, (cPc x).length = 7 := fun _ => rfl
def pc0 : S_cache_place := ⟨false, ⟨0, ⟨0, 0⟩⟩, 0, 0, 0⟩
def kCells (sets ways knob : Int) (PL : List S_cache_place) (ep age hits miss : Int) : List Value := [.int .i64 sets, .int .i64 ways, .int .i64 knob] ++ flat cPc PL ++ [.int .i64 ep, .int .i64 age, .int .i64 hits, .int .i64 miss]
structure KAt (h : H) (p : Nat) (sets ways knob : Int) (PL : List S_cache_place) (ep age hits miss : Int) : Prop where
  cell : h p = some (.cells (kCells sets ways knob PL ep age hits miss).toArray N_cache_Cache (0, 0))
  len : PL.length = 64
  rng : 0 ≤ sets ∧ sets ≤ 16 ∧ 1 ≤ ways ∧ ways ≤ 4 ∧ 0 ≤ ep ∧ ep ≤ 255
def KOk (es : List En) (PL : List S_cache_place) (ep : Int) : Prop := ∀ q ∈ PL, q.xput = true → q.xepoch ≤ ep ∧ (q.xepoch = ep → ∃ (n : Nat) (t : S_api_Token) (ks : List Int), Has es n t ks ∧ t.Cap = q.xcap ∧ t.Rights = q.xrights)
/-- A cache that knows nothing that the entries do not say. -/
structure Cache (h : H) (p : Nat) (es : List En) : Prop where
  ex : ∃ sets ways knob PL ep age hits miss, KAt h p sets ways knob PL ep age hits miss ∧ KOk es PL ep
theorem Cache.keep {h h' : H} {p : Nat} {es : List En} (x : Cache h p es) (k : Keeps h h') : Cache h' p es := by
  obtain ⟨a, b, c, d, e, f, g, i, x, o⟩ := x.ex
  exact ⟨a, b, c, d, e, f, g, i, ⟨k _ _ x.cell, x.len, x.rng⟩, o⟩
theorem Cache.but {h h' : H} {E : Nat → Prop} {p : Nat} {es : List En} (x : Cache h p es) (k : But E h h') (f : ¬ E p) : Cache h' p es := by
  obtain ⟨a, b, c, d, e, f', g, i, x, o⟩ := x.ex
  exact ⟨a, b, c, d, e, f', g, i, ⟨k _ _ x.cell f, x.len, x.rng⟩, o⟩
theorem Cache.has {h : H} {p : Nat} {es : List En} (x : Cache h p es) : h p ≠ none := by
  obtain ⟨a, b, c, d, e, f', g, i, x, o⟩ := x.ex
  rw [x.cell]; exact fun z => by cases z
theorem Cache.more {h : H} {p : Nat} {es es' : List En} (x : Cache h p es) (m : ∀ n t ks, Has es n t ks → ∃ ks', Has es' n t ks') : Cache h p es' := by
  obtain ⟨a, b, c, d, e, f', g, i, x, o⟩ := x.ex
  refine ⟨a, b, c, d, e, f', g, i, x, fun q hq hp => ⟨(o q hq hp).1, fun he => ?_⟩⟩
  obtain ⟨n, t, ks, hh, r⟩ := (o q hq hp).2 he
  obtain ⟨ks', hh'⟩ := m n t ks hh
  exact ⟨n, t, ks', hh', r⟩
section
variable {h : H} {p : Nat} {sets ways knob : Int} {PL : List S_cache_place} {ep age hits miss : Int}
theorem KAt.f (x : KAt h p sets ways knob PL ep age hits miss) {n : Nat} {l1 l2 l3 : List Value} (e : kCells sets ways knob PL ep age hits miss = l1 ++ l2 ++ l3) (hn : l1.length = n) : At h ((⟨p, 0, none⟩ : Addr).add n) l2 := by
  rw [pt_add]
  exact At.own (t := N_cache_Cache) (by rw [← e]; exact x.cell) hn
theorem KAt.fl (x : KAt h p sets ways knob PL ep age hits miss) : (flat cPc PL).length = 448 := by rw [flat_len cp_len, x.len]
theorem KAt.f0 (x : KAt h p sets ways knob PL ep age hits miss) : At h ((⟨p, 0, none⟩ : Addr).add 0) (cInt .i64 sets) := x.f (l1 := []) (l2 := [.int .i64 sets]) (l3 := [.int .i64 ways, .int .i64 knob] ++ flat cPc PL ++ [.int .i64 ep, .int .i64 age, .int .i64 hits, .int .i64 miss]) rfl rfl
theorem KAt.f1 (x : KAt h p sets ways knob PL ep age hits miss) : At h ((⟨p, 0, none⟩ : Addr).add 1) (cInt .i64 ways) := x.f (l1 := [.int .i64 sets]) (l2 := [.int .i64 ways]) (l3 := [.int .i64 knob] ++ flat cPc PL ++ [.int .i64 ep, .int .i64 age, .int .i64 hits, .int .i64 miss]) rfl rfl
theorem KAt.f2 (x : KAt h p sets ways knob PL ep age hits miss) : At h ((⟨p, 0, none⟩ : Addr).add 2) (cInt .i64 knob) := x.f (l1 := [.int .i64 sets, .int .i64 ways]) (l2 := [.int .i64 knob]) (l3 := flat cPc PL ++ [.int .i64 ep, .int .i64 age, .int .i64 hits, .int .i64 miss]) rfl rfl
theorem KAt.l (x : KAt h p sets ways knob PL ep age hits miss) (a b c : Value) : ([a, b, c] ++ flat cPc PL).length = 451 := by rw [List.length_append, x.fl]; rfl
theorem KAt.f451 (x : KAt h p sets ways knob PL ep age hits miss) : At h ((⟨p, 0, none⟩ : Addr).add 451) (cInt .i64 ep) := x.f (l1 := [.int .i64 sets, .int .i64 ways, .int .i64 knob] ++ flat cPc PL) (l2 := [.int .i64 ep]) (l3 := [.int .i64 age, .int .i64 hits, .int .i64 miss]) (by simp [kCells]) (x.l _ _ _)
theorem KAt.f452 (x : KAt h p sets ways knob PL ep age hits miss) : At h ((⟨p, 0, none⟩ : Addr).add 452) (cInt .i64 age) := x.f (l1 := [.int .i64 sets, .int .i64 ways, .int .i64 knob] ++ flat cPc PL ++ [.int .i64 ep]) (l2 := [.int .i64 age]) (l3 := [.int .i64 hits, .int .i64 miss]) (by simp [kCells]) (by rw [List.length_append, x.l]; rfl)
theorem KAt.f453 (x : KAt h p sets ways knob PL ep age hits miss) : At h ((⟨p, 0, none⟩ : Addr).add 453) (cInt .i64 hits) := x.f (l1 := [.int .i64 sets, .int .i64 ways, .int .i64 knob] ++ flat cPc PL ++ [.int .i64 ep, .int .i64 age]) (l2 := [.int .i64 hits]) (l3 := [.int .i64 miss]) (by simp [kCells]) (by rw [List.length_append, x.l]; rfl)
theorem KAt.f454 (x : KAt h p sets ways knob PL ep age hits miss) : At h ((⟨p, 0, none⟩ : Addr).add 454) (cInt .i64 miss) := x.f (l1 := [.int .i64 sets, .int .i64 ways, .int .i64 knob] ++ flat cPc PL ++ [.int .i64 ep, .int .i64 age, .int .i64 hits]) (l2 := [.int .i64 miss]) (l3 := []) (by simp [kCells]) (by rw [List.length_append, x.l]; rfl)
/-- A number at the end is written. -/
theorem KAt.store (x : KAt h p sets ways knob PL ep age hits miss) {n : Nat} {l1 l2 l3 new : List Value} {PL' : List S_cache_place} {ep' age' hits' miss' : Int} (e : kCells sets ways knob PL ep age hits miss = l1 ++ l2 ++ l3) (e' : kCells sets ways knob PL' ep' age' hits' miss' = l1 ++ new ++ l3) (hn : l1.length = n) (hl : new.length = l2.length) (hP : PL'.length = 64) (hr : 0 ≤ ep' ∧ ep' ≤ 255) {a : Addr} (ha : a = ⟨p, n, none⟩) {k : H → Prop}
    (y : ∀ h', KAt h' p sets ways knob PL' ep' age' hits' miss' → But (· = p) h h' → (∀ c, h' c = none → h c = none) → k h') : mStore a new k h := by
  obtain ⟨r1, r2, r3, r4, _, _⟩ := x.rng
  refine w_store (b := p) (i := n) (l1 := l1) (l2 := l2) (l3 := l3) (t := N_cache_Cache) ha (by rw [← e]; exact x.cell) hn hl ?_
  exact y _ ⟨by rw [e']; exact upd_same _ _ _, hP, r1, r2, r3, r4, hr.1, hr.2⟩ (.upd rfl) fun c q => (upd_none.1 q).2
def plS (st : S_cache_set) : List S_cache_place := [st.xe0, st.xe1, st.xe2, st.xe3]
theorem set_cells (st : S_cache_set) : S_cache_set.cells st = flat cPc (plS st) := rfl
theorem four (hl : PL.length = 64) {r : Nat} (hr : r < 16) : ∃ st : S_cache_set, PL = PL.take (4 * r) ++ plS st ++ PL.drop (4 * r + 4) := by
  have g : ∀ i, 4 * r + i < 64 → ∃ q, PL[4 * r + i]? = some q := fun i hi => ⟨_, List.getElem?_eq_getElem (by omega)⟩
  obtain ⟨q0, h0⟩ := g 0 (by omega)
  obtain ⟨q1, h1⟩ := g 1 (by omega)
  obtain ⟨q2, h2⟩ := g 2 (by omega)
  obtain ⟨q3, h3⟩ := g 3 (by omega)
  refine ⟨⟨q0, q1, q2, q3⟩, ?_⟩
  have s0 := split_at h0
  have d : ∀ {i q}, PL[i]? = some q → PL.drop i = q :: PL.drop (i + 1) := fun {i q} e => by
    obtain ⟨hi, e⟩ := List.getElem?_eq_some_iff.1 e
    rw [List.drop_eq_getElem_cons hi, e]
  have e1 : PL.drop (4 * r) = [q0, q1, q2, q3] ++ PL.drop (4 * r + 4) := by
    rw [d (i := 4 * r) h0, d h1, d h2, d h3]; rfl
  have := List.take_append_drop (4 * r) PL
  rw [e1] at this
  rw [List.append_assoc]
  exact this.symm
theorem sub_mem {st : S_cache_set} {r : Nat} (e : PL = PL.take (4 * r) ++ plS st ++ PL.drop (4 * r + 4)) {q : S_cache_place} (hq : q ∈ plS st) : q ∈ PL := by
  rw [e]; exact List.mem_append_left _ (List.mem_append_right _ hq)
theorem KAt.set (x : KAt h p sets ways knob PL ep age hits miss) {r : Nat} {st : S_cache_set} (hr : r < 16) (e : PL = PL.take (4 * r) ++ plS st ++ PL.drop (4 * r + 4)) : At h ⟨p, 3 + r * 28, none⟩ (S_cache_set.cells st) := by
  have hl : (flat cPc (PL.take (4 * r))).length = 28 * r := by rw [flat_len cp_len, List.length_take, x.len, Nat.min_eq_left (by omega)]; omega
  refine At.own (t := N_cache_Cache) (fz := (0, 0)) (l1 := [.int .i64 sets, .int .i64 ways, .int .i64 knob] ++ flat cPc (PL.take (4 * r))) (l3 := flat cPc (PL.drop (4 * r + 4)) ++ [.int .i64 ep, .int .i64 age, .int .i64 hits, .int .i64 miss]) ?_ (by rw [List.length_append, hl]; simp; omega)
  have e2 : kCells sets ways knob PL ep age hits miss = [.int .i64 sets, .int .i64 ways, .int .i64 knob] ++ flat cPc (PL.take (4 * r)) ++ S_cache_set.cells st ++ (flat cPc (PL.drop (4 * r + 4)) ++ [.int .i64 ep, .int .i64 age, .int .i64 hits, .int .i64 miss]) := by
    rw [set_cells]
    unfold kCells
    conv => lhs; rw [e]
    simp only [flat_append, List.append_assoc]
  rw [← e2]; exact x.cell
theorem idx_set {p : Nat} {r : Nat} (hr : r < 16) {k : Addr → H → Prop} (y : k ⟨p, 3 + r * 28, none⟩ h) : mIdx (⟨some ((⟨p, 0, none⟩ : Addr).add 3), 16, 16⟩ : Sl) (r : Int) 28 k h := by
  refine ⟨_, ⟨_, rfl, by omega, by show (r : Int) < ((16 : Nat) : Int); omega, rfl⟩, ?_⟩
  rw [pt_add, addr_add, Int.toNat_natCast]; exact y
theorem t_kof (x : KAt h p sets ways knob PL ep age hits miss) (h0 : sets ≠ 0) {c : S_api_Cap} {K : Int → H → Prop} (y : ∀ r : Nat, r < 16 → K (r : Int) h) : m_cache_Cache_of (some ⟨p, 0, none⟩) c K h := by
  unfold m_cache_Cache_of
  obtain ⟨r1, r2, _⟩ := x.rng
  obtain ⟨s, rfl⟩ : ∃ s : Nat, sets = s := ⟨sets.toNat, by omega⟩
  have ew : IntKind.wrap .u64 (s : Int) = (s : Int) := u_wrap (by omega)
  obtain ⟨n, hn, hlt⟩ := hash_nat c.Obj c.Pass knob
  refine w_deref (w_deref (w_load x.f2 (w_hash (w_load x.f0 ⟨by rw [ew]; omega, ?_⟩))))
  rw [ew, hn]
  have e : iRem .u64 (n : Int) (s : Int) = ((n % s : Nat) : Int) := rfl
  have hm : n % s < s := Nat.mod_lt _ (by omega)
  rw [e, i64_eq (by omega) (by omega)]
  exact y _ (by omega)
theorem t_kknown (x : KAt h p sets ways knob PL ep age hits miss) {q : S_cache_place} {K : Bool → H → Prop} (y : K (q.xput && decide (q.xepoch = ep)) h) : m_cache_Cache_known (some ⟨p, 0, none⟩) q K h := by
  unfold m_cache_Cache_known
  refine w_if (fun e => w_deref (w_load x.f451 ?_)) fun e => ?_
  · rw [e, Bool.true_and] at y; exact y
  · rw [e] at y; exact y
theorem KAt.keep {h' : H} (x : KAt h p sets ways knob PL ep age hits miss) (k : Keeps h h') : KAt h' p sets ways knob PL ep age hits miss := ⟨k _ _ x.cell, x.len, x.rng⟩
theorem set_arr {b : Nat} {st : S_cache_set} {t : TypeId} (c : h b = some (.cells (S_cache_set.cells st).toArray t (0, 0))) : Arr cPc h ⟨some ⟨b, 0, none⟩, 4, 4⟩ (plS st) := ⟨rfl, Nat.le_refl _, fun _ => ⟨_, rfl, at_box c⟩⟩
theorem t_kfind (x : KAt h p sets ways knob PL ep age hits miss) {st : S_cache_set} {c : S_api_Cap} {K : Int × Bool → H → Prop} (hit : ∀ (i : Nat) q, (plS st)[i]? = some q → q.xput = true → q.xepoch = ep → q.xcap = c → ∀ h', Keeps h h' → K ((i : Int), true) h') (no : ∀ h', Keeps h h' → K (0, false) h') : m_cache_Cache_find (some ⟨p, 0, none⟩) st c K h := by
  unfold m_cache_Cache_find
  obtain ⟨_, _, w1, w2, _⟩ := x.rng
  refine w_box fun b h1 f1 c1 k1 => w_deref (w_load (x.keep k1).f1 ?_)
  have ar : Arr cPc h1 ⟨some ⟨b, 0, none⟩, 4, 4⟩ (plS st) := set_arr c1
  refine w_for 4 (fun i (z : Int) h' => z = (i : Int) ∧ h1 = h' ∧ (i : Int) ≤ ways) ?_ ⟨rfl, rfl, by omega⟩
  rintro rec i z h' hi ⟨rfl, rfl, hw⟩ more
  refine w_if' (fun q => ?_) fun q => no _ k1
  have q : (i : Int) < ways := q
  have hil : i < (plS st).length := by show i < 4; omega
  have hz := List.getElem?_eq_getElem hil
  generalize (plS st)[i] = pl at hz
  refine w_get cp_len ar hz rfl (v' := pl) rfl (t_kknown (x.keep k1) ?_)
  refine w_joinV ((pl.xput && decide (pl.xepoch = ep)) && decide (pl.xcap = c)) (fun j hj => ?_) ?_
  · refine w_if (fun e => ?_) fun e => ?_
    · refine w_field cp_len ar hz rfl (v' := pl.xcap) (cells' := S_api_Cap.cells) (l1 := (cPc pl).take 1) (l3 := (cPc pl).drop 4) rfl rfl ?_
      rw [cap_eqB]
      rw [e, Bool.true_and] at hj; exact hj
    · rw [e, Bool.false_and] at hj; exact hj
  · refine w_if (fun e => ?_) fun e => ?_
    · rw [Bool.and_eq_true, Bool.and_eq_true, decide_eq_true_eq, decide_eq_true_eq] at e
      exact hit i pl hz e.1.1 e.1.2 e.2 _ k1
    · exact more _ _ (by omega) ⟨ia1 i (by omega), rfl, by omega⟩
theorem t_kroom (x : KAt h p sets ways knob PL ep age hits miss) {st : S_cache_set} {K : Int → H → Prop} (y : ∀ (i : Nat) h', i < 4 → Keeps h h' → K (i : Int) h') : m_cache_Cache_room (some ⟨p, 0, none⟩) st K h := by
  unfold m_cache_Cache_room
  obtain ⟨_, _, w1, w2, _⟩ := x.rng
  refine w_box fun b h1 f1 c1 k1 => w_deref (w_load (x.keep k1).f1 ?_)
  have ar : Arr cPc h1 ⟨some ⟨b, 0, none⟩, 4, 4⟩ (plS st) := set_arr c1
  refine w_for 4 (fun i (z : Int × Int) h' => h1 = h' ∧ z.2 = (i : Int) ∧ (i : Int) ≤ ways ∧ ∃ m : Nat, z.1 = m ∧ m < 4) ?_ ⟨rfl, rfl, by omega, 0, rfl, by omega⟩
  rintro rec i ⟨z, iz⟩ h' hi ⟨rfl, ei, hw, m, em, hm⟩ more
  have ei : iz = (i : Int) := ei
  have em : z = (m : Int) := em
  subst ei; subst em
  refine w_if' (fun q => ?_) fun q => y m _ hm k1
  have q : (i : Int) < ways := q
  have hil : i < (plS st).length := by show i < 4; omega
  have hml : m < (plS st).length := hm
  have hz := List.getElem?_eq_getElem hil
  have hzm := List.getElem?_eq_getElem hml
  refine w_get cp_len ar hz rfl (v' := (plS st)[i]) rfl (t_kknown (x.keep k1) (w_if (fun _ => y i _ (by omega) k1) fun _ => ?_))
  refine w_idx cp_len ar hz rfl fun ad _ had => w_idx cp_len ar hzm rfl fun ad' _ had' => w_load (v := (plS st)[i].xage) (cells := cInt .i64) (At.sub (l1 := (cPc (plS st)[i]).take 6) (l3 := []) (by rw [List.append_nil]; exact had) rfl) (w_load (v := (plS st)[m].xage) (cells := cInt .i64) (At.sub (l1 := (cPc (plS st)[m]).take 6) (l3 := []) (by rw [List.append_nil]; exact had') rfl) (w_if (fun _ => ?_) fun _ => ?_))
  · exact more _ _ (by omega) ⟨rfl, ia1 i (by omega), by omega, i, rfl, by omega⟩
  · exact more _ _ (by omega) ⟨rfl, ia1 i (by omega), by omega, m, rfl, hm⟩
end
section
variable {h : H} {p : Nat} {es : List En}
theorem t_KcNew {a0 a1 a2 : Int} {K : Option Addr × Int → H → Prop} (bad : (a0 < 0 ∨ 16 < a0 ∨ a1 < 1 ∨ 4 < a1 ∨ a2 < 0 ∨ 64 < a2) → K (none, 16) h)
    (good : 0 ≤ a0 → a0 ≤ 16 → 1 ≤ a1 → a1 ≤ 4 → 0 ≤ a2 → a2 ≤ 64 → ∀ p h', (∀ es, Cache h' p es) → Keeps h h' → h p = none → K (some ⟨p, 0, none⟩, 0) h') : m_cache_New a0 a1 a2 K h := by
  unfold m_cache_New
  refine w_if (fun c => bad ?_) fun c => ?_
  · simp only [Bool.or_eq_true, decide_eq_true_eq] at c; omega
  simp only [Bool.or_eq_false_iff, decide_eq_false_iff_not] at c
  refine w_box fun p h1 f1 c1 k1 => ?_
  have c1' : h1 p = some (.cells (kCells a0 a1 a2 (List.replicate 64 pc0) 0 0 0 0).toArray N_cache_Cache (0, 0)) := c1.trans (by kernel_rfl)
  refine good (by omega) (by omega) (by omega) (by omega) (by omega) (by omega) p h1 (fun es => ⟨a0, a1, a2, _, 0, 0, 0, 0, ⟨c1', by rw [List.length_replicate], by omega⟩, fun q hq hp => ?_⟩) k1 f1
  rw [List.eq_of_mem_replicate hq] at hp; cases hp
/-- All that is known is forgotten. -/
theorem t_KTurn (x : Cache h p es) {K : Unit → H → Prop} (y : ∀ h', (∀ es', Cache h' p es') → But (· = p) h h' → (∀ c, h' c = none → h c = none) → K () h') : m_cache_Cache_Turn (some ⟨p, 0, none⟩) K h := by
  obtain ⟨sets, ways, knob, PL, ep, age, hits, miss, x, ok⟩ := x.ex
  unfold m_cache_Cache_Turn
  obtain ⟨r1, r2, r3, r4, r5, r6⟩ := x.rng
  refine w_deref (w_load x.f451 (w_deref ?_))
  rw [iAdd_eq (by omega) (by omega)]
  -- the number may pass its bound for a moment
  refine w_store (b := p) (i := 451) (l1 := [.int .i64 sets, .int .i64 ways, .int .i64 knob] ++ flat cPc PL) (l2 := [.int .i64 ep]) (l3 := [.int .i64 age, .int .i64 hits, .int .i64 miss]) (t := N_cache_Cache) (pt_add p 451) (by rw [show [Value.int .i64 sets, .int .i64 ways, .int .i64 knob] ++ flat cPc PL ++ [.int .i64 ep] ++ [.int .i64 age, .int .i64 hits, .int .i64 miss] = kCells sets ways knob PL ep age hits miss by simp [kCells]]; exact x.cell) (x.l _ _ _) rfl ?_
  generalize eh : upd h p _ = h1
  have c1 : h1 p = some (.cells (kCells sets ways knob PL (ep + 1) age hits miss).toArray N_cache_Cache (0, 0)) := by
    rw [← eh, upd_same]
    rw [show [Value.int .i64 sets, .int .i64 ways, .int .i64 knob] ++ flat cPc PL ++ [Value.int .i64 (ep + 1)] ++ [.int .i64 age, .int .i64 hits, .int .i64 miss] = kCells sets ways knob PL (ep + 1) age hits miss by simp [kCells]]
  have b1 : But (· = p) h h1 := eh ▸ .upd rfl
  have d1 : ∀ c, h1 c = none → h c = none := fun c q => by rw [← eh] at q; exact (upd_none.1 q).2
  have at451 : At h1 ((⟨p, 0, none⟩ : Addr).add 451) (cInt .i64 (ep + 1)) := by
    rw [pt_add]
    refine At.own (t := N_cache_Cache) (fz := (0, 0)) (l1 := [.int .i64 sets, .int .i64 ways, .int .i64 knob] ++ flat cPc PL) (l3 := [.int .i64 age, .int .i64 hits, .int .i64 miss]) ?_ (x.l _ _ _)
    rw [c1]; simp [kCells, cInt]
  refine w_deref (w_load at451 (w_if' (fun q => ?_) fun q => ?_))
  · have q : 255 < ep + 1 := q
    refine w_deref ?_
    refine w_store (b := p) (i := 451) (l1 := [.int .i64 sets, .int .i64 ways, .int .i64 knob] ++ flat cPc PL) (l2 := [.int .i64 (ep + 1)]) (l3 := [.int .i64 age, .int .i64 hits, .int .i64 miss]) (t := N_cache_Cache) (pt_add p 451) (by rw [c1]; simp [kCells]) (x.l _ _ _) rfl ?_
    generalize eh2 : upd h1 p _ = h2
    have c2 : h2 p = some (.cells (kCells sets ways knob PL 0 age hits miss).toArray N_cache_Cache (0, 0)) := by
      rw [← eh2, upd_same]; simp [kCells]
    have b2 : But (· = p) h1 h2 := eh2 ▸ .upd rfl
    have d2 : ∀ c, h2 c = none → h1 c = none := fun c q => by rw [← eh2] at q; exact (upd_none.1 q).2
    have x2 : KAt h2 p sets ways knob PL 0 age hits miss := ⟨c2, x.len, by omega⟩
    refine w_deref ?_
    refine x2.store (PL' := List.replicate 64 pc0) (ep' := 0) (age' := age) (hits' := hits) (miss' := miss) (n := 3) (l1 := [.int .i64 sets, .int .i64 ways, .int .i64 knob]) (l2 := flat cPc PL) (l3 := [.int .i64 0, .int .i64 age, .int .i64 hits, .int .i64 miss]) rfl (by kernel_rfl) rfl (by rw [x.fl]; kernel_rfl) (by rw [List.length_replicate]) ⟨by omega, by omega⟩ (pt_add p 3) fun h3 x3 b3 d3 => ?_
    refine y h3 (fun es' => ⟨_, _, _, _, _, _, _, _, x3, fun q hq hp => ?_⟩) ((b1.trans b2 fun _ q => .inl q).trans b3 fun _ q => .inl q) fun c q => d1 c (d2 c (d3 c q))
    rw [List.eq_of_mem_replicate hq] at hp; cases hp
  · have q : ¬ 255 < ep + 1 := q
    refine y h1 (fun es' => ⟨_, _, _, _, _, _, _, _, ⟨c1, x.len, by omega⟩, fun q hq hp => ?_⟩) b1 d1
    have := (ok q hq hp).1
    exact ⟨by omega, fun e => by omega⟩
theorem t_KPut (x : Cache h p es) {n : Nat} {t : S_api_Token} {ks : List Int} (ht : Has es n t ks) {K : Unit → H → Prop} (y : ∀ h', Cache h' p es → But (· = p) h h' → (∀ c, h' c = none → h c = none) → K () h') : m_cache_Cache_Put (some ⟨p, 0, none⟩) t.Cap t.Rights K h := by
  have x0 := x
  obtain ⟨sets, ways, knob, PL, ep, age, hits, miss, x, ok⟩ := x.ex
  unfold m_cache_Cache_Put
  obtain ⟨r1, r2, r3, r4, r5, r6⟩ := x.rng
  refine w_deref (w_load x.f0 (w_if' (fun _ => y h x0 (.refl _ _) fun _ q => q) fun h0 => ?_))
  have h0 : ¬ sets = 0 := h0
  refine t_kof x h0 fun r hr => w_deref (idx_set hr ?_)
  obtain ⟨st, e⟩ := four x.len hr
  refine w_load (x.set hr e) ?_
  have mem4 : ∀ {i : Nat} {q}, (plS st)[i]? = some q → i < 4 := fun z => lt_of_get z
  -- the place
  have rest : ∀ (m : Nat) (hh : H), m < 4 → Keeps h hh → _ := fun m hh hm kk => (?_ : mDeref (some ⟨p, 0, none⟩) (fun ad10 => mLoad (cInt .i64) (ad10.add 452) fun x11 => mDeref (some ⟨p, 0, none⟩) fun ad12 => mStore (ad12.add 452) [(Value.int .i64 (iAdd .i64 x11 1))] <| mDeref (some ⟨p, 0, none⟩) fun ad13 => mDeref (some ⟨p, 0, none⟩) fun ad14 => mDeref (some ⟨p, 0, none⟩) fun ad15 => mIdx (⟨some (ad15.add 3), 16, 16⟩ : Sl) (r : Int) 28 fun ad16 => mLoad (cInt .i64) (ad13.add 451) fun x17 => mLoad (cInt .i64) (ad14.add 452) fun x18 => mIdx (⟨some ad16, 4, 4⟩ : Sl) (m : Int) 7 fun ad19 => mStore ad19 [(Value.bool true), (Value.int .i64 t.Cap.Obj), (Value.int .u64 t.Cap.Pass.Hi), (Value.int .u64 t.Cap.Pass.Lo), (Value.int .i64 t.Rights), (Value.int .i64 x17), (Value.int .i64 x18)] <| K ()) hh)
  · refine t_kfind x (fun i q hq hp he hc h1 k1 => ?_) fun h1 k1 => ?_
    · exact w_joinV (i : Int) (fun j hj => w_ifF rfl hj) (rest i h1 (mem4 hq) k1)
    · refine w_joinP (fun (s8 : Int) hh => ∃ m : Nat, s8 = m ∧ m < 4 ∧ Keeps h hh) (fun j hj => w_ifT rfl (w_deref (idx_set hr (w_load ((x.keep k1).set hr e) (t_kroom (x.keep k1) fun i h2 hi k2 => hj _ _ ⟨i, rfl, hi, k1.trans k2⟩))))) ?_
      rintro s8 hh ⟨m, rfl, hm, kk⟩
      exact rest m hh hm kk
  · have xx := x.keep kk
    refine w_deref (w_load xx.f452 (w_deref ?_))
    refine xx.store (PL' := PL) (ep' := ep) (age' := iAdd .i64 age 1) (hits' := hits) (miss' := miss) (n := 452) (l1 := [.int .i64 sets, .int .i64 ways, .int .i64 knob] ++ flat cPc PL ++ [.int .i64 ep]) (l2 := [.int .i64 age]) (new := [.int .i64 (iAdd .i64 age 1)]) (l3 := [.int .i64 hits, .int .i64 miss]) (by simp [kCells]) (by simp [kCells]) (by rw [List.length_append, x.l]; rfl) rfl x.len ⟨r5, r6⟩ (pt_add p 452) fun h2 x2 b2 d2 => ?_
    refine w_deref (w_deref (w_deref (idx_set hr (w_load x2.f451 (w_load x2.f452 ?_)))))
    have hj : 4 * r + m < PL.length := by rw [x.len]; omega
    have hz := List.getElem?_eq_getElem hj
    have sp := split_at hz
    refine ⟨(⟨p, 3 + r * 28, none⟩ : Addr).add (m * 7), ⟨_, rfl, by omega, by show (m : Int) < ((4 : Nat) : Int); omega, by rw [Int.toNat_natCast]⟩, ?_⟩
    have hl : (flat cPc (PL.take (4 * r + m))).length = 7 * (4 * r + m) := by rw [flat_len cp_len, List.length_take, x.len, Nat.min_eq_left (by omega)]; omega
    have e1 : ∀ q : S_cache_place, kCells sets ways knob (PL.set (4 * r + m) q) ep (iAdd .i64 age 1) hits miss = [.int .i64 sets, .int .i64 ways, .int .i64 knob] ++ flat cPc (PL.take (4 * r + m)) ++ cPc q ++ (flat cPc (PL.drop (4 * r + m + 1)) ++ [.int .i64 ep, .int .i64 (iAdd .i64 age 1), .int .i64 hits, .int .i64 miss]) := fun q => by
      unfold kCells
      rw [List.set_eq_take_append_cons_drop, if_pos hj]
      simp only [flat_append, flat_cons, List.append_assoc]
    have e0 : kCells sets ways knob PL ep (iAdd .i64 age 1) hits miss = [.int .i64 sets, .int .i64 ways, .int .i64 knob] ++ flat cPc (PL.take (4 * r + m)) ++ cPc PL[4 * r + m] ++ (flat cPc (PL.drop (4 * r + m + 1)) ++ [.int .i64 ep, .int .i64 (iAdd .i64 age 1), .int .i64 hits, .int .i64 miss]) := by
      rw [← e1, set_same hz]
    refine x2.store (PL' := PL.set (4 * r + m) ⟨true, t.Cap, t.Rights, ep, iAdd .i64 age 1⟩) (ep' := ep) (age' := iAdd .i64 age 1) (hits' := hits) (miss' := miss) (n := 3 + 7 * (4 * r + m)) e0 (e1 _) (by rw [List.length_append, hl]; rfl) rfl (by rw [List.length_set]; exact x.len) ⟨r5, r6⟩ (by rw [addr_add]; congr 1; omega) fun h3 x3 b3 d3 => ?_
    refine y h3 ⟨_, _, _, _, _, _, _, _, x3, fun q hq hp => ?_⟩ (((But.of kk).trans b2 fun _ q => .inl q).trans b3 fun _ q => .inl q) fun c q => kk.fresh (d2 c (d3 c q))
    rcases List.mem_or_eq_of_mem_set hq with q' | q'
    · exact ok q q' hp
    · subst q'
      exact ⟨Int.le_refl _, fun _ => ⟨n, t, ks, ht, rfl, rfl⟩⟩
theorem t_KGet (x : Cache h p es) {c : S_api_Cap} {K : Int × Bool → H → Prop} (no : ∀ h', Cache h' p es → But (· = p) h h' → (∀ c, h' c = none → h c = none) → K (0, false) h')
    (hit : ∀ n t ks, Has es n t ks → t.Cap = c → ∀ h', Cache h' p es → But (· = p) h h' → (∀ c, h' c = none → h c = none) → K (t.Rights, true) h') : m_cache_Cache_Get (some ⟨p, 0, none⟩) c K h := by
  obtain ⟨sets, ways, knob, PL, ep, age, hits, miss, x, ok⟩ := x.ex
  unfold m_cache_Cache_Get
  obtain ⟨r1, r2, r3, r4, r5, r6⟩ := x.rng
  refine w_joinP (fun _ hh => Keeps h hh) (fun j hj => w_deref (w_load x.f0 (w_if' (fun h0 => ?_) fun _ => hj _ _ (.refl _)))) ?_
  · have h0 : 0 < sets := h0
    refine w_deref ?_
    refine w_joinP (fun (s9 : Addr × S_cache_set) hh => Keeps h hh ∧ ∃ b st old, s9.1 = ⟨b, 0, none⟩ ∧ s9.2 = st ∧ hh b = some (.cells (S_cache_set.cells old).toArray 319 (0, 0)) ∧ h b = none ∧ ∀ q ∈ plS st, q ∈ PL) (fun J hJ => ?_) ?_
    · refine w_both (t_kof x (by omega) fun r hr => idx_set hr ?_) (w_box fun b h1 f1 c1 k1 => t_kof (x.keep k1) (by omega) fun r hr => idx_set hr ?_)
      · obtain ⟨st, e⟩ := four x.len hr
        exact w_load (x.set hr e) (w_box fun b h1 f1 c1 k1 => hJ _ _ ⟨k1, b, st, ⟨pc0, pc0, pc0, pc0⟩, rfl, rfl, c1, f1, fun q hq => sub_mem e hq⟩)
      · obtain ⟨st, e⟩ := four x.len hr
        exact w_load ((x.keep k1).set hr e) (hJ _ _ ⟨k1, b, st, ⟨pc0, pc0, pc0, pc0⟩, rfl, rfl, c1, f1, fun q hq => sub_mem e hq⟩)
    · rintro ⟨ad, st⟩ h1 ⟨k1, b, st', old, e1, e2, c1, f1, sub⟩
      have e1 : ad = ⟨b, 0, none⟩ := e1
      have e2 : st = st' := e2
      subst e1; subst e2
      refine w_setBox (old := S_cache_set.cells old) (new := S_cache_set.cells st) c1 rfl fun h2 c2 b2 d2 => w_load (v := st) (at_box c2) ?_
      have k2 : Keeps h h2 := k1.but b2 fun c q => q ▸ f1
      refine t_kfind (x.keep k2) (fun i q hq hp he hc h3 k3 => w_ifT rfl ?_) fun h3 k3 => w_ifF rfl (hj _ _ (k2.trans k3))
      have k3' := k2.trans k3
      have x3 := x.keep k3'
      obtain ⟨n, t, ks, ht, tc, tr⟩ := (ok q (sub q (List.mem_of_getElem? hq)) hp).2 he
      refine w_deref (w_load x3.f453 (w_deref ?_))
      refine x3.store (PL' := PL) (ep' := ep) (age' := age) (hits' := iAdd .i64 hits 1) (miss' := miss) (n := 453) (l1 := [.int .i64 sets, .int .i64 ways, .int .i64 knob] ++ flat cPc PL ++ [.int .i64 ep, .int .i64 age]) (l2 := [.int .i64 hits]) (new := [.int .i64 (iAdd .i64 hits 1)]) (l3 := [.int .i64 miss]) (by simp [kCells]) (by simp [kCells]) (by rw [List.length_append, x.l]; rfl) rfl x.len ⟨r5, r6⟩ (pt_add p 453) fun h4 x4 b4 d4 => ?_
      have c4 : h4 b = some (.cells (S_cache_set.cells st).toArray 319 (0, 0)) := b4 _ _ (k3 _ _ c2) fun z => by rw [z, x.cell] at f1; cases f1
      refine w_field cp_len (set_arr c4) hq rfl (v' := q.xrights) (cells' := cInt .i64) (l1 := (cPc q).take 4) (l3 := (cPc q).drop 5) rfl rfl ?_
      rw [← tr]
      exact hit n t ks ht (tc.trans hc) h4 ⟨_, _, _, _, _, _, _, _, x4, ok⟩ ((But.of k3').trans b4 fun _ q => .inl q) fun c q => k3'.fresh (d4 c q)
  · rintro _ h1 k1
    have x1 := x.keep k1
    refine w_deref (w_load x1.f454 (w_deref ?_))
    refine x1.store (PL' := PL) (ep' := ep) (age' := age) (hits' := hits) (miss' := iAdd .i64 miss 1) (n := 454) (l1 := [.int .i64 sets, .int .i64 ways, .int .i64 knob] ++ flat cPc PL ++ [.int .i64 ep, .int .i64 age, .int .i64 hits]) (l2 := [.int .i64 miss]) (new := [.int .i64 (iAdd .i64 miss 1)]) (l3 := []) (by simp [kCells]) (by simp [kCells]) (by rw [List.length_append, x.l]; rfl) rfl x.len ⟨r5, r6⟩ (pt_add p 454) fun h2 x2 b2 d2 => ?_
    exact no h2 ⟨_, _, _, _, _, _, _, _, x2, ok⟩ ((But.of k1).trans b2 fun _ q => .inl q) fun c q => k1.fresh (d2 c q)
end
end Go.Proofs.Ytiajjcboddaenaa.K
