/- law07.StoreLives. -/
import Derived.Test.YteeaelemfalkbaaL07b
namespace Go.Proofs.Yteeaelemfalkbaa.K
open Go
section
variable {h : H}
theorem t_SCreateX {s : Nat} {F P : Nat → Prop} {most : Int} {np : Nat} {next : Int} {L : List (Int × List UInt8)} (x : SAt h s F P most np next L) {size : Int} {K : Int × Int → H → Prop} (y : ∀ r h' P' next' L', SAt h' s F P' most np next' L' → (∀ c, P' c → P c ∨ h c = none) → SChg F h h' →
    ((r = (next, 0) ∧ mayE most next L.length (np - usedS L) size = 0 ∧ next' = next + 1 ∧ L' = L ++ [(next, List.replicate size.toNat 0)]) ∨ (r = (0, mayE most next L.length (np - usedS L) size) ∧ mayE most next L.length (np - usedS L) size ≠ 0 ∧ next' = next ∧ L' = L)) → K r h') : m_store_Store_Create (some ⟨s, 0, none⟩) size K h :=
  t_SCreate x (fun e h' k => y _ h' P _ _ (x.keep k) (fun _ q => .inl q) (.keeps k) (.inr ⟨rfl, e, rfl, rfl⟩)) fun e h' P' x' hp c => y _ h' P' _ _ x' hp c (.inl ⟨rfl, e, rfl, rfl⟩)
theorem used_take {L : List (Int × List UInt8)} {q : Nat} (hq : q < L.length) : usedS (L.take (q + 1)) = usedS (L.take q) + (L[q].2.length + 63) / 64 := by
  unfold usedS
  rw [List.take_add_one, List.getElem?_eq_getElem hq, Option.toList_some, List.map_append, List.sum_append]
  simp
theorem used_le (L : List (Int × List UInt8)) (q : Nat) : usedS (L.take q) ≤ usedS L := by
  have : usedS L = usedS (L.take q) + usedS (L.drop q) := by
    unfold usedS
    rw [← List.sum_append, ← List.map_append, List.take_append_drop]
  omega
theorem mayE_ok {next : Int} {l fr n : Nat} (hn : n ≤ 4096) (hx : next ≤ 4611686018427387904) : mayE 8 next l fr (n : Int) = 0 ↔ l < 8 ∧ (n + 63) / 64 ≤ fr := by
  unfold mayE
  rw [if_neg (by omega), Int.toNat_natCast]
  by_cases c : (8 : Int) ≤ (l : Int) ∨ 4611686018427387904 < next
  · rw [if_pos c]
    exact ⟨fun e => (by cases e), fun e => (by omega)⟩
  · rw [if_neg c]
    by_cases d : fr < (n + 63) / 64
    · rw [if_pos d]
      exact ⟨fun e => (by cases e), fun e => (by omega)⟩
    · rw [if_neg d]
      exact ⟨fun _ => (by omega), fun _ => rfl⟩
theorem look_last {next : Int} {v : List UInt8} : ∀ {L : List (Int × List UInt8)}, (∀ q ∈ L, q.1 < next) → alook (L ++ [(next, v)]) next = some v := by
  intro L
  induction L with
  | nil => intro _; rw [List.nil_append, alook_cons, if_pos rfl]
  | cons q r ih =>
    intro h
    obtain ⟨i, w⟩ := q
    have : i < next := h (i, w) (List.mem_cons_self ..)
    rw [List.cons_append, alook_cons, if_neg (by omega)]
    exact ih fun q hq => h q (List.mem_cons_of_mem _ hq)
theorem t_SWriteX {s : Nat} {F P : Nat → Prop} {most : Int} {np : Nat} {next : Int} {L : List (Int × List UInt8)} (x : SAt h s F P most np next L) {id off : Int} {sl : Sl} {d v : List UInt8} (ar : Arr cU8 h sl d) (ft : d ≠ [] → ∀ c, sl.foot c → ¬ F c) (hl : alook L id = some v) {K : Int → H → Prop}
    (y : ∀ r h' d', SAt h' s F P most np next (wrL L id off.toNat d') → SChg F h h' → ((r = 0 ∧ inR v.length off d.length ∧ d' = d) ∨ (r = 5 ∧ ¬ inR v.length off d.length ∧ d' = [])) → K r h') : m_store_Store_Write (some ⟨s, 0, none⟩) id off sl K h := by
  have e0 : wrL L id off.toNat [] = L := by
    unfold wrL
    conv => rhs; rw [← List.map_id L]
    refine List.map_congr_left fun p _ => ?_
    split
    · rw [over_nil]; rfl
    · rfl
  refine t_SWrite x ar ft (fun e => by rw [hl] at e; cases e) (fun bs e r h' k => ?_) fun bs e r h' x' c => ?_
  · rw [hl] at e; cases e
    exact y 5 h' [] (by rw [e0]; exact x.keep k) (.keeps k) (.inr ⟨rfl, r, rfl⟩)
  · rw [hl] at e; cases e
    exact y 0 h' d x' c (.inl ⟨rfl, r, rfl⟩)
theorem wr_keys (L : List (Int × List UInt8)) (id : Int) (off : Nat) (d : List UInt8) : (wrL L id off d).map (·.1) = L.map (·.1) := by
  unfold wrL
  rw [List.map_map]
  refine List.map_congr_left fun p _ => ?_
  show (if p.1 = id then (p.1, over p.2 off d) else p).1 = p.1
  split <;> rfl
theorem wr_vals {id : Int} {off : Nat} {d v : List UInt8} : ∀ {L : List (Int × List UInt8)} {k : Nat}, (L.map (·.1)).Nodup → L[k]? = some (id, v) → wrL L id off d = L.set k (id, over v off d) := by
  intro L
  induction L with
  | nil => intro k _ h; simp at h
  | cons p r ih =>
    intro k nd h
    rw [List.map_cons, List.nodup_cons] at nd
    cases k with
    | zero =>
      have h : p = (id, v) := by simpa using h
      subst h
      unfold wrL
      rw [List.map_cons, if_pos rfl, List.set_cons_zero]
      congr 1
      conv => rhs; rw [← List.map_id r]
      refine List.map_congr_left fun q hq => ?_
      rw [if_neg fun z => nd.1 (List.mem_map.2 ⟨q, hq, z⟩)]; rfl
    | succ k =>
      have h : r[k]? = some (id, v) := by simpa using h
      have hne : p.1 ≠ id := fun z => nd.1 (List.mem_map.2 ⟨(id, v), List.mem_of_getElem? h, z.symm⟩)
      have := ih nd.2 h
      unfold wrL at this ⊢
      rw [List.map_cons, if_neg hne, this, List.set_cons_succ]
theorem del_erase {id : Int} {v : List UInt8} : ∀ {L : List (Int × List UInt8)} {k : Nat}, (L.map (·.1)).Nodup → L[k]? = some (id, v) → delL L id = L.eraseIdx k := by
  intro L
  induction L with
  | nil => intro k _ h; simp at h
  | cons p r ih =>
    intro k nd h
    rw [List.map_cons, List.nodup_cons] at nd
    cases k with
    | zero =>
      have h : p = (id, v) := by simpa using h
      subst h
      unfold delL
      rw [List.filter_cons, decide_eq_true rfl, List.eraseIdx_cons_zero]
      show r.filter _ = r
      rw [List.filter_eq_self]
      intro q hq
      have : q.1 ≠ id := fun z => nd.1 (List.mem_map.2 ⟨q, hq, z⟩)
      simpa using this
    | succ k =>
      have h : r[k]? = some (id, v) := by simpa using h
      have hne : p.1 ≠ id := fun z => nd.1 (List.mem_map.2 ⟨(id, v), List.mem_of_getElem? h, z.symm⟩)
      have := ih nd.2 h
      unfold delL at this ⊢
      rw [List.filter_cons, decide_eq_false hne, List.eraseIdx_cons_succ, ← this]
      rfl
theorem del_none {id : Int} {L : List (Int × List UInt8)} : alook (delL L id) id = none := by
  refine alook_none fun hm => ?_
  obtain ⟨p, hp, e⟩ := List.mem_map.1 hm
  unfold delL at hp
  have := (List.mem_filter.1 hp).2
  rw [decide_eq_true e] at this; cases this
theorem nodup_of {l : List Int} (h : l.Pairwise (· < ·)) : l.Nodup := h.imp fun q => by omega
theorem over_len' {l d : List UInt8} {off : Nat} (h : d = [] ∨ off + d.length ≤ l.length) : (over l off d).length = l.length := by
  rcases h with rfl | h
  · rw [over_nil]
  · exact over_len h
theorem over_one {l : List UInt8} {i : Nat} {x : UInt8} (h : i < l.length) : over l i [x] = l.set i x := by
  unfold over
  rw [List.set_eq_take_append_cons_drop, if_pos h]
  simp
theorem over_step {l d : List UInt8} {off q : Nat} (hq : q < d.length) (h : off + d.length ≤ l.length) : over l off (d.take (q + 1)) = (over l off (d.take q)).set (off + q) d[q] := by
  have e1 : (d.take q).length = q := by rw [List.length_take]; omega
  have := over_over (l := l) (d1 := d.take q) (d2 := [d[q]]) (off := off) (by rw [e1, List.length_singleton]; omega)
  rw [e1] at this
  rw [List.take_add_one, List.getElem?_eq_getElem hq, Option.toList_some, ← this, over_one]
  rw [over_len (by rw [e1]; omega)]; omega
theorem life_len : ∀ x : S_law07_Life, (S_law07_Life.cells x).length = 4 := fun _ => rfl
theorem t_StoreLives {s0 : Sl} {ops : List S_law07_Life} (ar : Arr S_law07_Life.cells h s0 ops) (g : ∀ o ∈ ops, ∃ ds, Arr cU8 h o.Data ds ∧ o.Data.cap ≤ 9223372036854775807) (hn : ops.length ≤ 2 ^ 48) {K : Bool → H → Prop} (y : ∀ h', Keeps h h' → K true h') : m_law07_StoreLives s0 K h := by
  have hal := ar.len
  unfold m_law07_StoreLives
  refine t_SNew (fun e => by omega) fun _ _ _ _ s F P h1 x1 k1 f1 p1 => t_head07 fun h2 k2 => w_ifF rfl ?_
  have f0 : ∀ c, F c → h c = none := f1
  refine w_for ops.length (fun j z h' => z.2.2.2.2 = (j : Int) ∧ ∃ P L next bs, SAt h' s F P 8 32 next L ∧ JW h h' P (L.map (·.1)) (L.map fun p => (p.2.length : Int)) (L.map (·.2)) z.1 z.2.1 z.2.2.1 bs ∧ z.2.2.2.1 < next ∧ next ≤ (j : Int) + 1 ∧ ∀ p ∈ L, p.2.length ≤ 1023) ?_ ⟨rfl, P, [], 1, [], x1.keep k2, ⟨k1.trans k2, Can.nil, Can.nil, Can.nil, rfl, fun k b p e => (by simp at e), fun j k b b' _ e => (by simp at e), fun c ⟨a, ha, _⟩ => (by cases ha), fun c ⟨a, ha, _⟩ => (by cases ha), fun c ⟨a, ha, _⟩ => (by cases ha), fun b hb => (by cases hb)⟩, by show (0 : Int) < 1; omega, by omega, fun p hp => (by cases hp)⟩
  rintro rec j ⟨ids, sz, wt, last, _⟩ h3 hj ⟨rfl, P, L, next, bs, x3, w3, hlast, hnext, hsz3⟩ more
  have hlast : last < next := hlast
  have w3 : JW h h3 P (L.map (·.1)) (L.map fun p => (p.2.length : Int)) (L.map (·.2)) ids sz wt bs := w3
  clear x1 k1 k2 p1
  have lw := x3.law
  refine w_if' (fun c => ?_) fun c => ?_
  · have c : (j : Int) < (s0.len : Int) := c
    have hjl : j < ops.length := by omega
    have eo : ops[j]? = some ops[j] := List.getElem?_eq_getElem hjl
    have ho : ops[j] ∈ ops := List.getElem_mem hjl
    generalize ops[j] = o at eo ho
    obtain ⟨ds, ard, hcap⟩ := g o ho
    -- a field of the step, in any memory that keeps the beginning's
    have fSize : ∀ {h' : H} {k : Int → H → Prop}, Keeps h h' → k o.Size h' → mIdx s0 (j : Int) 4 (fun a => mLoad (cInt .i64) (a.add 0) k) h' := fun kk q => w_field life_len (ar.keep kk) eo rfl (l1 := []) (l3 := [.int .i64 o.Off, Sl.val o.Data, .bool o.Gone]) rfl rfl q
    have fOff : ∀ {h' : H} {k : Int → H → Prop}, Keeps h h' → k o.Off h' → mIdx s0 (j : Int) 4 (fun a => mLoad (cInt .i64) (a.add 1) k) h' := fun kk q => w_field life_len (ar.keep kk) eo rfl (l1 := [.int .i64 o.Size]) (l3 := [Sl.val o.Data, .bool o.Gone]) rfl rfl q
    have fData : ∀ {h' : H} {k : Sl → H → Prop}, Keeps h h' → k o.Data h' → mIdx s0 (j : Int) 4 (fun a => mLoad cSl (a.add 2) k) h' := fun kk q => w_field life_len (ar.keep kk) eo rfl (l1 := [.int .i64 o.Size, .int .i64 o.Off]) (l3 := [.bool o.Gone]) rfl rfl q
    have fGone : ∀ {h' : H} {k : Bool → H → Prop}, Keeps h h' → k o.Gone h' → mIdx s0 (j : Int) 4 (fun a => mLoad cBool (a.add 3) k) h' := fun kk q => w_field life_len (ar.keep kk) eo rfl (l1 := [.int .i64 o.Size, .int .i64 o.Off, Sl.val o.Data]) (l3 := []) rfl rfl q
    refine fSize w3.k0 ?_
    obtain ⟨n, hn1, en⟩ := and_low o.Size (m := 1023) (by omega)
    have en : iAnd .i64 o.Size 1023 = (n : Int) := en
    obtain ⟨n2, hn2, en2⟩ := and_low o.Off (m := 1023) (by omega)
    have en2 : iAnd .i64 o.Off 1023 = (n2 : Int) := en2
    obtain ⟨n3, hn3, en3⟩ := and_low o.Off (m := 255) (by omega)
    have en3 : iAnd .i64 o.Off 255 = (n3 : Int) := en3
    refine w_for L.length (fun q u h' => u = (((usedS (L.take q) : Nat) : Int), (q : Int)) ∧ h3 = h') ?_ ⟨by simp [usedS], rfl⟩
    rintro rec1 q _ _ hq ⟨rfl, rfl⟩ more1
    have hil := w3.cids.arr.len
    rw [List.length_map] at hil
    refine w_if' (fun c1 => ?_) fun c1 => ?_
    · have c1 : (q : Int) < (ids.len : Int) := c1
      have hqL : q < L.length := by omega
      have ez : (L.map fun p => (p.2.length : Int))[q]? = some (L[q].2.length : Int) := by rw [List.getElem?_map, List.getElem?_eq_getElem hqL]; rfl
      refine w_get ci_len w3.szs.arr ez rfl (v' := (L[q].2.length : Int)) rfl ?_
      have h41 := lw.sizes L[q] (List.getElem_mem hqL)
      have h42 := used_take hqL
      have h43 := used_le L (q + 1)
      have h44 := lw.used
      have e1 : iAdd .i64 (L[q].2.length : Int) 63 = ((L[q].2.length + 63 : Nat) : Int) := ia _ 63 (by omega)
      have e2 := iq (L[q].2.length + 63) 64 (by omega)
      rw [show ((64 : Nat) : Int) = 64 from rfl] at e2
      rw [e1, e2]
      show rec1 (iAdd .i64 ((usedS (L.take q) : Nat) : Int) _, iAdd .i64 (q : Int) 1) _
      rw [ia _ _ (by omega), ← h42, ia1 q (by have := lw.most; omega)]
      exact more1 _ _ hqL ⟨rfl, rfl⟩
    · have c1 : ¬ (q : Int) < (ids.len : Int) := c1
      obtain rfl : q = L.length := by omega
      rw [List.take_length]
      clear more1 rec1 c1
      show m_store_Store_Create (some ⟨s, 0, none⟩) (iAnd .i64 o.Size 1023) _ h3
      rw [en]
      refine t_SCreateX x3 fun r11 h4 P4 next4 L4 x4 hp4 c4 cs => t_SFree x4 fun h5 k5 => ?_
      have lw4 := x4.law
      have hmost := lw.most
      have hused := lw.used
      have eS : iSub .i64 32 ((usedS L : Nat) : Int) = ((32 - usedS L : Nat) : Int) := is_ 32 (usedS L) (by omega) (by omega)
      have eA : iAdd .i64 (n : Int) 63 = ((n + 63 : Nat) : Int) := ia n 63 (by omega)
      have eQ := iq (n + 63) 64 (by omega)
      rw [show ((64 : Nat) : Int) = 64 from rfl] at eQ
      have em := mayE_ok (next := next) (l := L.length) (fr := 32 - usedS L) (n := n) (by omega) (by omega)
      have w4 := w3.chg x3 f0 c4 hp4
      have w5 := w4.keep k5
      have x5 := x4.keep k5
      refine w_ifF ?_ ?_
      · show (decide (iSub .i64 32 ((usedS L : Nat) : Int) < ((32 - usedS L4 : Nat) : Int)) || !(decide (r11.2 = 0) == (decide ((ids.len : Int) < 8) && decide (iQuo .i64 (iAdd .i64 (n : Int) 63) 64 ≤ iSub .i64 32 ((usedS L : Nat) : Int))))) = false
        rw [eS, eA, eQ]
        rcases cs with ⟨rfl, e0, e4, e5⟩ | ⟨rfl, e0, e4, e5⟩ <;> rw [e5]
        · have e0' := em.1 e0
          have hu4 : usedS L ≤ usedS (L ++ [(next, List.replicate (n : Int).toNat (0 : UInt8))]) := by
            unfold usedS; rw [List.map_append, List.sum_append]; omega
          rw [decide_eq_false (by omega), decide_eq_true (show (next, (0 : Int)).2 = 0 from rfl), decide_eq_true (by omega : (ids.len : Int) < 8), decide_eq_true (by omega)]
          rfl
        · have e1 : ¬ (L.length < 8 ∧ (n + 63) / 64 ≤ 32 - usedS L) := fun z => e0 (em.2 z)
          rw [decide_eq_false (by omega), decide_eq_false e0, Bool.false_or, Bool.not_eq_false', beq_iff_eq, eq_comm, Bool.and_eq_false_iff, decide_eq_false_iff_not, decide_eq_false_iff_not]
          omega
      refine w_joinP (fun z h6 => ∃ P L next bs, SAt h6 s F P 8 32 next L ∧ JW h h6 P (L.map (·.1)) (L.map fun p => (p.2.length : Int)) (L.map (·.2)) z.1 z.2.1 z.2.2.1 bs ∧ z.2.2.2 < next ∧ next ≤ (j : Int) + 2 ∧ ∀ p ∈ L, p.2.length ≤ 1023) (fun j14 hj14 => ?_) ?_
      · rcases cs with ⟨rfl, e0, e4, e5⟩ | ⟨rfl, e0, e4, e5⟩
        · subst e4; subst e5
          refine w_ifT rfl ?_
          have hlk := look_last (v := List.replicate (n : Int).toNat (0 : UInt8)) fun q hq => (lw.ids q hq).2
          refine t_SRead x5 (fun e => by rw [hlk] at e; cases e) (fun bs' e r => ?_) fun bs' e r sr h6 br kr fr => ?_
          · rw [hlk] at e; cases e
            refine absurd ?_ r
            unfold inR
            rw [List.length_replicate]; omega
          rw [hlk] at e; cases e
          rw [Int.toNat_natCast, show ((0 : Int).toNat) = 0 from rfl, List.drop_zero, List.take_replicate, Nat.min_self] at br
          refine w_joinP (fun z h7 => z = false ∧ Keeps h6 h7) (fun jj hjj => w_ifF ?_ (w_make (by_ := 1) u8_len 0 rfl rfl rfl (by omega) (by omega) fun s191 h7 b7 k7 f7 _ => t_same07 (br.keep k7).arr b7.arr ?_)) ?_
          · show (decide (next ≤ last) || !decide ((0 : Int) = 0)) = false
            rw [decide_eq_false (by omega)]; rfl
          · rw [decide_eq_true rfl]
            exact hjj _ _ ⟨rfl, k7⟩
          rintro _ h7 ⟨rfl, k7⟩
          refine w_ifF rfl ?_
          have w7 := (w5.keep kr).keep k7
          have x7 := (x5.keep kr).keep k7
          have hI : (L.map (·.1)).length ≤ 64 := by rw [List.length_map]; omega
          have hZ : (L.map fun p => (p.2.length : Int)).length ≤ 64 := by rw [List.length_map]; omega
          refine w_joinP (fun z h8 => ∃ a b m d, z = (a, b, (⟨some d, 1, 1⟩ : Sl)) ∧ AP h7 h8 (L.map (·.1)) (L.map fun p => (p.2.length : Int)) next (n : Int) ids sz n (some a) (some b) (some m) (some d)) (fun j92 hj => ?_) ?_
          · have a0 := AP.init (nid := next) (z := (n : Int)) (n := n) w7
            repeat' first
              | exact hj _ _ ⟨_, _, _, _, rfl, ‹_›⟩
              | refine w_both ?_ ?_
              | refine AP.stepA ‹_› hI fun _ _ _ => ?_
              | refine AP.stepB ‹_› hZ fun _ _ _ => ?_
              | refine AP.stepM ‹_› (by omega) rfl rfl fun _ _ _ => ?_
              | refine AP.stepN ‹_› fun _ _ _ => ?_
          · rintro _ h8 ⟨a, b, m, d, rfl, ap⟩
            have hbl := w7.blen
            rw [List.length_map] at hbl
            refine ap.done w7 (fun c q => ?_) (by omega) fun wt' h9 w9 b9 d9 => hj14 _ _ ⟨P4, L ++ [(next, List.replicate n 0)], next + 1, bs ++ [m], ?_, ?_, ?_, ?_, fun p hp => ?_⟩
            · rcases x7.hasP q with z | z <;> exact z.has
            · refine x7.other b9 fun c q _ => ?_
              rcases q with q | q | q
              · exact ⟨x7.not (w7.cids.typed c q) (by decide), (w7.ip c q).1⟩
              · exact ⟨x7.not (w7.szs.typed c q) (by decide), (w7.zp c q).1⟩
              · exact ⟨x7.not (w7.wts.typed c q) (by decide), x7.notP (w7.wts.typed c q) (by decide)⟩
            · simp only [List.map_append, List.map_cons, List.map_nil, List.length_replicate]
              exact w9
            · show next < next + 1; omega
            · omega
            · rcases List.mem_append.1 hp with z | z
              · exact hsz3 p z
              · obtain rfl := List.mem_singleton.1 z
                show (List.replicate n (0 : UInt8)).length ≤ 1023
                rw [List.length_replicate]; exact hn1
        · refine w_ifF (decide_eq_false e0) (hj14 _ _ ⟨P4, L, next, bs, ?_, ?_, hlast, by omega, hsz3⟩)
          · rw [e4, e5] at x5; exact x5
          · exact w5
      clear x3 w3 hp4 c4 cs x4 lw4 eS eQ em w4 w5 x5 eA hmost hused lw hil hlast hnext hsz3
      rintro ⟨ids, sz, wt, last⟩ h6 ⟨P, L, next, bs, x6, w6, hlast, hnext, hsz6⟩
      have hlast : last < next := hlast
      have w6 : JW h h6 P (L.map (·.1)) (L.map fun p => (p.2.length : Int)) (L.map (·.2)) ids sz wt bs := w6
      have lw := x6.law
      have hil := w6.cids.arr.len
      rw [List.length_map] at hil
      dsimp only
      refine w_if' (fun c0 => ?_) fun c0 => ?_
      · rw [ia1 j (by omega)]
        exact more _ _ hjl ⟨rfl, P, L, next, bs, x6, w6, hlast, by omega, hsz6⟩
      have hL0 : 0 < L.length := by omega
      have hkl : n3 % L.length < L.length := Nat.mod_lt _ hL0
      refine fOff w6.k0 ⟨c0, fOff w6.k0 ?_⟩
      rw [hil, en3, en2, ir n3 L.length]
      generalize n3 % L.length = k at hkl
      obtain ⟨id, v, ekv⟩ : ∃ id v, L[k]? = some (id, v) := ⟨L[k].1, L[k].2, List.getElem?_eq_getElem hkl⟩
      have e_ids : (L.map (·.1))[k]? = some id := by rw [List.getElem?_map, ekv]; rfl
      have e_sz : (L.map fun p => (p.2.length : Int))[k]? = some (v.length : Int) := by rw [List.getElem?_map, ekv]; rfl
      have e_v : (L.map (·.2))[k]? = some v := by rw [List.getElem?_map, ekv]; rfl
      have hv := lw.sizes (id, v) (List.mem_of_getElem? ekv)
      have hv : v.length ≤ 4096 := hv
      have nd := nodup_of lw.rising
      have hlk : alook L id = some v := Once.look nd (List.mem_of_getElem? ekv)
      have hbl := w6.blen
      rw [List.length_map] at hbl
      obtain ⟨b, e_b⟩ : ∃ b, bs[k]? = some b := ⟨bs[k], List.getElem?_eq_getElem (by omega)⟩
      have hdl : o.Data.len = ds.length := ard.len
      refine w_idx ci_len w6.cids.arr e_ids rfl fun a19 _ g19 => w_idx life_len (ar.keep w6.k0) eo rfl fun a20 _ g20 => w_load g19 (w_load (v := o.Data) (At.sub (l1 := [.int .i64 o.Size, .int .i64 o.Off]) (l2 := cSl o.Data) (l3 := [.bool o.Gone]) g20 rfl) ?_)
      refine t_SWriteX x6 (off := (n2 : Int)) (ard.keep w6.k0) (fun ne c f q => ?_) hlk fun r23 h7 ds' x7 c7 cs7 => ?_
      · obtain ⟨a, ha, at_⟩ := ard.at_ ne
        obtain ⟨_, hz⟩ := at_.ex
        obtain ⟨a', ha', rfl⟩ := f
        rw [ha] at ha'; cases ha'
        rw [f0 _ q] at hz; cases hz
      rw [Int.toNat_natCast] at x7
      have w7 := w6.chg x6 f0 c7 fun c q => .inl q
      refine w_idx life_len (ar.keep w7.k0) eo rfl fun a24 _ g24 => w_idx ci_len w7.szs.arr e_sz rfl fun a25 _ g25 => w_load (v := o.Data) (At.sub (l1 := [.int .i64 o.Size, .int .i64 o.Off]) (l2 := cSl o.Data) (l3 := [.bool o.Gone]) g24 rfl) (w_load g25 ?_)
      have hin : inR v.length (n2 : Int) (ds.length : Int) ↔ ds.length ≤ 1024 ∧ n2 + ds.length ≤ v.length := by unfold inR; omega
      refine w_joinV (decide (ds.length ≤ 1024 ∧ n2 + ds.length ≤ v.length)) (fun j31 hj31 => ?_) (w_ifF ?_ ?_)
      · rw [hdl]
        by_cases q : ds.length ≤ 1024
        · rw [ia n2 ds.length (by omega)]
          refine w_if' (fun z => fData w7.k0 ?_) fun z => ?_
          · rw [hdl]
            rw [decide_eq_true (by omega : ds.length ≤ 1024 ∧ n2 + ds.length ≤ v.length)] at hj31
            rw [decide_eq_true (by omega)]; exact hj31
          · rw [decide_eq_false (by omega : ¬ (ds.length ≤ 1024 ∧ n2 + ds.length ≤ v.length))] at hj31
            exact hj31
        · rw [decide_eq_false (fun z => q z.1)] at hj31
          refine w_if (fun _ => fData w7.k0 ?_) fun _ => hj31
          rw [hdl, decide_eq_false (by omega)]; exact hj31
      · rcases cs7 with ⟨rfl, q, _⟩ | ⟨rfl, q, _⟩
        · rw [decide_eq_true (hin.1 q)]; rfl
        · rw [decide_eq_false fun z => q (hin.2 z)]; rfl
      have hfit : ds' = [] ∨ n2 + ds'.length ≤ v.length := by
        rcases cs7 with ⟨_, q, rfl⟩ | ⟨_, _, q⟩
        · exact .inr (hin.1 q).2
        · exact .inl q
      have elen := over_len' hfit
      refine w_for ds'.length (fun q z h8 => z = (q : Int) ∧ SAt h8 s F P 8 32 next (wrL L id n2 ds') ∧ JW h h8 P (L.map (·.1)) (L.map fun p => (p.2.length : Int)) ((L.map (·.2)).set k (over v n2 (ds'.take q))) ids sz wt bs) ?_ ⟨rfl, x7, by rw [List.take_zero, over_nil, set_same e_v]; exact w7⟩
      rintro rec33 q _ h8 hq ⟨rfl, x8, w8⟩ more33
      refine w_joinV (decide (q < ds'.length)) (fun j37 hj37 => ?_) (w_if' (fun z => ?_) fun z => ?_)
      · rcases cs7 with ⟨rfl, _, rfl⟩ | ⟨rfl, _, rfl⟩
        · refine w_ifT rfl (fData w8.k0 ?_)
          rw [hdl, show decide ((q : Int) < ((ds'.length : Nat) : Int)) = decide (q < ds'.length) from decide_eq_decide.2 (by omega)]; exact hj37
        · refine w_ifF rfl ?_
          rw [decide_eq_false (by simp)] at hj37
          exact hj37
      · have hdd : ds' = ds := by
          rcases cs7 with ⟨_, _, e⟩ | ⟨_, _, e⟩
          · exact e
          · rw [e] at z; cases z
        have hf2 : n2 + ds.length ≤ v.length := by
          rcases hfit with e | e
          · rw [e] at z; cases z
          · rw [← hdd]; exact e
        subst hdd
        have hkb : k < (L.map (·.2)).length := by rw [List.length_map]; exact hkl
        have ev8 : ((L.map (·.2)).set k (over v n2 (ds'.take q)))[k]? = some (over v n2 (ds'.take q)) := by rw [List.getElem?_set, if_pos rfl, if_pos hkb]
        have hol : (over v n2 (ds'.take q)).length = v.length := over_len (by rw [List.length_take]; omega)
        refine w_idx cs_len w8.wts.arr e_b rfl fun a38 _ g38 => w_idx life_len (ar.keep w8.k0) eo rfl fun a39 _ g39 => w_load g38 (w_load (v := o.Data) (At.sub (l1 := [.int .i64 o.Size, .int .i64 o.Off]) (l2 := cSl o.Data) (l3 := [.bool o.Gone]) g39 rfl) (w_get u8_len (ard.keep w8.k0) (List.getElem?_eq_getElem z) rfl (v' := (ds'[q].toNat : Int)) rfl ?_))
        rw [ia n2 q (by omega)]
        have bu8 := w8.each k b _ e_b ev8
        refine w_put u8_len bu8 (i := n2 + q) (by rw [hol]; omega) rfl ds'[q] rfl fun h9 b9 k9 d9 => ?_
        rw [ia1 q (by omega)]
        refine more33 _ _ z ⟨rfl, x8.other k9 fun c f _ => ⟨x8.not (bu8.typed f) (by decide), x8.notP (bu8.typed f) (by decide)⟩, ?_⟩
        have := w8.wrote e_b b9 k9
        rw [List.set_set, ← over_step z hf2] at this
        exact this
      obtain rfl : q = ds'.length := by omega
      rw [List.take_length] at w8
      have eL7 := wr_vals (off := n2) (d := ds') nd ekv
      have w9 : JW h h8 P ((wrL L id n2 ds').map (·.1)) ((wrL L id n2 ds').map fun p => (p.2.length : Int)) ((wrL L id n2 ds').map (·.2)) ids sz wt bs := by
        rw [eL7, List.map_set, List.map_set, List.map_set]
        show JW h h8 P ((L.map (·.1)).set k id) ((L.map fun p => (p.2.length : Int)).set k ((over v n2 ds').length : Int)) ((L.map (·.2)).set k (over v n2 ds')) ids sz wt bs
        rw [elen, set_same e_ids, set_same e_sz]
        exact w8
      have ekv7 : (wrL L id n2 ds')[k]? = some (id, over v n2 ds') := by rw [eL7, List.getElem?_set, if_pos rfl, if_pos hkl]
      have hsz : ∀ p ∈ wrL L id n2 ds', p.2.length ≤ 1023 := fun p hp => by
        rw [eL7] at hp
        rcases List.mem_or_eq_of_mem_set hp with z | z
        · exact hsz6 p z
        · rw [z]
          show (over v n2 ds').length ≤ 1023
          rw [elen]; exact hsz6 (id, v) (List.mem_of_getElem? ekv)
      have hL7 : (wrL L id n2 ds').length = L.length := by unfold wrL; rw [List.length_map]
      clear more33 rec33 hq x7 c7 cs7 w7 w8 hfit elen eL7 w6 x6 hin e_ids e_sz e_v hv hlk g19 g20 g24 g25 z nd ekv
      generalize wrL L id n2 ds' = L7 at x8 w9 ekv7 hL7 hsz
      generalize over v n2 ds' = v7 at ekv7
      have lw7 := x8.law
      have nd7 := nodup_of lw7.rising
      refine w_for L7.length (fun q z h9 => z = (q : Int) ∧ Keeps h8 h9) ?_ ⟨rfl, .refl _⟩
      rintro rec46 q _ h9 hq ⟨rfl, k9⟩ more46
      have x10 := x8.keep k9
      have w10 := w9.keep k9
      refine w_if' (fun z => ?_) fun z => ?_
      · have hql : q < L7.length := by omega
        obtain ⟨id', v', e'⟩ : ∃ id v, L7[q]? = some (id, v) := ⟨L7[q].1, L7[q].2, List.getElem?_eq_getElem hql⟩
        have e1 : (L7.map (·.1))[q]? = some id' := by rw [List.getElem?_map, e']; rfl
        have e2 : (L7.map fun p => (p.2.length : Int))[q]? = some (v'.length : Int) := by rw [List.getElem?_map, e']; rfl
        have e3 : (L7.map (·.2))[q]? = some v' := by rw [List.getElem?_map, e']; rfl
        have hlk' : alook L7 id' = some v' := Once.look nd7 (List.mem_of_getElem? e')
        obtain ⟨b', e4⟩ : ∃ b, bs[q]? = some b := ⟨bs[q], List.getElem?_eq_getElem (by omega)⟩
        have hv' : v'.length ≤ 1023 := hsz _ (List.mem_of_getElem? e')
        refine w_idx ci_len w10.cids.arr e1 rfl fun a47 _ g47 => w_idx ci_len w10.szs.arr e2 rfl fun a48 _ g48 => w_load g47 (w_load g48 ?_)
        refine t_SRead x10 (fun e => by rw [hlk'] at e; cases e) (fun bs' e r => ?_) fun bs' e r sr h11 br kr fr => ?_
        · rw [hlk'] at e; cases e
          refine absurd ?_ r
          unfold inR; omega
        rw [hlk'] at e; cases e
        rw [Int.toNat_natCast, show ((0 : Int).toNat) = 0 from rfl, List.drop_zero, List.take_length] at br
        have w11 := w10.keep kr
        refine w_joinV false (fun jj hjj => w_ifF rfl (w_get cs_len w11.wts.arr e4 rfl (v' := b') rfl (t_same07 br.arr (w11.each q b' v' e4 e3).arr ?_))) (w_ifF rfl ?_)
        · rw [decide_eq_true rfl]; exact hjj
        · rw [ia1 q (by have := lw7.most; omega)]
          exact more46 _ _ hql ⟨rfl, k9.trans kr⟩
      · clear more46 rec46
        have hk7 : k < L7.length := by omega
        refine fGone w10.k0 (w_if (fun gn => ?_) fun gn => ?_)
        · have e1 : (L7.map (·.1))[k]? = some id := by rw [List.getElem?_map, ekv7]; rfl
          have hlk' : alook L7 id = some v7 := Once.look nd7 (List.mem_of_getElem? ekv7)
          refine w_get ci_len w10.cids.arr e1 rfl (v' := id) rfl (t_SDestroy x10 (fun e => by rw [hlk'] at e; cases e) fun bs' e h11 P11 x11 hp c11 => ?_)
          have w11 := w10.chg x10 f0 c11 fun c q => .inl (hp c q)
          refine w_joinV false (fun jj hjj => w_ifF rfl (w_get ci_len w11.cids.arr e1 rfl (v' := id) rfl (t_SDestroy x11 (fun _ => ?_) fun bs' e => by rw [del_none] at e; cases e))) (w_ifF rfl ?_)
          · exact hjj
          refine w11.drop (K := fun a b c => rec (a, b, c, last, iAdd .i64 (j : Int) 1)) (fun c q => ?_) (k := k) (by omega) (by rw [List.length_map]; omega) (by rw [List.length_map]; omega) (by have := lw7.most; omega) rfl (ia1 k (by have := lw7.most; omega)) (by rw [hil]) fun ids' sz' wt' h12 w12 b12 d12 => ?_
          · rcases x11.hasP q with z | z <;> exact z.has
          rw [ia1 j (by omega)]
          have ed := del_erase nd7 ekv7
          refine more _ _ hjl ⟨rfl, P11, delL L7 id, next, bs.eraseIdx k, ?_, ?_, hlast, by omega, fun p hp => hsz p (List.mem_filter.1 hp).1⟩
          · refine x11.other b12 fun c q _ => ?_
            rcases q with q | q | q
            · exact ⟨x11.not (w11.cids.typed c q) (by decide), (w11.ip c q).1⟩
            · exact ⟨x11.not (w11.szs.typed c q) (by decide), (w11.zp c q).1⟩
            · exact ⟨x11.not (w11.wts.typed c q) (by decide), x11.notP (w11.wts.typed c q) (by decide)⟩
          · rw [ed, map_eraseIdx, map_eraseIdx, map_eraseIdx]
            exact w12
        · rw [ia1 j (by omega)]
          exact more _ _ hjl ⟨rfl, P, L7, next, bs, x10, w10, hlast, by omega, hsz⟩
  · have c : ¬ (j : Int) < (s0.len : Int) := c
    have hF : ∀ c, ids.foot c → ¬ F c := fun c f => x3.not (w3.cids.typed c f) (by decide)
    refine w_for L.length (fun q z h' => ∃ P' L', SAt h' s F P' 8 32 next L' ∧ Arr (cInt .i64) h' z (L'.map (·.1)) ∧ L'.length + q = L.length ∧ Keeps h h' ∧ ∀ c, z.foot c → ¬ F c) ?_ ⟨P, L, x3, w3.cids.arr, rfl, w3.k0, hF⟩
    clear x3 w3 lw hlast hnext hF hsz3
    rintro rec1 q z h4 hq ⟨P', L', x4, a4, hl4, k4, f4⟩ more1
    have hzl := a4.len
    rw [List.length_map] at hzl
    refine w_if' (fun c1 => ?_) fun c1 => ?_
    · have hpos : 0 < L'.length := by omega
      obtain ⟨id, v, ekv⟩ : ∃ id v, L'[0]? = some (id, v) := ⟨L'[0].1, L'[0].2, List.getElem?_eq_getElem hpos⟩
      have nd := nodup_of x4.law.rising
      have hlk : alook L' id = some v := Once.look nd (List.mem_of_getElem? ekv)
      refine w_get ci_len a4 (i := 0) (v := id) (by rw [List.getElem?_map, ekv]; rfl) rfl (v' := id) rfl (t_SDestroy x4 (fun e => by rw [hlk] at e; cases e) fun bs' e h5 P5 x5 hp c5 => w_ifF rfl ?_)
      have a5 := a4.but c5.but fun _ a ha f => f4 _ ⟨a, ha, rfl⟩ f
      refine w_mid ci_len a5 (lo := 1) (hi := L'.length) (by omega) (by rw [List.length_map]; exact Nat.le_refl _) rfl (by rw [hzl]) fun s' a' fs _ _ => ?_
      refine more1 _ _ (by omega) ⟨P5, delL L' id, x5, ?_, ?_, k4.but c5.but f0, fun c f => f4 c (fs c f)⟩
      · rw [del_erase nd ekv, map_eraseIdx]
        have : ((L'.map (·.1)).drop 1).take (L'.length - 1) = (L'.map (·.1)).eraseIdx 0 := by
          rw [List.eraseIdx_zero, List.drop_one, List.take_of_length_le (by rw [List.length_tail, List.length_map]; exact Nat.le_refl _)]
        rw [← this]; exact a'
      · rw [del_erase nd ekv, List.length_eraseIdx, if_pos hpos]; omega
    · have hL' : L' = [] := List.length_eq_zero_iff.1 (by omega)
      subst hL'
      refine t_SFree x4 fun h5 k5 => w_ifT rfl (t_SIds (x4.keep k5) fun sl h6 b6 k6 _ => ?_)
      have := b6.len
      rw [decide_eq_true (by rw [this]; rfl)]
      exact y _ ((k4.trans k5).trans k6)
end
end Go.Proofs.Yteeaelemfalkbaa.K
