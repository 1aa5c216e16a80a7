/- revokeRest: true at every input, the arguments as they were: no condition. Part 7 of 7. -/
import Derived.Test.YtcclfjhnpeappaaGreatZD6
namespace Go.Proofs.YtcclfjhnpeappaaGreat.K
open Go
structure RCore (h : H) (q : Nat) (G : Nat → Prop) (objs : Int) (np : Nat) (next : Int) (L : List (Int × List UInt8)) (sl : Sl) (items : List S_ref07_Object) : Prop where
  cell : h q = some (.cells (S_ref07_Store.cells ⟨objs, (np : Int), sl, next⟩).toArray N_ref07_Store (0, 0))
  buf : Buf S_ref07_Object.cells 2 N_ref07_Object h sl items
  len : items.length = L.length
  each : ∀ (i : Nat) (x : S_ref07_Object) (y : Int × List UInt8), items[i]? = some x → L[i]? = some y → x.Id = y.1 ∧ Buf cU8 1 N_u8 h x.B y.2
  apart : ∀ (i j : Nat) (x y : S_ref07_Object), i ≠ j → items[i]? = some x → items[j]? = some y → ∀ c, x.B.foot c → ¬ y.B.foot c
  gq : G q
  gs : ∀ c, sl.foot c → G c
  gb : ∀ x ∈ items, ∀ c, x.B.foot c → G c
  has : ∀ c, G c → h c ≠ none
def SRAt (h : H) (q : Nat) (G : Nat → Prop) (objs : Int) (np : Nat) (next : Int) (L : List (Int × List UInt8)) : Prop := ∃ sl items, RCore h q G objs np next L sl items
theorem ob_len7 : ∀ x : S_ref07_Object, (S_ref07_Object.cells x).length = 2 := fun _ => rfl
theorem ob_plain7 : ∀ x : S_ref07_Object, (S_ref07_Object.cells x).all plainVal = true := fun _ => rfl
theorem aidx_at {id : Int} {v : List UInt8} : ∀ {L : List (Int × List UInt8)} {j : Nat}, (∀ p ∈ L.take j, p.1 ≠ id) → L[j]? = some (id, v) → aidx L id = some (j, v) := by
  intro L
  induction L with
  | nil => intro j _ h; simp at h
  | cons p r ih =>
    intro j hn h
    cases j with
    | zero =>
      have h : p = (id, v) := by simpa using h
      subst h
      rw [aidx_cons, if_pos rfl]
    | succ j =>
      have h : r[j]? = some (id, v) := by simpa using h
      have h0 := hn p (by rw [List.take_succ_cons]; exact List.mem_cons_self ..)
      rw [show (p :: r) = ((p.1, p.2) :: r) from rfl, aidx_cons, if_neg (Ne.symm h0), ih (fun q hq => hn q (by rw [List.take_succ_cons]; exact List.mem_cons_of_mem _ hq)) h]
      rfl
theorem aidx_no {id : Int} : ∀ {L : List (Int × List UInt8)}, (∀ p ∈ L, p.1 ≠ id) → aidx L id = none := by
  intro L
  induction L with
  | nil => intro _; rfl
  | cons p r ih =>
    intro hn
    rw [show (p :: r) = ((p.1, p.2) :: r) from rfl, aidx_cons, if_neg (Ne.symm (hn p (List.mem_cons_self ..))), ih fun q hq => hn q (List.mem_cons_of_mem _ hq)]
    rfl
section
variable {m : Int} {h : H} {q : Nat} {G : Nat → Prop} {objs : Int} {np : Nat} {next : Int} {L : List (Int × List UInt8)} {sl : Sl} {items : List S_ref07_Object}
theorem RCore.keep (x : RCore h q G objs np next L sl items) {h' : H} (k : Keeps h h') : RCore h' q G objs np next L sl items :=
  ⟨k _ _ x.cell, x.buf.keep k, x.len, fun i a b e1 e2 => ⟨(x.each i a b e1 e2).1, (x.each i a b e1 e2).2.keep k⟩, x.apart, x.gq, x.gs, x.gb, fun c g e => x.has c g (k.fresh e)⟩
theorem RCore.other (x : RCore h q G objs np next L sl items) {h' : H} {F : Nat → Prop} (k : But F h h') (f : ∀ c, F c → h c ≠ none → ¬ G c) : RCore h' q G objs np next L sl items := by
  have k' : But G h h → But (fun c => F c ∧ h c ≠ none) h h' := fun _ c o e nf => k c o e fun z => nf ⟨z, by rw [e]; simp⟩
  have k' := k' (.refl _ _)
  have no : ∀ c, G c → ¬ (F c ∧ h c ≠ none) := fun c g z => f c z.1 z.2 g
  refine ⟨k' _ _ x.cell (no _ x.gq), x.buf.but k' fun a ha => no _ (x.gs _ ⟨a, ha, rfl⟩), x.len, fun i a b e1 e2 => ⟨(x.each i a b e1 e2).1, (x.each i a b e1 e2).2.but k' fun d hd => no _ (x.gb _ (List.mem_of_getElem? e1) _ ⟨d, hd, rfl⟩)⟩, x.apart, x.gq, x.gs, x.gb, fun c g e => ?_⟩
  cases z : h c with
  | none => exact x.has c g z
  | some o => rw [k' c o z (no c g)] at e; cases e
theorem SRAt.other (x : SRAt h q G objs np next L) {h' : H} {F : Nat → Prop} (k : But F h h') (f : ∀ c, F c → h c ≠ none → ¬ G c) : SRAt h' q G objs np next L := by
  obtain ⟨a, b, y⟩ := x; exact ⟨a, b, y.other k f⟩
theorem SRAt.has (x : SRAt h q G objs np next L) {c : Nat} (g : G c) : h c ≠ none := by
  obtain ⟨a, b, y⟩ := x; exact y.has c g
theorem RCore.f0 (x : RCore h q G objs np next L sl items) : At h ((⟨q, 0, none⟩ : Addr).add 0) (cInt .i64 objs) := At.own (l1 := []) (l3 := (S_ref07_Store.cells ⟨objs, (np : Int), sl, next⟩).drop 1) x.cell rfl
theorem RCore.f1 (x : RCore h q G objs np next L sl items) : At h ((⟨q, 0, none⟩ : Addr).add 1) (cInt .i64 (np : Int)) := At.own (l1 := (S_ref07_Store.cells ⟨objs, (np : Int), sl, next⟩).take 1) (l3 := (S_ref07_Store.cells ⟨objs, (np : Int), sl, next⟩).drop 2) x.cell rfl
theorem RCore.f2 (x : RCore h q G objs np next L sl items) : At h ((⟨q, 0, none⟩ : Addr).add 2) (cSl sl) := At.own (l1 := (S_ref07_Store.cells ⟨objs, (np : Int), sl, next⟩).take 2) (l3 := (S_ref07_Store.cells ⟨objs, (np : Int), sl, next⟩).drop 3) x.cell rfl
theorem RCore.f3 (x : RCore h q G objs np next L sl items) : At h ((⟨q, 0, none⟩ : Addr).add 3) (cInt .i64 next) := At.own (l1 := (S_ref07_Store.cells ⟨objs, (np : Int), sl, next⟩).take 3) (l3 := []) x.cell rfl
theorem RCore.slen (x : RCore h q G objs np next L sl items) : sl.len = L.length := by have := x.buf.len; have := x.len; omega
theorem RCore.item (x : RCore h q G objs np next L sl items) {i : Nat} {id : Int} {v : List UInt8} (e : L[i]? = some (id, v)) : ∃ b, items[i]? = some ⟨id, b⟩ ∧ Buf cU8 1 N_u8 h b v := by
  have hlt := lt_of_get e
  rw [← x.len] at hlt
  have e1 : items[i]? = some items[i] := List.getElem?_eq_getElem hlt
  obtain ⟨h1, h2⟩ := x.each i _ _ e1 e
  generalize items[i] = it at e1 h1 h2
  obtain ⟨a, b⟩ := it
  have h1 : a = id := h1
  subst h1
  exact ⟨b, e1, h2⟩
theorem RCore.id_ (x : RCore h q G objs np next L sl items) {i : Nat} {id : Int} {v : List UInt8} (e : L[i]? = some (id, v)) {j : Int} (hj : j = i) {k : Int → H → Prop} (y : k id h) : mIdx sl j 2 (fun a => mLoad (cInt .i64) (a.add 0) k) h := by
  obtain ⟨b, e1, _⟩ := x.item e
  exact w_field ob_len7 x.buf.arr e1 hj (l1 := []) (l3 := [Sl.val b]) rfl rfl y
theorem RCore.b_ (x : RCore h q G objs np next L sl items) {i : Nat} {id : Int} {v : List UInt8} (e : L[i]? = some (id, v)) {j : Int} (hj : j = i) {k : Sl → H → Prop} (y : ∀ b, items[i]? = some ⟨id, b⟩ → Buf cU8 1 N_u8 h b v → k b h) : mIdx sl j 2 (fun a => mLoad cSl (a.add 1) k) h := by
  obtain ⟨b, e1, bu⟩ := x.item e
  exact w_field ob_len7 x.buf.arr e1 hj (l1 := [.int .i64 id]) (l3 := []) rfl rfl (y b e1 bu)
def atN (L : List (Int × List UInt8)) (id : Int) : Int := match aidx L id with
  | none => -1
  | some (i, _) => (i : Int)
theorem t_Rat (x : RCore h q G objs np next L sl items) (hn : L.length ≤ 64) {id : Int} {K : Int → H → Prop} (y : K (atN L id) h) : m_ref07_Store_at (some ⟨q, 0, none⟩) id K h := by
  unfold m_ref07_Store_at
  have hl := x.slen
  refine w_for L.length (fun j z h' => z = (j : Int) ∧ h = h' ∧ ∀ p ∈ L.take j, p.1 ≠ id) ?_ ⟨rfl, rfl, by simp⟩
  rintro rec j _ _ hj ⟨rfl, rfl, hno⟩ more
  refine w_deref (w_load x.f2 (w_if' (fun c => ?_) fun c => ?_))
  · have hjl : j < L.length := by omega
    obtain ⟨i, v, e⟩ : ∃ i v, L[j]? = some (i, v) := ⟨L[j].1, L[j].2, List.getElem?_eq_getElem hjl⟩
    refine w_deref (w_load x.f2 (x.id_ e rfl (w_if' (fun d => ?_) fun d => ?_)))
    · have d : i = id := d
      subst d
      unfold atN at y
      rw [aidx_at hno e] at y
      exact y
    · rw [ia1 j (by omega)]
      refine more _ _ hjl ⟨rfl, rfl, fun p hp => ?_⟩
      rw [List.take_add_one, e, Option.toList_some] at hp
      rcases List.mem_append.1 hp with z | z
      · exact hno p z
      · obtain rfl := List.mem_singleton.1 z
        exact d
  · obtain rfl : j = L.length := by omega
    rw [List.take_length] at hno
    unfold atN at y
    rw [aidx_no hno] at y
    exact y
theorem at_cases (L : List (Int × List UInt8)) (id : Int) : (alook L id = none ∧ atN L id = -1) ∨ ∃ (i : Nat) (v : List UInt8), alook L id = some v ∧ atN L id = (i : Int) ∧ L[i]? = some (id, v) := by
  unfold alook atN
  cases e : aidx L id with
  | none => exact .inl ⟨rfl, rfl⟩
  | some p => exact .inr ⟨p.1, p.2, rfl, rfl, aidx_some e⟩
theorem t_RFree (x : SRAt h q G objs np next L) (lw : SLaw m np next L) {K : Int → H → Prop} (y : K ((np - usedS L : Nat) : Int) h) : m_ref07_Store_Free (some ⟨q, 0, none⟩) K h := by
  obtain ⟨sl, items, x⟩ := x
  have hl := x.slen
  have h1 := lw.most
  have h2 := lw.used
  have h3 := lw.np
  unfold m_ref07_Store_Free
  refine w_deref (w_load x.f1 (w_for L.length (fun j z h' => z = (((np - usedS (L.take j) : Nat) : Int), (j : Int)) ∧ h = h') ?_ ⟨by simp [usedS], rfl⟩))
  rintro rec j _ _ hj ⟨rfl, rfl⟩ more
  refine w_deref (w_load x.f2 (w_if' (fun c => ?_) fun c => ?_))
  · have c : (j : Int) < (sl.len : Int) := c
    have hjl : j < L.length := by omega
    have e : L[j]? = some (L[j].1, L[j].2) := List.getElem?_eq_getElem hjl
    refine w_deref (w_load x.f2 (x.b_ e rfl fun b _ bu => ?_))
    have h4 := lw.sizes L[j] (List.getElem_mem hjl)
    have h5 := used_take hjl
    have h6 := used_le L (j + 1)
    have e63 : iAdd .i64 (L[j].2.length : Int) 63 = ((L[j].2.length + 63 : Nat) : Int) := ia _ 63 (by omega)
    rw [bu.len, e63]
    have e2 := iq (L[j].2.length + 63) 64 (by omega)
    rw [show ((64 : Nat) : Int) = 64 from rfl] at e2
    rw [e2]
    show rec (iSub .i64 ((np - usedS (L.take j) : Nat) : Int) _, iAdd .i64 (j : Int) 1) h
    rw [is_ _ _ (by omega) (by omega), ia1 j (by omega)]
    refine more _ _ hjl ⟨?_, rfl⟩
    rw [h5, Nat.sub_add_eq]
  · have c : ¬ (j : Int) < (sl.len : Int) := c
    obtain rfl : j = L.length := by omega
    rw [List.take_length]; exact y
theorem t_SRMay (x : SRAt h q G objs np next L) (lw : SLaw m np next L) {size : Int} {K : Int → H → Prop} (y : K (mayE objs next L.length (np - usedS L) size) h) : m_ref07_Store_May (some ⟨q, 0, none⟩) size K h := by
  obtain ⟨sl, items, x⟩ := x
  have hl := x.slen
  unfold m_ref07_Store_May
  unfold mayE at y
  refine w_if (fun c => ?_) fun c => ?_
  · have c : size < 0 ∨ 4096 < size := by simpa using c
    rw [if_pos c] at y
    exact y
  have c : ¬ (size < 0 ∨ 4096 < size) := by simpa using c
  rw [if_neg c] at y
  refine w_deref (w_deref (w_load x.f2 (w_load x.f0 (w_joinV (decide (objs ≤ (L.length : Int) ∨ 4611686018427387904 < next)) (fun j hj => ?_) ?_))))
  · rw [hl]
    refine w_if' (fun d => ?_) fun d => w_deref (w_load x.f3 ?_)
    · rw [decide_eq_true (.inl d)] at hj; exact hj
    · have e : (objs ≤ (L.length : Int) ∨ 4611686018427387904 < next) ↔ 4611686018427387904 < next := ⟨fun q => q.resolve_left d, .inr⟩
      rw [decide_eq_decide.2 e] at hj; exact hj
  refine w_if' (fun d => ?_) fun d => ?_
  · rw [if_pos d] at y
    exact y
  rw [if_neg d] at y
  have es : size = ((size.toNat : Nat) : Int) := by omega
  generalize size.toNat = n at es y
  subst es
  refine t_RFree ⟨sl, items, x⟩ lw ?_
  have e63 : iAdd .i64 (n : Int) 63 = ((n + 63 : Nat) : Int) := ia n 63 (by omega)
  rw [e63]
  have e2 := iq (n + 63) 64 (by omega)
  rw [show ((64 : Nat) : Int) = 64 from rfl] at e2
  rw [e2]
  refine w_if' (fun e => ?_) fun e => ?_
  · rw [if_pos (by omega)] at y; exact y
  · rw [if_neg (by omega)] at y; exact y
theorem t_RSize (x : SRAt h q G objs np next L) (lw : SLaw m np next L) {id : Int} {K : Int × Bool → H → Prop} (y : K ((((alook L id).map (·.length)).getD 0 : Nat), (alook L id).isSome) h) : m_ref07_Store_Size (some ⟨q, 0, none⟩) id K h := by
  obtain ⟨sl, items, x⟩ := x
  unfold m_ref07_Store_Size
  refine t_Rat x (by have := lw.most; omega) ?_
  rcases at_cases L id with ⟨e1, e2⟩ | ⟨i, v, e1, e2, e3⟩
  · rw [e2]; rw [e1] at y
    exact w_ifT (by decide) y
  · rw [e2]; rw [e1] at y
    refine w_ifF (decide_eq_false (by omega)) (w_deref (w_load x.f2 (x.b_ e3 rfl fun b _ bu => ?_)))
    rw [bu.len]; exact y
theorem w_within {off n : Int} {sz : Nat} (hs : sz ≤ 4096) {k : Bool → H → Prop} (y : k (decide (inRg sz off n)) h) : mPure (m_ref07_within off n (sz : Int)) k h := by
  refine w_pure (decide (inRg sz off n)) (fun h' k' z => ?_) y
  unfold m_ref07_within
  have e : (((((decide (0 ≤ off)) && (decide (0 ≤ n))) && (decide (n ≤ 1024))) && (decide (off ≤ (sz : Int)))) && (decide (n ≤ (iSub .i64 (sz : Int) off)))) = decide (inRg sz off n) := by
    rw [Bool.eq_iff_iff]
    simp only [Bool.and_eq_true, decide_eq_true_eq]
    unfold inRg
    constructor
    · rintro ⟨⟨⟨⟨h1, h2⟩, h3⟩, h4⟩, h5⟩
      rw [iSub_eq (by omega) (by omega)] at h5
      exact ⟨h1, h2, h3, h4, h5⟩
    · rintro ⟨h1, h2, h3, h4, h5⟩
      rw [iSub_eq (by omega) (by omega)]
      exact ⟨⟨⟨⟨h1, h2⟩, h3⟩, h4⟩, h5⟩
  rw [e]; exact z
theorem t_RRead (x : SRAt h q G objs np next L) (lw : SLaw m np next L) {id off n : Int} {K : Sl × Int → H → Prop} (no : alook L id = none → K (Sl.nil, 20) h) (bad : ∀ bs, alook L id = some bs → ¬ inRg bs.length off n → K (Sl.nil, 5) h)
    (good : ∀ bs, alook L id = some bs → inRg bs.length off n → ∀ sl h', Buf cU8 1 N_u8 h' sl ((bs.drop off.toNat).take n.toNat) → Keeps h h' → (∀ c, sl.foot c → h c = none) → K (sl, 0) h') : m_ref07_Store_Read (some ⟨q, 0, none⟩) id off n K h := by
  obtain ⟨sl, items, x⟩ := x
  unfold m_ref07_Store_Read
  refine t_Rat x (by have := lw.most; omega) ?_
  rcases at_cases L id with ⟨e1, e2⟩ | ⟨i, v, e1, e2, e3⟩
  · rw [e2]
    exact w_ifT (by decide) (no e1)
  · rw [e2]
    have hv : v.length ≤ 4096 := lw.sizes (id, v) (List.mem_of_getElem? e3)
    refine w_ifF (decide_eq_false (by omega)) (w_deref (w_load x.f2 (x.b_ e3 rfl fun b _ bu => ?_)))
    rw [bu.len]
    refine w_within hv (w_if (fun c => ?_) fun c => ?_)
    · rw [Bool.not_eq_true', decide_eq_false_iff_not] at c
      exact bad v e1 c
    · rw [Bool.not_eq_false', decide_eq_true_eq] at c
      have good' := good v e1 c
      unfold inRg at c
      refine w_deref (w_load x.f2 (x.b_ e3 rfl fun b2 _ bu2 => ?_))
      have eo : off = ((off.toNat : Nat) : Int) := by omega
      have en : n = ((n.toNat : Nat) : Int) := by omega
      generalize off.toNat = o' at eo good'
      generalize n.toNat = n' at en good'
      subst eo; subst en
      rw [ia o' n' (by omega)]
      refine w_mid u8_len bu2.arr (lo := o') (hi := o' + n') (by omega) (by omega) rfl rfl fun s1 a1 _ _ _ => ?_
      rw [show o' + n' - o' = n' by omega] at a1
      refine w_append (by_ := 1) u8_len u8_plain rfl Buf.nil a1 (.inl (by rw [List.length_take]; simp only [List.length_nil]; omega)) fun s2 h2 b2 k2 f2 d2 => ?_
      refine good' s2 h2 b2 (fun c o e => k2 c o e fun ⟨a, ha, _⟩ => by cases ha) fun c f => (f2 c f).elim (fun ⟨a, ha, _⟩ => by cases ha) fun z => z
end
section
variable {m : Int} {h : H} {q : Nat} {G : Nat → Prop} {objs : Int} {np : Nat} {next : Int} {L : List (Int × List UInt8)} {sl : Sl} {items : List S_ref07_Object}
theorem t_SRNew {objects pages : Int} {K : Option Addr × Int → H → Prop} (bad : (objects < 1 ∨ 64 < objects ∨ pages < 1 ∨ 256 < pages) → K (none, 16) h)
    (good : 1 ≤ objects → objects ≤ 64 → 1 ≤ pages → pages ≤ 256 → ∀ q h', SRAt h' q (· = q) objects pages.toNat 1 [] → Keeps h h' → h q = none → K (some ⟨q, 0, none⟩, 0) h') : m_ref07_New objects pages K h := by
  unfold m_ref07_New
  refine w_if (fun c => bad ?_) fun c => ?_
  · simp only [Bool.or_eq_true, decide_eq_true_eq] at c; omega
  · simp only [Bool.or_eq_false_iff, decide_eq_false_iff_not] at c
    refine w_new fun q hq => good (by omega) (by omega) (by omega) (by omega) q _ ⟨Sl.nil, [], ?_, Buf.nil, rfl, fun i x y e => (by simp at e), fun i j x y _ e => (by simp at e), rfl, fun c ⟨a, ha, _⟩ => (by cases ha), fun x hx => (by cases hx), fun c e => (by subst e; rw [upd_same]; simp)⟩ (.new hq) hq
    rw [show ((pages.toNat : Nat) : Int) = pages from by omega]
    exact upd_same _ _ _
theorem RCore.turn (x : RCore h q G objs np next L sl items) {h2 h4 : H} {sl' : Sl} {items' : List S_ref07_Object} {L' : List (Int × List UInt8)} {next' : Int} {F : Nat → Prop} (b2 : But F h h2) (d2 : ∀ c, h2 c = none → h c = none) (fF : ∀ c, F c → sl.foot c ∨ h c = none)
    (b4 : But (· = q) h2 h4) (c4 : h4 q = some (.cells (S_ref07_Store.cells ⟨objs, (np : Int), sl', next'⟩).toArray N_ref07_Store (0, 0))) (bu : Buf S_ref07_Object.cells 2 N_ref07_Object h2 sl' items') (fs : ∀ c, sl'.foot c → sl.foot c ∨ h c = none) (hl : items'.length = L'.length)
    (ea : ∀ (i : Nat) (a : S_ref07_Object) (y : Int × List UInt8), items'[i]? = some a → L'[i]? = some y → a.Id = y.1 ∧ Buf cU8 1 N_u8 h2 a.B y.2 ∧ (a ∈ items ∨ ∀ c, a.B.foot c → h c = none))
    (ap : ∀ (i j : Nat) (a b : S_ref07_Object), i ≠ j → items'[i]? = some a → items'[j]? = some b → ∀ c, a.B.foot c → ¬ b.B.foot c) {R : Prop}
    (k : ∀ G', SRAt h4 q G' objs np next' L' → (∀ c, G' c → G c ∨ h c = none) → But G h h4 → (∀ c, h4 c = none → h c = none) → R) : R := by
  have tq : Typed h2 N_ref07_Store q := by
    have := x.cell
    exact .of (b2 _ _ this fun f => (fF _ f).elim (fun g => (x.buf.typed g).ne (.of this) (by decide) rfl) fun e => by rw [e] at this; cases this)
  have dom4 : ∀ c, h4 c = none → h c = none := fun c e => by
    by_cases z : c = q
    · subst z; rw [c4] at e; cases e
    · refine d2 c ?_
      cases e2 : h2 c with
      | none => rfl
      | some o => rw [b4 c o e2 z] at e; cases e
  have bu4 := bu.but b4 fun a ha e => (bu.typed ⟨a, ha, rfl⟩).ne tq (by decide) e
  refine k (fun c => h4 c ≠ none ∧ (G c ∨ h c = none)) ⟨sl', items', c4, bu4, hl, fun i a y e1 e2 => ?_, ap, ⟨by rw [c4]; simp, .inl x.gq⟩, fun c f => ⟨(bu4.typed f).has, (fs c f).imp (x.gs c) fun z => z⟩, fun a ha c f => ?_, fun c g => g.1⟩ (fun c g => g.2) ?_ dom4
  · obtain ⟨h1, h2', _⟩ := ea i a y e1 e2
    exact ⟨h1, h2'.but b4 fun a ha e => (h2'.typed ⟨a, ha, rfl⟩).ne tq (by decide) e⟩
  · obtain ⟨i, hi, rfl⟩ := List.getElem_of_mem ha
    obtain ⟨_, h2', h3⟩ := ea i _ L'[i] (List.getElem?_eq_getElem hi) (List.getElem?_eq_getElem (by omega))
    have t4 := (h2'.but b4 fun a ha e => (h2'.typed ⟨a, ha, rfl⟩).ne tq (by decide) e).typed f
    exact ⟨t4.has, h3.imp (fun z => x.gb _ z c f) fun z => z c f⟩
  · refine ((b2.mono (G := fun c => G c ∨ h c = none) fun c f => (fF c f).imp (x.gs c) fun z => z).trans b4 fun c e => .inl (.inl (by subst e; exact x.gq))).trans (.refl (fun _ => False) _) (fun _ z => z.elim) |> fun z => fun c o e nf => z c o e fun w => w.elim nf fun w => by rw [e] at w; cases w
theorem t_RCreate (x : SRAt h q G objs np next L) (lw : SLaw m np next L) {size : Int} {K : Int × Int → H → Prop} (bad : mayE objs next L.length (np - usedS L) size ≠ 0 → K (0, mayE objs next L.length (np - usedS L) size) h)
    (good : mayE objs next L.length (np - usedS L) size = 0 → ∀ h' G', SRAt h' q G' objs np (next + 1) (L ++ [(next, List.replicate size.toNat 0)]) → (∀ c, G' c → G c ∨ h c = none) → But G h h' → (∀ c, h' c = none → h c = none) → K (next, 0) h') : m_ref07_Store_Create (some ⟨q, 0, none⟩) size K h := by
  unfold m_ref07_Store_Create
  refine t_SRMay x lw (w_if (fun c => ?_) fun c => ?_)
  · rw [Bool.not_eq_true', decide_eq_false_iff_not] at c
    exact bad c
  rw [Bool.not_eq_false', decide_eq_true_eq] at c
  have good2 := good c
  clear good bad
  unfold mayE at c
  split at c
  · cases c
  rename_i c1
  split at c
  · cases c
  rename_i c2
  clear c
  have es : size = ((size.toNat : Nat) : Int) := by omega
  generalize size.toNat = n at es good2
  subst es
  obtain ⟨sl, items, x⟩ := x
  have hl := x.slen
  have hm := lw.most
  have hx := lw.nxt
  refine w_deref (w_deref (w_joinP (fun z h1 => ∃ mm d, z = (sl, (⟨some d, 1, 1⟩ : Sl)) ∧ Arr S_ref07_Object.cells h1 (⟨some d, 1, 1⟩ : Sl) [⟨next, mm⟩] ∧ Buf cU8 1 N_u8 h1 mm (List.replicate n 0) ∧ (∀ c, mm.foot c → h c = none) ∧ Keeps h h1) (fun j hj => ?_) ?_))
  · have fin : ∀ {h1 : H} {mm : Sl} {k : Addr → H → Prop}, Buf cU8 1 N_u8 h1 mm (List.replicate n 0) → (∀ c, mm.foot c → h c = none) → Keeps h h1 → (∀ d h2, j (sl, (⟨some d, 1, 1⟩ : Sl)) h2 → k d h2) → mNew N_ref07_Object #[(Value.int .i64 next), (Sl.val mm)] k h1 := fun bm fm k1 kk => w_new fun d hd => kk _ _ (hj _ _ ⟨_, _, rfl, ⟨rfl, Nat.le_refl _, fun _ => ⟨_, rfl, At.own (l1 := []) (l3 := []) (upd_same _ _ _) rfl⟩⟩, bm.keep (.new hd), fm, k1.trans (.new hd)⟩)
    have mk : ∀ {h0 : H} {k : Sl → H → Prop}, Keeps h h0 → (∀ mm h1, Buf cU8 1 N_u8 h1 mm (List.replicate n 0) → (∀ c, mm.foot c → h c = none) → Keeps h h1 → k mm h1) → mMake 5 1 #[(Value.int .u8 0)] (n : Int) (n : Int) k h0 := fun k0 kk => w_make (by_ := 1) u8_len 0 rfl rfl rfl (by omega) (by omega) fun s1 h1 b1 k1 f1 _ => kk s1 h1 b1 (fun c f => k0.fresh (f1 c f)) (k0.trans k1)
    refine w_both (w_load x.f2 (w_both (w_load x.f3 (mk (.refl _) fun mm h1 bm fm k1 => fin bm fm k1 fun d h2 z => z)) (mk (.refl _) fun mm h1 bm fm k1 => w_load (x.keep k1).f3 (fin bm fm k1 fun d h2 z => z)))) (w_both (w_load x.f3 (w_both (w_load x.f2 (mk (.refl _) fun mm h1 bm fm k1 => fin bm fm k1 fun d h2 z => z)) (mk (.refl _) fun mm h1 bm fm k1 => w_load (x.keep k1).f2 (fin bm fm k1 fun d h2 z => z)))) (mk (.refl _) fun mm h1 bm fm k1 => w_load (x.keep k1).f2 (w_load (x.keep k1).f3 (fin bm fm k1 fun d h2 z => z))))
  rintro _ h1 ⟨mm, d, rfl, arn, bm, fm, k1⟩
  have x1 := x.keep k1
  refine w_append (by_ := 32) ob_len7 ob_plain7 rfl x1.buf arn (.inl (by have := x.len; simp only [List.length_singleton]; omega)) fun s24 h2 b24 bt2 f24 d2 => ?_
  have nq : ¬ sl.foot q := fun f => (x1.buf.typed f).ne (.of x1.cell) (by decide) rfl
  have cell2 := bt2 _ _ x1.cell nq
  refine w_deref (w_store (l1 := [.int .i64 objs, .int .i64 (np : Int)]) (l2 := [Sl.val sl]) (l3 := [.int .i64 next]) rfl cell2 rfl rfl ?_)
  have g3 : ∀ (hh : H) (nx : Int), At (upd hh q (.cells ([Value.int .i64 objs, Value.int .i64 (np : Int)] ++ [Sl.val s24] ++ [Value.int .i64 nx]).toArray N_ref07_Store (0, 0))) ((⟨q, 0, none⟩ : Addr).add 3) (cInt .i64 nx) := fun hh nx => At.own (l1 := [.int .i64 objs, .int .i64 (np : Int), Sl.val s24]) (l3 := []) (upd_same _ _ _) rfl
  refine w_deref (w_load (g3 _ _) (w_deref ?_))
  rw [iAdd_eq (by omega) (by omega)]
  refine w_store (l1 := [.int .i64 objs, .int .i64 (np : Int), Sl.val s24]) (l2 := [.int .i64 next]) (l3 := []) rfl (upd_same _ _ _) rfl rfl ?_
  rw [upd_upd]
  refine w_deref (w_load (g3 _ (next + 1)) ?_)
  rw [iSub_eq (by omega) (by omega), show next + 1 - 1 = next by omega]
  have nb : ∀ {c : Nat}, Typed h1 N_u8 c → ¬ sl.foot c := fun t f => (x1.buf.typed f).ne t (by decide) rfl
  have cls : ∀ (i : Nat) (a : S_ref07_Object), (items ++ [⟨next, mm⟩])[i]? = some a → (i < items.length ∧ items[i]? = some a) ∨ (i = items.length ∧ a = ⟨next, mm⟩) := fun i a e => by
    have hlt := lt_of_get e
    rw [List.length_append, List.length_singleton] at hlt
    rw [List.getElem?_append] at e
    split at e
    · rename_i hi; exact .inl ⟨hi, e⟩
    · rename_i hi
      rw [show i - items.length = 0 by omega] at e
      cases e
      exact .inr ⟨by omega, rfl⟩
  refine x.turn (h2 := h2) (h4 := upd h2 q (.cells ([Value.int .i64 objs, Value.int .i64 (np : Int)] ++ [Sl.val s24] ++ [Value.int .i64 (next + 1)]).toArray N_ref07_Store (0, 0))) (sl' := s24) (items' := items ++ [⟨next, mm⟩]) (L' := L ++ [(next, List.replicate n 0)]) (next' := next + 1)
    (F := fun c => sl.foot c) ((But.of k1).trans bt2 fun _ f => .inl f) (fun c e => k1.fresh (d2 c e)) (fun _ f => .inl f) (.upd rfl) (upd_same _ _ _) b24 (fun c f => (f24 c f).imp (fun z => z) fun z => k1.fresh z) (by rw [List.length_append, List.length_append, x.len]; rfl)
    (fun i a y e1 e2 => ?_) (fun i j a b ne e1 e2 c f1 f2 => ?_) fun G' r1 r2 r3 r4 => good2 _ G' r1 r2 r3 r4
  · rcases cls i a e1 with ⟨hi, g1⟩ | ⟨hi, rfl⟩
    · rw [List.getElem?_append, if_pos (by have := x.len; omega)] at e2
      obtain ⟨z1, z2⟩ := x1.each i a y g1 e2
      exact ⟨z1, z2.but bt2 fun a ha => nb (z2.typed ⟨a, ha, rfl⟩), .inl (List.mem_of_getElem? g1)⟩
    · rw [List.getElem?_append, if_neg (by have := x.len; omega), show i - L.length = 0 by have := x.len; omega] at e2
      cases e2
      exact ⟨rfl, bm.but bt2 fun a ha => nb (bm.typed ⟨a, ha, rfl⟩), .inr fm⟩
  · have old : ∀ {i : Nat} {a : S_ref07_Object}, items[i]? = some a → i < items.length → ∀ c, a.B.foot c → h c ≠ none := fun {i a} g hi c f => x.has c (x.gb a (List.mem_of_getElem? g) c f)
    rcases cls i a e1 with ⟨hi, g1⟩ | ⟨hi, rfl⟩
    · rcases cls j b e2 with ⟨hj, g2⟩ | ⟨hj, rfl⟩
      · exact x.apart i j a b ne g1 g2 c f1 f2
      · exact old g1 hi c f1 (fm c f2)
    · rcases cls j b e2 with ⟨hj, g2⟩ | ⟨hj, rfl⟩
      · exact old g2 hj c f2 (fm c f1)
      · omega
theorem t_RWrite (x : SRAt h q G objs np next L) (lw : SLaw m np next L) {id off : Int} {s : Sl} {d : List UInt8} (ar : Arr cU8 h s d) (ft : d ≠ [] → ∀ c, s.foot c → ¬ G c) {K : Int → H → Prop} (no : alook L id = none → K 20 h) (bad : ∀ bs, alook L id = some bs → ¬ inRg bs.length off d.length → K 5 h)
    (good : ∀ bs, alook L id = some bs → inRg bs.length off d.length → ∀ h', SRAt h' q G objs np next (wrL L id off.toNat d) → But G h h' → (∀ c, h' c = none → h c = none) → K 0 h') : m_ref07_Store_Write (some ⟨q, 0, none⟩) id off s K h := by
  obtain ⟨sl, items, x⟩ := x
  have hm := lw.most
  have hal := ar.len
  unfold m_ref07_Store_Write
  refine t_Rat x (by omega) ?_
  rcases at_cases L id with ⟨e1, e2⟩ | ⟨i, v, e1, e2, e3⟩
  · rw [e2]; exact w_ifT (by decide) (no e1)
  rw [e2]
  have hv : v.length ≤ 4096 := lw.sizes (id, v) (List.mem_of_getElem? e3)
  refine w_ifF (decide_eq_false (by omega)) (w_deref (w_load x.f2 (x.b_ e3 rfl fun b _ bu => ?_)))
  rw [bu.len, hal]
  refine w_within hv (w_if (fun c => ?_) fun c => ?_)
  · rw [Bool.not_eq_true', decide_eq_false_iff_not] at c
    exact bad v e1 c
  rw [Bool.not_eq_false', decide_eq_true_eq] at c
  have good' := good v e1 c
  unfold inRg at c
  have eo : off = ((off.toNat : Nat) : Int) := by omega
  generalize off.toNat = o' at eo good'
  subst eo
  rw [wr_vals (nodup_of lw.rising) e3] at good'
  refine w_for d.length (fun k z h' => z = (k : Int) ∧ RCore h' q G objs np next (L.set i (id, over v o' (d.take k))) sl items ∧ But G h h' ∧ ∀ c, h' c = none → h c = none) ?_ ⟨rfl, by rw [List.take_zero, over_nil, set_same e3]; exact x, .refl _ _, fun _ e => e⟩
  rintro rec k _ h1 hk ⟨rfl, x1, b1, d1⟩ more
  refine w_if' (fun z => ?_) fun z => ?_
  · have hkd : k < d.length := by omega
    have ne : d ≠ [] := fun e => by rw [e] at hkd; cases hkd
    have hil : i < L.length := lt_of_get e3
    have e4 : (L.set i (id, over v o' (d.take k)))[i]? = some (id, over v o' (d.take k)) := by rw [List.getElem?_set, if_pos rfl, if_pos hil]
    have hol : (over v o' (d.take k)).length = v.length := over_len (by rw [List.length_take]; omega)
    have ar1 := ar.but b1 fun ne' a ha => ft ne' _ ⟨a, ha, rfl⟩
    refine w_deref (w_idx u8_len ar1 (List.getElem?_eq_getElem hkd) rfl fun a10 _ g10 => w_load x1.f2 (x1.b_ e4 rfl fun b1' eb bu1 => w_load (cells := cInt .u8) (v := (d[k].toNat : Int)) g10 ?_))
    rw [ia o' k (by omega)]
    refine w_put u8_len bu1 (i := o' + k) (by rw [hol]; omega) rfl d[k] rfl fun h2 b2 k2 d2 => ?_
    rw [ia1 k (by omega)]
    have tb : ∀ {e : TypeId} {c : Nat}, Typed h1 e c → e ≠ N_u8 → ¬ b1'.foot c := fun t n f => t.ne (bu1.typed f) n rfl
    refine more _ _ hkd ⟨rfl, ⟨k2 _ _ x1.cell (tb (.of x1.cell) (by decide)), x1.buf.but k2 fun a ha => tb (x1.buf.typed ⟨a, ha, rfl⟩) (by decide), by rw [List.length_set]; exact x.len, fun j a y g1 g2 => ?_, x1.apart, x1.gq, x1.gs, x1.gb, fun c g e => x1.has c g (d2 c e)⟩, b1.trans k2 fun c f => .inl (x1.gb _ (List.mem_of_getElem? eb) c f), fun c e => d1 c (d2 c e)⟩
    by_cases w : i = j
    · subst w
      rw [eb] at g1
      cases g1
      rw [List.getElem?_set, if_pos rfl, if_pos hil] at g2
      cases g2
      exact ⟨rfl, by rw [over_step hkd (by omega)]; exact b2⟩
    · rw [List.getElem?_set, if_neg w] at g2
      obtain ⟨z1, z2⟩ := x1.each j a y g1 (by rw [List.getElem?_set, if_neg w]; exact g2)
      exact ⟨z1, z2.but k2 fun c hc f => x1.apart i j _ a w eb g1 _ f ⟨c, hc, rfl⟩⟩
  · obtain rfl : k = d.length := by omega
    rw [List.take_length] at x1
    exact good' h1 ⟨sl, items, x1⟩ b1 d1
theorem t_RIds (x : SRAt h q G objs np next L) (lw : SLaw m np next L) {K : Sl → H → Prop} (y : ∀ s h', Buf (cInt .i64) 1 N_int h' s (L.map (·.1)) → Keeps h h' → (∀ c, s.foot c → h c = none) → K s h') : m_ref07_Store_Ids (some ⟨q, 0, none⟩) K h := by
  obtain ⟨sl, items, x⟩ := x
  have hl := x.slen
  have hm := lw.most
  unfold m_ref07_Store_Ids
  refine w_for L.length (fun j z h' => z.2 = (j : Int) ∧ Buf (cInt .i64) 1 N_int h' z.1 ((L.take j).map (·.1)) ∧ Keeps h h' ∧ ∀ c, z.1.foot c → h c = none) ?_ ⟨rfl, Buf.nil, .refl _, fun c ⟨a, ha, _⟩ => (by cases ha)⟩
  rintro rec j ⟨s, _⟩ h1 hj ⟨rfl, bu, k1, fr⟩ more
  have x1 := x.keep k1
  refine w_deref (w_load x1.f2 (w_if' (fun c => ?_) fun c => ?_))
  · have c : (j : Int) < (sl.len : Int) := c
    have hjl : j < L.length := by omega
    have e : L[j]? = some (L[j].1, L[j].2) := List.getElem?_eq_getElem hjl
    refine w_deref (w_load x1.f2 (x1.id_ e rfl (w_app (by_ := 8) ci_len rfl bu [L[j].1] rfl rfl (.inl (by rw [List.length_map, List.length_take]; simp only [List.length_singleton]; omega)) fun s2 h2 b2 k2 f2 d2 => ?_)))
    show rec (s2, iAdd .i64 (j : Int) 1) h2
    rw [ia1 j (by omega)]
    refine more _ _ hjl ⟨rfl, ?_, k1.but k2 fr, fun c f => (f2 c f).elim (fr c) fun z => k1.fresh z⟩
    rw [List.take_add_one, List.getElem?_eq_getElem hjl, Option.toList_some, List.map_append]
    exact b2
  · have c : ¬ (j : Int) < (sl.len : Int) := c
    obtain rfl : j = L.length := by omega
    rw [List.take_length] at bu
    exact y s h1 bu k1 fr
end
abbrev Owner := Nat → Option Nat
structure OC (i : Nat) (o o' : Owner) (h h' : H) : Prop where
  but : ∀ c x, h c = some x → o c ≠ some i → h' c = some x
  own : ∀ c t, o c = some t → o' c = some t
  new : ∀ c, o' c ≠ none → o c ≠ none ∨ h c = none
  dom : ∀ c, h' c = none → h c = none
structure OT (o o' : Owner) (h h' : H) : Prop where
  but : ∀ c x, h c = some x → o c = none → h' c = some x
  own : ∀ c t, o c = some t → o' c = some t
  new : ∀ c, o' c ≠ none → o c ≠ none ∨ h c = none
  dom : ∀ c, h' c = none → h c = none
def Owns (o : Owner) (h : H) : Prop := ∀ c, o c ≠ none → h c ≠ none
section
variable {i : Nat} {o o' o'' : Owner} {h h' h'' : H}
theorem OC.ot (k : OC i o o' h h') : OT o o' h h' := ⟨fun c x e n => k.but c x e (by rw [n]; simp), k.own, k.new, k.dom⟩
theorem OT.refl (o : Owner) (h : H) : OT o o h h := ⟨fun _ _ e _ => e, fun _ _ e => e, fun _ e => .inl e, fun _ e => e⟩
theorem OT.trans (x : OT o o' h h') (y : OT o' o'' h' h'') : OT o o'' h h'' := by
  refine ⟨fun c z e n => ?_, fun c t e => y.own c t (x.own c t e), fun c e => ?_, fun c e => x.dom c (y.dom c e)⟩
  · have h1 := x.but c z e n
    refine y.but c z h1 ?_
    cases q : o' c with
    | none => rfl
    | some t => exact (x.new c (by rw [q]; simp)).elim (fun q => (q n).elim) fun q => by rw [q] at e; cases e
  · rcases y.new c e with q | q
    · exact x.new c q
    · exact .inr (x.dom c q)
theorem OT.keeps (k : Keeps h h') : OT o o h h' := ⟨fun c x e _ => k c x e, fun _ _ e => e, fun _ e => .inl e, fun _ e => k.fresh e⟩
theorem OC.keeps (k : Keeps h h') : OC i o o h h' := ⟨fun c x e _ => k c x e, fun _ _ e => e, fun _ e => .inl e, fun _ e => k.fresh e⟩
theorem OC.bt (k : OC i o o' h h') : But (fun c => o c = some i) h h' := fun c x e n => k.but c x e n
theorem OT.bt (k : OT o o' h h') : But (fun c => o c ≠ none) h h' := fun c x e n => k.but c x e (Classical.not_not.1 n)
theorem OT.out {h0 : H} (k : Keeps h0 h) (x : OT o o' h h') (f : ∀ c, o c ≠ none → h0 c = none) : Keeps h0 h' := k.but x.bt f
theorem OT.outs {h0 : H} (k : Keeps h0 h) (x : OT o o' h h') (f : ∀ c, o c ≠ none → h0 c = none) : ∀ c, o' c ≠ none → h0 c = none := fun c e => (x.new c e).elim (f c) k.fresh
open Classical in
/-- Part 'i' owns these blocks from now on. -/
noncomputable def give (o : Owner) (G : Nat → Prop) (i : Nat) : Owner := fun c => if o c = none ∧ G c then some i else o c
theorem give_old {G : Nat → Prop} {c t : Nat} (e : o c = some t) : give o G i c = some t := by
  unfold give; rw [if_neg (by rw [e]; simp)]; exact e
theorem give_new {G : Nat → Prop} {c : Nat} (g : G c) (e : o c = none ∨ o c = some i) : give o G i c = some i := by
  rcases e with e | e
  · unfold give; rw [if_pos ⟨e, g⟩]
  · exact give_old e
theorem give_ne {G : Nat → Prop} {c : Nat} (e : give o G i c ≠ none) : o c ≠ none ∨ G c := by
  by_cases q : o c = none ∧ G c
  · exact .inr q.2
  · unfold give at e; rw [if_neg q] at e; exact .inl e
theorem give_out {G : Nat → Prop} {c : Nat} (e : o c = none) (g : ¬ G c) : give o G i c = none := by
  unfold give; rw [if_neg (fun q => g q.2)]; exact e
theorem OC.of {G G' : Nat → Prop} (ow : Owns o h) (hG : ∀ c, G c → o c = some i) (k : KChg G G' h h') (has : ∀ c, G' c → h' c ≠ none) :
    OC i o (give o G' i) h h' ∧ Owns (give o G' i) h' ∧ ∀ c, G' c → give o G' i c = some i := by
  refine ⟨⟨fun c x e n => k.but c x e fun g => n (hG c g), fun c t e => give_old e, fun c e => ?_, k.dom⟩, fun c e => ?_, fun c g => give_new g ?_⟩
  · rcases give_ne e with q | q
    · exact .inl q
    · rcases k.foot c q with z | z
      · exact .inl (by rw [hG c z]; simp)
      · exact .inr z
  · rcases give_ne e with q | q
    · exact fun z => ow c q (k.dom c z)
    · exact has c q
  · rcases k.foot c g with z | z
    · exact .inr (hG c z)
    · cases q : o c with
      | none => exact .inl rfl
      | some t => exact absurd z (ow c (by rw [q]; simp))
theorem OC.fresh {G : Nat → Prop} (ow : Owns o h) (k : Keeps h h') (f : ∀ c, G c → h c = none) (has : ∀ c, G c → h' c ≠ none) :
    OC i o (give o G i) h h' ∧ Owns (give o G i) h' ∧ ∀ c, G c → give o G i c = some i :=
  OC.of (G := fun _ => False) ow (fun _ q => q.elim) ⟨.of k, fun c g => .inr (f c g), fun _ e => k.fresh e⟩ has
theorem Owns.keep (ow : Owns o h) (k : Keeps h h') : Owns o h' := fun c e z => ow c e (k.fresh z)
end
def CatO (h : H) (o : Owner) (i p : Nat) (es : List En) : Prop := ∃ knob G, Cat h p knob G es ∧ ∀ c, G c → o c = some i
def RefO (h : H) (o : Owner) (i p ev : Nat) (es : List En) : Prop := ∃ G, Ref h p ev G es ∧ ∀ c, G c → o c = some i
def QuoO (h : H) (o : Owner) (i p : Nat) (each all : Int) (l : List (Int × Int)) : Prop := ∃ b, QuotaAt h p b each all l ∧ o p = some i ∧ o b = some i
def RqO (h : H) (o : Owner) (i r : Nat) (each most : Int) (L : List Int) : Prop := ∃ s, RefQ h r each most s L ∧ o r = some i ∧ ∀ c, s.foot c → o c = some i
def StoO (h : H) (o : Owner) (i s : Nat) (most : Int) (np : Nat) (next : Int) (L : List (Int × List UInt8)) : Prop := ∃ F P, SAt h s F P most np next L ∧ ∀ c, F c ∨ P c → o c = some i
def RstO (h : H) (o : Owner) (i q : Nat) (most : Int) (np : Nat) (next : Int) (L : List (Int × List UInt8)) : Prop := ∃ G, SRAt h q G most np next L ∧ ∀ c, G c → o c = some i
section
variable {i j : Nat} {o o' : Owner} {h h' : H} {p r s q ev : Nat} {es : List En} {each all most next : Int} {np : Nat} {l : List (Int × Int)} {L : List Int} {ob : List (Int × List UInt8)}
theorem CatO.oc (x : CatO h o i p es) (k : OC j o o' h h') (ne : i ≠ j) : CatO h' o' i p es := by
  obtain ⟨knob, G, a, b⟩ := x
  exact ⟨knob, G, a.but k.bt fun c e g => ne (by have := b c g; rw [e] at this; exact (Option.some.inj this).symm), fun c g => k.own _ _ (b c g)⟩
theorem RefO.oc (x : RefO h o i p ev es) (k : OC j o o' h h') (ne : i ≠ j) : RefO h' o' i p ev es := by
  obtain ⟨G, a, b⟩ := x
  exact ⟨G, a.but k.bt fun c e g => ne (by have := b c g; rw [e] at this; exact (Option.some.inj this).symm), fun c g => k.own _ _ (b c g)⟩
theorem QuoO.oc (x : QuoO h o i p each all l) (k : OC j o o' h h') (ne : i ≠ j) : QuoO h' o' i p each all l := by
  obtain ⟨b, a, b1, b2⟩ := x
  exact ⟨b, a.but k.bt (fun e => ne (by rw [b1] at e; exact Option.some.inj e)) (fun e => ne (by rw [b2] at e; exact Option.some.inj e)), k.own _ _ b1, k.own _ _ b2⟩
theorem RqO.oc (x : RqO h o i r each most L) (k : OC j o o' h h') (ne : i ≠ j) : RqO h' o' i r each most L := by
  obtain ⟨s, a, b1, b2⟩ := x
  exact ⟨s, a.but k.bt (fun e => ne (by rw [b1] at e; exact Option.some.inj e)) (fun c f e => ne (by rw [b2 c f] at e; exact Option.some.inj e)), k.own _ _ b1, fun c f => k.own _ _ (b2 c f)⟩
theorem StoO.oc (x : StoO h o i s most np next ob) (k : OC j o o' h h') (ne : i ≠ j) : StoO h' o' i s most np next ob := by
  obtain ⟨F, P, a, b⟩ := x
  have no : ∀ c, o c = some j → ¬ (F c ∨ P c) := fun c e g => ne (by rw [b c g] at e; exact Option.some.inj e)
  exact ⟨F, P, a.other k.bt fun c e _ => ⟨fun g => no c e (.inl g), fun g => no c e (.inr g)⟩, fun c f => k.own _ _ (b c f)⟩
theorem RstO.oc (x : RstO h o i q most np next ob) (k : OC j o o' h h') (ne : i ≠ j) : RstO h' o' i q most np next ob := by
  obtain ⟨G, a, b⟩ := x
  exact ⟨G, a.other k.bt fun c e _ g => ne (by rw [b c g] at e; exact Option.some.inj e), fun c f => k.own _ _ (b c f)⟩
theorem o_find (x : CatO h o i p es) {c : S_api_Cap} {K : Int × Bool → H → Prop} (y : K (((findE es c).map fun n : Nat => (n : Int)).getD 0, (findE es c).isSome) h) : m_catalogue_Catalogue_Find (some ⟨p, 0, none⟩) c K h := by
  obtain ⟨_, _, a, _⟩ := x; exact t_CFind a y
theorem o_at (x : CatO h o i p es) {n : Int} {K : S_api_Token × Bool → H → Prop} (y : K (atOut es n) h) : m_catalogue_Catalogue_At (some ⟨p, 0, none⟩) n K h := by
  obtain ⟨_, _, a, _⟩ := x; exact t_CAt a y
theorem o_count (x : CatO h o i p es) {K : Int → H → Prop} (y : K ((capsG 0 es).length : Nat) h) : m_catalogue_Catalogue_Count (some ⟨p, 0, none⟩) K h := by
  obtain ⟨_, _, a, _⟩ := x; exact t_CCount a y
theorem CatO.wf (x : CatO h o i p es) : CWF es := by obtain ⟨_, _, a, _⟩ := x; exact a.wf
theorem o_of (x : CatO h o i p es) {n : Int} {K : Sl → H → Prop} (y : ∀ s' h', Buf cTok 5 N_api_Token h' s' (ofO es n) → Keeps h h' → (∀ c, s'.foot c → h c = none) → K s' h') : m_catalogue_Catalogue_Of (some ⟨p, 0, none⟩) n K h := by
  obtain ⟨_, _, a, _⟩ := x; exact t_COfU a y
theorem o_root (x : CatO h o i p es) (ow : Owns o h) {c : S_api_Cap} {r : Int} {K : Int × Int → H → Prop} (y : ∀ o' h', CatO h' o' i p (rootOut es c r).2 → OC i o o' h h' → Owns o' h' → K (rootOut es c r).1 h') : m_catalogue_Catalogue_Root (some ⟨p, 0, none⟩) c r K h := by
  obtain ⟨knob, G, a, b⟩ := x
  refine t_CRoot a fun G' h' a' k => ?_
  obtain ⟨k1, k2, k3⟩ := OC.of ow b k fun c g => a'.has g
  exact y _ h' ⟨knob, G', a', k3⟩ k1 k2
theorem o_child (x : CatO h o i p es) (ow : Owns o h) {n : Int} {c : S_api_Cap} {r : Int} {K : Int × Int → H → Prop} (y : ∀ o' h', CatO h' o' i p (childOut es n c r).2 → OC i o o' h h' → Owns o' h' → K (childOut es n c r).1 h') : m_catalogue_Catalogue_Child (some ⟨p, 0, none⟩) n c r K h := by
  obtain ⟨knob, G, a, b⟩ := x
  refine t_CChild a fun G' h' a' k => ?_
  obtain ⟨k1, k2, k3⟩ := OC.of ow b k fun c g => a'.has g
  exact y _ h' ⟨knob, G', a', k3⟩ k1 k2
theorem o_drop (x : CatO h o i p es) (ow : Owns o h) {m : Int} {K : Sl × Int → H → Prop} (no : atE es m = none → ∀ h', Keeps h h' → K (Sl.nil, 20) h')
    (y : ∀ n t ks, m = ((n : Nat) : Int) → Has es n t ks → Below es n (belowOf es n) → ∀ s' o' h', CatO h' o' i p (cutE (belowOf es n) es) → OC i o o' h h' → Owns o' h' → Buf S_api_Cap.cells 3 N_api_Cap h' s' ((belowOf es n).map (capAt es)) → (∀ c, s'.foot c → h c = none ∧ o' c = none) → K (s', 0) h') : m_catalogue_Catalogue_Drop (some ⟨p, 0, none⟩) m K h := by
  obtain ⟨knob, G, a, b⟩ := x
  refine t_CDrop a no fun n t ks l e hn bl s' G' h' a' k bu f ap => ?_
  obtain ⟨k1, k2, k3⟩ := OC.of ow b k fun c g => a'.has g
  have el := bl.eq
  subst el
  refine y n t ks e hn bl s' _ h' ⟨knob, G', a', k3⟩ k1 k2 bu fun c g => ⟨f c g, give_out ?_ (ap c g)⟩
  cases q : o c with
  | none => rfl
  | some t => exact absurd (f c g) (ow c (by rw [q]; simp))
theorem o_rfind (x : RefO h o i p ev es) {c : S_api_Cap} {K : Int × Bool → H → Prop} (y : K (((findE es c).map fun n : Nat => (n : Int)).getD 0, (findE es c).isSome) h) : m_ref11_Catalogue_Find (some ⟨p, 0, none⟩) c K h := by
  obtain ⟨_, a, _⟩ := x; exact t_RFind a y
theorem o_rcount (x : RefO h o i p ev es) {K : Int → H → Prop} (y : K ((capsG 0 es).length : Nat) h) : m_ref11_Catalogue_Count (some ⟨p, 0, none⟩) K h := by
  obtain ⟨_, a, _⟩ := x; exact t_RCount a y
theorem o_rof (x : RefO h o i p ev es) {n : Int} {K : Sl → H → Prop} (y : ∀ s' h', Buf cTok 5 N_api_Token h' s' (ofO es n) → Keeps h h' → (∀ c, s'.foot c → h c = none) → K s' h') : m_ref11_Catalogue_Of (some ⟨p, 0, none⟩) n K h := by
  obtain ⟨_, a, _⟩ := x
  exact t_ROf a (fun hno h' k => y _ h' (by rw [ofO_none hno]; exact Buf.nil) k fun c ⟨_, q, _⟩ => by cases q) fun n t ks l hn ho hp bl s' h' bu k f => y s' h' (by rw [ofO_some a.wf hn ho hp bl]; exact bu) k f
theorem o_rroot (x : RefO h o i p ev es) (ow : Owns o h) (he : ev < 9223372036854775807) {c : S_api_Cap} {r : Int} {K : Int × Int → H → Prop} (y : ∀ o' h' ev', ev' ≤ ev + 1 → RefO h' o' i p ev' (rootOut es c r).2 → OC i o o' h h' → Owns o' h' → K (rootOut es c r).1 h') : m_ref11_Catalogue_Root (some ⟨p, 0, none⟩) c r K h := by
  obtain ⟨G, a, b⟩ := x
  refine t_RRoot a he fun G' h' ev' le a' k => ?_
  obtain ⟨k1, k2, k3⟩ := OC.of ow b k fun c g => a'.has g
  exact y _ h' ev' le ⟨G', a', k3⟩ k1 k2
theorem o_rchild (x : RefO h o i p ev es) (ow : Owns o h) (he : ev < 9223372036854775807) {n : Int} {c : S_api_Cap} {r : Int} {K : Int × Int → H → Prop} (y : ∀ o' h' ev', ev' ≤ ev + 1 → RefO h' o' i p ev' (childOut es n c r).2 → OC i o o' h h' → Owns o' h' → K (childOut es n c r).1 h') : m_ref11_Catalogue_Child (some ⟨p, 0, none⟩) n c r K h := by
  obtain ⟨G, a, b⟩ := x
  refine t_RChild a he fun G' h' ev' le a' k => ?_
  obtain ⟨k1, k2, k3⟩ := OC.of ow b k fun c g => a'.has g
  exact y _ h' ev' le ⟨G', a', k3⟩ k1 k2
theorem Chg.oc {b : Nat} (ow : Owns o h) (k : Chg b h h') (e : o b = some i) : OC i o o h h' ∧ Owns o h' := ⟨⟨fun c x hc n => k.but c x hc fun q => n (by (have q : c = b := q); rw [q, e]), fun _ _ q => q, fun _ q => .inl q, k.dom⟩, fun c q z => ow c q (k.dom c z)⟩
theorem o_qadd (x : QuoO h o i p each all l) (ow : Owns o h) (ha : all ≤ 256) {n : Int} {K : Int → H → Prop} (y : ∀ h', QuoO h' o i p each all (addL each all l n) → OC i o o h h' → Owns o h' → K (mayOf each all l n) h') : m_quota_Quota_Add (some ⟨p, 0, none⟩) n K h := by
  obtain ⟨b, a, b1, b2⟩ := x
  refine t_QAdd a ha fun h' a' k => ?_
  obtain ⟨k1, k2⟩ := k.oc ow b2
  exact y h' ⟨b, a', b1, b2⟩ k1 k2
theorem o_qsub (x : QuoO h o i p each all l) (ow : Owns o h) {n m : Int} {K : Int → H → Prop} (y : ∀ h', QuoO h' o i p each all (subL l n m) → OC i o o h h' → Owns o h' → K (if subOk l n m = true then 0 else 20) h') : m_quota_Quota_Sub (some ⟨p, 0, none⟩) n m K h := by
  obtain ⟨b, a, b1, b2⟩ := x
  refine t_QSub a fun h' a' k => ?_
  obtain ⟨k1, k2⟩ := k.oc ow b2
  exact y h' ⟨b, a', b1, b2⟩ k1 k2
theorem o_qof (x : QuoO h o i p each all l) {n : Int} {K : Int → H → Prop} (y : K (qcnt l n) h) : m_quota_Quota_Of (some ⟨p, 0, none⟩) n K h := by
  obtain ⟨_, a, _⟩ := x; exact t_QOf a y
theorem o_qall (x : QuoO h o i p each all l) {K : Int → H → Prop} (y : ∀ h', Keeps h h' → K (asum l) h') : m_quota_Quota_All (some ⟨p, 0, none⟩) K h := by
  obtain ⟨_, a, _⟩ := x; exact t_QAll a y
theorem o_rqadd (x : RqO h o i r each most L) (ow : Owns o h) (hm : most ≤ 256) {n : Int} {K : Int → H → Prop} (y : ∀ o' h', RqO h' o' i r each most (if rmayOf each most L n = 0 then L ++ [n] else L) → OC i o o' h h' → Owns o' h' → K (rmayOf each most L n) h') : m_ref12_Quota_Add (some ⟨r, 0, none⟩) n K h := by
  obtain ⟨s, a, b1, b2⟩ := x
  refine t_RAdd a hm fun s' L' h' e a' bt f d => ?_
  subst e
  have k : KChg (fun c => c = r ∨ s.foot c) (fun c => c = r ∨ s'.foot c) h h' := ⟨bt, fun c g => by
    rcases g with g | g
    · exact .inl (.inl g)
    · exact (f c g).imp .inr id, d⟩
  obtain ⟨k1, k2, k3⟩ := OC.of (i := i) (G := fun c => c = r ∨ s.foot c) ow (fun c g => g.elim (fun e => e ▸ b1) (b2 c)) k fun c g => by
    rcases g with rfl | g
    · rw [a'.cell]; simp
    · exact a'.buf.has g
  exact y _ h' ⟨s', a', k3 _ (.inl rfl), fun c g => k3 _ (.inr g)⟩ k1 k2
theorem StoO.law (x : StoO h o i s most np next ob) : SLaw most np next ob := by obtain ⟨_, _, a, _⟩ := x; exact a.law
theorem sto_has {F P : Nat → Prop} (x : SAt h s F P most np next ob) {c : Nat} (g : F c ∨ P c) : h c ≠ none := by
  rcases g with g | g
  · exact x.has g
  · rcases x.hasP g with z | z <;> exact z.has
theorem o_screate (x : StoO h o i s most np next ob) (ow : Owns o h) {size : Int} {K : Int × Int → H → Prop} (bad : mayE most next ob.length (np - usedS ob) size ≠ 0 → ∀ h', Keeps h h' → K (0, mayE most next ob.length (np - usedS ob) size) h')
    (good : mayE most next ob.length (np - usedS ob) size = 0 → ∀ o' h', StoO h' o' i s most np (next + 1) (ob ++ [(next, List.replicate size.toNat 0)]) → OC i o o' h h' → Owns o' h' → K (next, 0) h') : m_store_Store_Create (some ⟨s, 0, none⟩) size K h := by
  obtain ⟨F, P, a, b⟩ := x
  refine t_SCreate a bad fun e h' P' a' f k => ?_
  obtain ⟨k1, k2, k3⟩ := OC.of (i := i) (G' := fun c => F c ∨ P' c) ow b ⟨k.but.mono fun _ q => .inl q, fun c g => by
    rcases g with g | g
    · exact .inl (.inl g)
    · exact (f c g).imp .inr id, k.dom⟩ fun c g => sto_has a' g
  exact good e _ h' ⟨F, P', a', k3⟩ k1 k2
theorem o_sdestroy (x : StoO h o i s most np next ob) (ow : Owns o h) {n : Int} {K : Int → H → Prop} (y : ∀ e o' h', StoO h' o' i s most np next (delL ob n) → OC i o o' h h' → Owns o' h' → K e h') : m_store_Store_Destroy (some ⟨s, 0, none⟩) n K h := by
  obtain ⟨F, P, a, b⟩ := x
  refine t_SDestroy a (fun e => y _ o h ⟨F, P, ?_, b⟩ (OC.keeps (.refl _)) ow) fun bs e h' P' a' f k => ?_
  · have : delL ob n = ob := by
      unfold delL
      rw [List.filter_eq_self]
      intro z hz
      simp only [Bool.not_eq_true', decide_eq_false_iff_not]
      intro q
      exact aidx_none e (List.mem_map.2 ⟨z, hz, q⟩)
    rw [this]; exact a
  obtain ⟨k1, k2, k3⟩ := OC.of (i := i) (G' := fun c => F c ∨ P' c) ow b ⟨k.but.mono fun _ q => .inl q, fun c g => by
    rcases g with g | g
    · exact .inl (.inl g)
    · exact .inl (.inr (f c g)), k.dom⟩ fun c g => sto_has a' g
  exact y _ _ h' ⟨F, P', a', k3⟩ k1 k2
theorem o_swrite (x : StoO h o i s most np next ob) (ow : Owns o h) {n off : Int} {sl : Sl} {d : List UInt8} (ar : Arr cU8 h sl d) (ft : d ≠ [] → ∀ c, sl.foot c → o c = none) {K : Int → H → Prop} (no : alook ob n = none → ∀ h', Keeps h h' → K 20 h') (bad : ∀ bs, alook ob n = some bs → ¬ inRg bs.length off d.length → ∀ h', Keeps h h' → K 5 h')
    (good : ∀ bs, alook ob n = some bs → inRg bs.length off d.length → ∀ h', StoO h' o i s most np next (wrL ob n off.toNat d) → OC i o o h h' → Owns o h' → K 0 h') : m_store_Store_Write (some ⟨s, 0, none⟩) n off sl K h := by
  obtain ⟨F, P, a, b⟩ := x
  refine t_SWrite a ar (fun hd c f g => by have := ft hd c f; rw [b c (.inl g)] at this; cases this) no bad fun bs e r h' a' k => ?_
  exact good bs e r h' ⟨F, P, a', b⟩ ⟨fun c x hc n => k.but c x hc fun g => n (b c (.inl g)), fun _ _ q => q, fun _ q => .inl q, k.dom⟩ fun c q z => ow c q (k.dom c z)
theorem o_sids (x : StoO h o i s most np next ob) {K : Sl → H → Prop} (y : ∀ sl h', Buf (cInt .i64) 1 N_int h' sl (ob.map (·.1)) → Keeps h h' → (∀ c, sl.foot c → h c = none) → K sl h') : m_store_Store_Ids (some ⟨s, 0, none⟩) K h := by
  obtain ⟨_, _, a, _⟩ := x; exact t_SIds a y
theorem o_rcreate (x : RstO h o i q most np next ob) (lw : SLaw most np next ob) (ow : Owns o h) {size : Int} {K : Int × Int → H → Prop} (bad : mayE most next ob.length (np - usedS ob) size ≠ 0 → K (0, mayE most next ob.length (np - usedS ob) size) h)
    (good : mayE most next ob.length (np - usedS ob) size = 0 → ∀ o' h', RstO h' o' i q most np (next + 1) (ob ++ [(next, List.replicate size.toNat 0)]) → OC i o o' h h' → Owns o' h' → K (next, 0) h') : m_ref07_Store_Create (some ⟨q, 0, none⟩) size K h := by
  obtain ⟨G, a, b⟩ := x
  refine t_RCreate a lw bad fun e h' G' a' f bt d => ?_
  obtain ⟨k1, k2, k3⟩ := OC.of (i := i) ow b ⟨bt, f, d⟩ fun c g => a'.has g
  exact good e _ h' ⟨G', a', k3⟩ k1 k2
theorem o_rwrite (x : RstO h o i q most np next ob) (lw : SLaw most np next ob) (ow : Owns o h) {n off : Int} {sl : Sl} {d : List UInt8} (ar : Arr cU8 h sl d) (ft : d ≠ [] → ∀ c, sl.foot c → o c = none) {K : Int → H → Prop} (no : alook ob n = none → K 20 h) (bad : ∀ bs, alook ob n = some bs → ¬ inRg bs.length off d.length → K 5 h)
    (good : ∀ bs, alook ob n = some bs → inRg bs.length off d.length → ∀ h', RstO h' o i q most np next (wrL ob n off.toNat d) → OC i o o h h' → Owns o h' → K 0 h') : m_ref07_Store_Write (some ⟨q, 0, none⟩) n off sl K h := by
  obtain ⟨G, a, b⟩ := x
  refine t_RWrite a lw ar (fun hd c f g => by have := ft hd c f; rw [b c g] at this; cases this) no bad fun bs e r h' a' bt d => ?_
  exact good bs e r h' ⟨G, a', b⟩ ⟨fun c x hc n => bt c x hc fun g => n (b c g), fun _ _ q => q, fun _ q => .inl q, d⟩ fun c q z => ow c q (d c z)
theorem o_rids (x : RstO h o i q most np next ob) (lw : SLaw most np next ob) {K : Sl → H → Prop} (y : ∀ sl h', Buf (cInt .i64) 1 N_int h' sl (ob.map (·.1)) → Keeps h h' → (∀ c, sl.foot c → h c = none) → K sl h') : m_ref07_Store_Ids (some ⟨q, 0, none⟩) K h := by
  obtain ⟨_, a, _⟩ := x; exact t_RIds a lw y
end
end Go.Proofs.YtcclfjhnpeappaaGreat.K
namespace Go.Proofs.YtcclfjhnpeappaaGreat.K
open Go Go.Proofs
def m_revoke_found (a0 : Option Addr) (a1 : S_api_Cap) (a2 : Int) (K : (Int × S_api_Token × Int) → H → Prop) : H → Prop :=
 m_catalogue_Catalogue_Find a0 a1 fun r1 =>
 mIf (!r1.2) (
 K (0, (⟨⟨0, ⟨0, 0⟩⟩, 0, 0⟩ : S_api_Token), 3)
 ) (
 m_catalogue_Catalogue_At a0 r1.1 fun r2 =>
 mPure (m_mask_Has r2.1.Rights a2) fun r3 =>
 mIf (!r3) (
 K (0, (⟨⟨0, ⟨0, 0⟩⟩, 0, 0⟩ : S_api_Token), 4)
 ) (
 K (r1.1, r2.1, 0)
 )
 )
def x_revoke_found : Cx Tryz.prog := ⟨tys, [s_catalogue_Catalogue_Find, s_catalogue_Catalogue_At, s_mask_Has], [4, 7, 11], [], mixed⟩
def h_revoke_found : Hint := (.seq .d (.seq .d (.seq .d (.seq .d (.seq .d (.seq (.reg (.run [0, 8, 5, 15, 16] .nil)) .d))))))
def s_revoke_found : Spec Tryz.prog := mkSpec x_revoke_found 78 Tryz.f78 [tPtr, S_api_Cap.ty, (tInt .i64)] [(tInt .i64), S_api_Token.ty, (tInt .i64)] false h_revoke_found (fun a => m_revoke_found a.1 a.2.1 a.2.2) (fun a K h => by kernel_rfl) callee78 rfl
def m_revoke_drop_1 (a0 : Addr) (a1 : Addr) (a2 : Addr) (K : (Unit) → H → Prop) : H → Prop :=
 mLoad cPtr a0 fun x1 =>
 mLoad (cInt .i64) ((a1.add 0).add 0) fun x2 =>
 mLoad cSl a2 fun x3 =>
 m_quota_Quota_Sub x1 x2 (x3.len : Int) fun _ =>
 K ()
def x_revoke_drop_1 : Cx Tryz.prog := ⟨tys, [s_quota_Quota_Sub], [], [], mixed⟩
def h_revoke_drop_1 : Hint := .d
theorem w_revoke_drop_1 : ∀ (a : Den [tAdr, tAdr, tAdr]) (K : Den [] → HP) (h : H), m_revoke_drop_1 a.1 a.2.1 a.2.2 K h = wpF x_revoke_drop_1 Tryz.f145 [tAdr, tAdr, tAdr] [] h_revoke_drop_1 a K h := fun a K h => by kernel_rfl
def s_revoke_drop_1 : Spec Tryz.prog := mkSpec x_revoke_drop_1 145 Tryz.f145 [tAdr, tAdr, tAdr] [] false h_revoke_drop_1 (fun a => m_revoke_drop_1 a.1 a.2.1 a.2.2) w_revoke_drop_1 callee145 rfl
def m_revoke_drop_g (M : Addr → Addr → Addr → (Unit → H → Prop) → H → Prop) (a0 : Option Addr) (a1 : Option Addr) (a2 : Option Addr) (a3 : Int) (K : (Sl) → H → Prop) : H → Prop :=
 mNew 68 #[(Value.pointer a1)] fun ad1 =>
 mNew 64 #[(Sl.val Sl.nil)] fun ad2 =>
 m_catalogue_Catalogue_At a0 a3 fun r3 =>
 mNew 82 #[(Value.int .i64 0), (Value.int .u64 0), (Value.int .u64 0), (Value.int .i64 0), (Value.int .i64 0)] fun ad4 =>
 mStore ad4 [(Value.int .i64 r3.1.Cap.Obj), (Value.int .u64 r3.1.Cap.Pass.Hi), (Value.int .u64 r3.1.Cap.Pass.Lo), (Value.int .i64 r3.1.Rights), (Value.int .i64 r3.1.Parent)] <|
 mJoin (fun (_s5 : Unit) =>
 m_catalogue_Catalogue_Drop a0 a3 fun r7 =>
 mStore ad2 [(Sl.val r7.1)] <|
 mLoad cSl ad2 fun x8 =>
 mStore ad2 [(Sl.val x8)] <|
 M ad1 ad4 ad2 fun _ =>
 mLoad cSl ad2 fun x9 =>
 K x9
 ) (fun j6 =>
 mLoad (cInt .i64) (ad4.add 4) fun x10 =>
 mIf (decide (x10 < 0)) (
 mLoad (cInt .i64) ((ad4.add 0).add 0) fun x11 =>
 m_store_Store_Destroy a2 x11 fun _ =>
 j6 ()
 ) (
 j6 ()
 )
 )
def m_revoke_drop (a0 : Option Addr) (a1 : Option Addr) (a2 : Option Addr) (a3 : Int) (K : (Sl) → H → Prop) : H → Prop := m_revoke_drop_g m_revoke_drop_1 a0 a1 a2 a3 K
def x_revoke_drop : Cx Tryz.prog := ⟨tys, [s_catalogue_Catalogue_At, s_revoke_drop_1, s_store_Store_Destroy, s_catalogue_Catalogue_Drop], [], [], mixed⟩
def md_revoke_drop (ad : Den [tAdr, tAdr, tAdr]) (K : Den [] → HP) : HP := m_revoke_drop_1 ad.1 ad.2.1 ad.2.2 K
theorem w_revoke_drop (M : Addr → Addr → Addr → (Unit → H → Prop) → H → Prop) : ∀ (a : Den [tPtr, tPtr, tPtr, (tInt .i64)]) (K : Den [tSl] → HP) (h : H), m_revoke_drop_g M a.1 a.2.1 a.2.2.1 a.2.2.2 K h = wpD x_revoke_drop Tryz.f79 [tPtr, tPtr, tPtr, (tInt .i64)] [tSl] (defA Tryz.f79.body) (defB Tryz.f79.body) (.region 2 #[defO Tryz.f79.body 0] false) (defR Tryz.f79.body) 17 145 [tAdr, tAdr, tAdr] (fun ad K => M ad.1 ad.2.1 ad.2.2 K) .d .d (.join [] 66846720 [] .d .d) a K h := fun a K h => by kernel_rfl
set_option maxRecDepth 100000 in
theorem d_revoke_drop (a : Den [tAdr, tAdr, tAdr]) (K : Den [] → HP) (h : H) (q : md_revoke_drop a K h) : ACallD Tryz.prog 145 (valsD [tAdr, tAdr, tAdr] a).toArray h (fun h' => K () h') := by
  have q2 : wpF x_revoke_drop_1 Tryz.f145 [tAdr, tAdr, tAdr] [] h_revoke_drop_1 a K h := by unfold md_revoke_drop at q; rw [w_revoke_drop_1 a K h] at q; exact q
  exact wpF_okD x_revoke_drop_1 callee145.here (id := regI Tryz.f145.body) (ops := regO Tryz.f145.body) (by kernel_rfl) (by kernel_rfl) (by kernel_rfl) (by kernel_rfl) q2
set_option maxRecDepth 100000 in
def s_revoke_drop : Spec Tryz.prog := ⟨79, [tPtr, tPtr, tPtr, (tInt .i64)], [tSl], false, fun a => m_revoke_drop a.1 a.2.1 a.2.2.1 a.2.2.2, fun a K h q => wpD_ok x_revoke_drop callee79.here (cA := defA Tryz.f79.body) (cB := defB Tryz.f79.body) (rest := defR Tryz.f79.body) (mf := defO Tryz.f79.body 0) (df := defO Tryz.f79.body 1) (id := 2) (t := 17) (ts := #[]) (by kernel_rfl) (by kernel_rfl) (by kernel_rfl) (by kernel_rfl) (by kernel_rfl) (by kernel_rfl) callee145 d_revoke_drop ((w_revoke_drop m_revoke_drop_1 a K h).mp q), ⟨Tryz.f79, callee79⟩⟩
def m_revoke_Token (a0 : Option Addr) (a1 : Option Addr) (a2 : Option Addr) (a3 : S_api_Cap) (K : (Sl × Int) → H → Prop) : H → Prop :=
 m_revoke_found a0 a3 8 fun r1 =>
 mIf (!decide (r1.2.2 = 0)) (
 K (Sl.nil, r1.2.2)
 ) (
 m_revoke_drop a0 a1 a2 r1.1 fun r2 =>
 K (r2, 0)
 )
def x_revoke_Token : Cx Tryz.prog := ⟨tys, [s_revoke_found, s_revoke_drop], [7, 11], [], mixed⟩
def h_revoke_Token : Hint := .d
def s_revoke_Token : Spec Tryz.prog := mkSpec x_revoke_Token 21 Tryz.f21 [tPtr, tPtr, tPtr, S_api_Cap.ty] [tSl, (tInt .i64)] false h_revoke_Token (fun a => m_revoke_Token a.1 a.2.1 a.2.2.1 a.2.2.2) (fun a K h => by kernel_rfl) callee21 rfl
def m_revoke_Object (a0 : Option Addr) (a1 : Option Addr) (a2 : Option Addr) (a3 : S_api_Cap) (K : (Sl × Int) → H → Prop) : H → Prop :=
 m_revoke_found a0 a3 16 fun r1 =>
 mIf (!decide (r1.2.2 = 0)) (
 K (Sl.nil, r1.2.2)
 ) (
 mLoop (fun (rec3 : (Int × Int × Int × Int × Int × Int) → H → Prop) (s2 : Int × Int × Int × Int × Int × Int) =>
 mIf (decide (0 ≤ s2.2.2.2.2.2)) (
 m_catalogue_Catalogue_At a0 s2.2.2.2.2.2 fun r4 =>
 rec3 (s2.2.2.2.2.2, r4.1.Cap.Obj, r4.1.Cap.Pass.Hi, r4.1.Cap.Pass.Lo, r4.1.Rights, r4.1.Parent)
 ) (
 m_revoke_drop a0 a1 a2 s2.1 fun r5 =>
 K (r5, 0)
 )
 ) (r1.1, r1.2.1.Cap.Obj, r1.2.1.Cap.Pass.Hi, r1.2.1.Cap.Pass.Lo, r1.2.1.Rights, r1.2.1.Parent)
 )
def x_revoke_Object : Cx Tryz.prog := ⟨tys, [s_revoke_found, s_revoke_drop, s_catalogue_Catalogue_At], [7, 11], [], mixed⟩
def h_revoke_Object : Hint := (.seq .d (.seq .d (.seq .d (.seq (.blk (.loop [.slot 10 (tInt .i64), .cell 11 0 (tInt .i64), .cell 11 1 (tInt .u64), .cell 11 2 (tInt .u64), .cell 11 3 (tInt .i64), .cell 11 4 (tInt .i64)] 17171481600 [11] .d)) .d))))
def s_revoke_Object : Spec Tryz.prog := mkSpec x_revoke_Object 24 Tryz.f24 [tPtr, tPtr, tPtr, S_api_Cap.ty] [tSl, (tInt .i64)] false h_revoke_Object (fun a => m_revoke_Object a.1 a.2.1 a.2.2.1 a.2.2.2) (fun a K h => by kernel_rfl) callee24 rfl
def m_law15_mod (a0 : Int) (a1 : Int) (K : (Int) → H → Prop) : H → Prop :=
 mNZ a1 <|
 mIf (decide ((iRem .i64 a0 a1) < 0)) (
 K (iAdd .i64 (iRem .i64 a0 a1) a1)
 ) (
 K (iRem .i64 a0 a1)
 )
def x_law15_mod : Cx Tryz.prog := ⟨tys, [], [], [], mixed⟩
def h_law15_mod : Hint := .d
def s_law15_mod : Spec Tryz.prog := mkSpec x_law15_mod 29 Tryz.f29 [(tInt .i64), (tInt .i64)] [(tInt .i64)] true h_law15_mod (fun a => m_law15_mod a.1 a.2) (fun a K h => by kernel_rfl) callee29 rfl
def m_law15_made (a0 : Int) (a1 : Int) (K : (Option Addr × Option Addr) → H → Prop) : H → Prop :=
 mPure (m_law15_mod a0 256) fun r1 =>
 mPure (m_law15_mod a1 65) fun r2 =>
 m_catalogue_New (iAdd .i64 1 r1) r2 fun r3 =>
 m_quota_New 256 (iAdd .i64 1 r1) fun r4 =>
 m_store_New 8 64 fun r5 =>
 mIf ((((((!decide (r3.2 = 0)) || (!decide (r4.2 = 0))) || (!decide (r5.2 = 0))) || (r3.1.isNone)) || (r4.1.isNone)) || (r5.1.isNone)) (
 K (none, none)
 ) (
 m_ref11_New (iAdd .i64 1 r1) r2 fun r6 =>
 m_ref12_New 256 (iAdd .i64 1 r1) fun r7 =>
 m_ref07_New 8 64 fun r8 =>
 mNew 71 #[(Value.pointer r3.1), (Value.pointer r4.1), (Value.pointer r5.1)] fun ad9 =>
 mNew 93 #[(Value.pointer r6.1), (Value.pointer r7.1), (Value.pointer r8.1)] fun ad10 =>
 K ((some ad9), (some ad10))
 )
def x_law15_made : Cx Tryz.prog := ⟨tys, [s_law15_mod, s_catalogue_New, s_quota_New, s_store_New, s_ref11_New, s_ref12_New, s_ref07_New], [], [], mixed⟩
def h_law15_made : Hint := (.seq .d (.seq .d (.seq .d (.seq .d (.seq .d (.seq (.seq (.reg (.run [3, 7, 11] (.sel 40 43 15393162788864 (.run [15, 19, 23] .nil) (.run [15, 19, 23] .nil) (.run [27] (.sel 44 47 246290604621824 (.run [31, 35, 39] .nil) (.run [31, 35, 39] .nil) (.run [43] (.sel 48 51 3940649673949184 (.run [47, 51, 55] .nil) (.run [47, 51, 55] .nil) (.run [59] (.sel 52 55 63050394783186944 (.run [63, 67, 71] .nil) (.run [63, 67, 71] .nil) (.run [75] (.sel 56 59 1008806316530991104 (.run [79, 83, 87] .nil) (.run [79, 83, 87] .nil) .nil))))))))))) .d) .d))))))
def s_law15_made : Spec Tryz.prog := mkSpec x_law15_made 19 Tryz.f19 [(tInt .i64), (tInt .i64)] [tPtr, tPtr] false h_law15_made (fun a => m_law15_made a.1 a.2) (fun a K h => by kernel_rfl) callee19 rfl
def m_law15_sameCaps (a0 : Sl) (a1 : Sl) (K : (Bool) → H → Prop) : H → Prop :=
 mIf (!decide ((a0.len : Int) = (a1.len : Int))) (
 K false
 ) (
 mLoop (fun (rec2 : Int → H → Prop) (s1 : Int) =>
 mIf (decide (s1 < (a0.len : Int))) (
 mIdx a0 s1 3 fun ad3 =>
 mIdx a1 s1 3 fun ad4 =>
 mLoad S_api_Cap.cells ad3 fun x5 =>
 mLoad S_api_Cap.cells ad4 fun x6 =>
 mIf (!((decide (x5.Obj = x6.Obj)) && (((decide (x5.Pass.Hi = x6.Pass.Hi)) && ((decide (x5.Pass.Lo = x6.Pass.Lo)) && true)) && true))) (
 K false
 ) (
 rec2 (iAdd .i64 s1 1)
 )
 ) (
 K true
 )
 ) 0
 )
def x_law15_sameCaps : Cx Tryz.prog := ⟨tys, [], [], [], mixed⟩
def h_law15_sameCaps : Hint := (.seq .d (.seq .d (.seq (.seq .d (.blk (.loop [.slot 5 (tInt .i64)] 67106864 [] (.seq .d (.seq (.blk (.seq (.reg (.run [0, 4, 8, 16, 20, 24, 14, 30, 32] .nil)) .d)) .d))))) .d)))
def s_law15_sameCaps : Spec Tryz.prog := mkSpec x_law15_sameCaps 23 Tryz.f23 [tSl, tSl] [tBool] false h_law15_sameCaps (fun a => m_law15_sameCaps a.1 a.2) (fun a K h => by kernel_rfl) callee23 rfl
def m_law15_grow (a0 : Option Addr) (a1 : Option Addr) (a2 : S_law15_Op) (K : (Bool) → H → Prop) : H → Prop :=
 mIf (decide (a2.Kind = 6)) (
 mDeref a0 fun ad1 =>
 mLoad cPtr (ad1.add 2) fun x2 =>
 mNew 5 #[(Value.int .u8 (IntKind.wrap .u8 a2.At)), (Value.int .u8 7)] fun ad3 =>
 m_store_Store_Write x2 a2.Obj (iAnd .i64 a2.Size 63) (⟨some ad3, 2, 2⟩ : Sl) fun r4 =>
 mDeref a1 fun ad5 =>
 mLoad cPtr (ad5.add 2) fun x6 =>
 mNew 5 #[(Value.int .u8 (IntKind.wrap .u8 a2.At)), (Value.int .u8 7)] fun ad7 =>
 m_ref07_Store_Write x6 a2.Obj (iAnd .i64 a2.Size 63) (⟨some ad7, 2, 2⟩ : Sl) fun r8 =>
 K (decide (r4 = r8))
 ) (
 mIf (decide (a2.Kind = 0)) (
 mDeref a1 fun ad9 =>
 mDeref a1 fun ad10 =>
 mLoad cPtr (ad9.add 1) fun x11 =>
 mDeref x11 fun ad12 =>
 mLoad cSl (ad12.add 2) fun x13 =>
 mLoad cPtr (ad10.add 1) fun x14 =>
 mDeref x14 fun ad15 =>
 mLoad (cInt .i64) (ad15.add 1) fun x16 =>
 mIf (decide (x16 ≤ (x13.len : Int))) (
 K true
 ) (
 mDeref a0 fun ad17 =>
 mPure (m_law15_mod a2.Size 200) fun r18 =>
 mLoad cPtr (ad17.add 2) fun x19 =>
 m_store_Store_Create x19 r18 fun r20 =>
 mDeref a1 fun ad21 =>
 mPure (m_law15_mod a2.Size 200) fun r22 =>
 mLoad cPtr (ad21.add 2) fun x23 =>
 m_ref07_Store_Create x23 r22 fun r24 =>
 mIf ((!decide (r20.1 = r24.1)) || (!decide (r20.2 = r24.2))) (
 K false
 ) (
 mIf (!decide (r24.2 = 0)) (
 K true
 ) (
 mDeref a0 fun ad25 =>
 mLoad cPtr (ad25.add 0) fun x26 =>
 m_catalogue_Catalogue_Root x26 (⟨r20.1, ⟨a2.W.Hi, a2.W.Lo⟩⟩ : S_api_Cap) 31 fun r27 =>
 mDeref a1 fun ad28 =>
 mLoad cPtr (ad28.add 0) fun x29 =>
 m_ref11_Catalogue_Root x29 (⟨r20.1, ⟨a2.W.Hi, a2.W.Lo⟩⟩ : S_api_Cap) 31 fun r30 =>
 mJoin (fun (s34 : Bool) =>
 mIf s34 (
 mDeref a1 fun ad39 =>
 mLoad cPtr (ad39.add 1) fun x40 =>
 m_ref12_Quota_Add x40 r20.1 fun r41 =>
 K (decide (r41 = 0))
 ) (
 K false
 )
 ) (fun j35 =>
 mIf (decide (r27.2 = r30.2)) (
 mDeref a0 fun ad42 =>
 mLoad cPtr (ad42.add 1) fun x43 =>
 m_quota_Quota_Add x43 r20.1 fun r44 =>
 j35 (decide (r44 = 0))
 ) (
 j35 false
 ))
 )
 )
 )
 ) (
 mDeref a1 fun ad45 =>
 mLoad cPtr (ad45.add 0) fun x46 =>
 m_ref11_Catalogue_Of x46 a2.Obj fun r47 =>
 mJoin (fun (s51 : Bool) =>
 mIf s51 (
 K true
 ) (
 mPure (m_law15_mod a2.At (r47.len : Int)) fun r53 =>
 mIdx r47 r53 5 fun ad54 =>
 mLoad S_api_Cap.cells (ad54.add 0) fun x55 =>
 mDeref a0 fun ad56 =>
 mLoad cPtr (ad56.add 0) fun x57 =>
 m_catalogue_Catalogue_Find x57 x55 fun r58 =>
 mDeref a1 fun ad59 =>
 mLoad cPtr (ad59.add 0) fun x60 =>
 m_ref11_Catalogue_Find x60 x55 fun r61 =>
 mDeref a0 fun ad62 =>
 mLoad cPtr (ad62.add 0) fun x63 =>
 m_catalogue_Catalogue_Child x63 r58.1 (⟨a2.Obj, ⟨a2.W.Hi, a2.W.Lo⟩⟩ : S_api_Cap) a2.Rights fun r64 =>
 mDeref a1 fun ad65 =>
 mLoad cPtr (ad65.add 0) fun x66 =>
 m_ref11_Catalogue_Child x66 r61.1 (⟨a2.Obj, ⟨a2.W.Hi, a2.W.Lo⟩⟩ : S_api_Cap) a2.Rights fun r67 =>
 mIf (!decide (r64.2 = r67.2)) (
 K false
 ) (
 mIf (!decide (r67.2 = 0)) (
 K true
 ) (
 mDeref a0 fun ad79 =>
 mLoad cPtr (ad79.add 1) fun x80 =>
 m_quota_Quota_Add x80 a2.Obj fun r81 =>
 mIf (decide (r81 = 0)) (
 mDeref a1 fun ad85 =>
 mLoad cPtr (ad85.add 1) fun x86 =>
 m_ref12_Quota_Add x86 a2.Obj fun r87 =>
 K (decide (r87 = 0))
 ) (
 K false
 )
 )
 )
 )
 ) (fun j52 =>
 mIf (decide ((r47.len : Int) = 0)) (
 j52 true
 ) (
 mDeref a1 fun ad88 =>
 mLoad cPtr (ad88.add 1) fun x89 =>
 m_ref12_Quota_May x89 a2.Obj fun r90 =>
 j52 (!decide (r90 = 0))
 ))
 )
 )
def x_law15_grow : Cx Tryz.prog := ⟨tys, [s_law15_mod, s_catalogue_Catalogue_Find, s_ref11_Catalogue_Of, s_ref11_Catalogue_Find, s_store_Store_Write, s_ref07_Store_Write, s_store_Store_Create, s_ref07_Store_Create, s_catalogue_Catalogue_Root, s_ref11_Catalogue_Root, s_quota_Quota_Add, s_ref12_Quota_Add, s_ref12_Quota_May, s_catalogue_Catalogue_Child, s_ref11_Catalogue_Child], [5, 12, 14, 15], [], mixed⟩
def h_law15_grow : Hint := (.seq .d (.seq (.seq .d (.cond (.seq (.reg (.run [0, 4, 8, 16, 24, 36, 21, 29, 32, 41, 44, 14, 50, 55, 56] .nil)) (.seq (.reg (.run [0, 4, 8, 12, 20, 28, 40, 25, 33, 36, 45, 48, 18, 54, 59, 60, 64] .nil)) .d)) .d)) (.seq (.seq .d (.cond (.seq (.seq (.reg (.run [0, 4, 8, 32, 36, 40, 14, 16, 20, 26, 28, 46, 48, 52, 58, 60] .nil)) .d) (.seq (.reg (.run [0, 4, 8, 16, 21, 24, 14, 31, 32, 36, 40, 44, 48] .nil)) (.seq (.reg (.run [0, 4, 8, 16, 21, 24, 14, 31, 32, 36, 40, 44, 48] .nil)) (.seq (.seq (.reg (.run [3, 7, 11, 15] (.sel 101 105 76059036013693764089802192322560 (.run [19, 23, 27, 31] .nil) (.run [19, 23, 27, 31] .nil) .nil))) .d) (.seq .d (.seq .d (.seq (.reg (.run [0, 4, 8, 17, 14, 23, 24, 28, 32, 36] .nil)) (.seq (.reg (.run [0, 4, 8, 17, 14, 23, 24, 28, 32, 36] .nil)) (.seq (.reg (.run [3, 7, 11, 15] (.join [.slot 141 tBool] 5553408228149715723722273593286457210961920 [] (.split 133 (.run [19, 23, 27, 31, 35, 39, 43, 47] .nil) (.run [19, 23, 27, 31, 35, 39, 43, 47] .nil)) (.run [51] (.split 142 (.run [55, 59, 63, 67, 71, 75, 79, 83, 87] .nil) (.run [55, 59, 63, 67, 71, 75, 79, 83, 87] .nil)))))) .d))))))))) .d)) (.seq (.reg (.run [0, 4, 8, 16, 21, 14, 27, 28] .nil)) (.seq (.seq (.reg (.run [0, 4, 8, 12] (.join [.slot 170 tBool] 2987309346704365564808331798072082492176726117842944 [] (.split 161 (.run [16, 20, 24, 28, 32, 36, 40, 44, 48] .nil) (.run [16, 20, 24, 32, 37, 30, 43, 44, 48] .nil)) .nil))) .d) (.seq .d (.seq .d (.seq (.reg (.run [0, 4, 8, 17, 14, 23, 24, 28, 32, 36, 40] .nil)) (.seq (.reg (.run [0, 4, 8, 17, 14, 23, 24, 28, 32, 36, 40] .nil)) (.seq (.reg (.run [0, 4, 8, 16, 24, 21, 29, 14, 35, 36, 40, 44, 48, 52] .nil)) (.seq (.reg (.run [0, 4, 8, 16, 24, 21, 29, 14, 35, 36, 40, 44, 48, 52] .nil)) (.seq .d (.seq (.reg (.run [0, 4, 8] (.split 232 (.run [12, 16, 20, 24, 28, 32, 36, 40, 44, 48, 52, 56, 60, 64, 68, 72, 76, 80, 84, 88] .nil) (.run [12, 16, 20, 28, 33, 26, 39, 40, 44] (.split 241 (.run [48, 52, 56, 64, 69, 62, 75, 76, 80, 84, 88] .nil) (.run [48, 52, 56, 60, 64, 68, 72, 76, 80, 84, 88] .nil)))))) .d)))))))))))))
def s_law15_grow : Spec Tryz.prog := mkSpec x_law15_grow 26 Tryz.f26 [tPtr, tPtr, S_law15_Op.ty] [tBool] false h_law15_grow (fun a => m_law15_grow a.1 a.2.1 a.2.2) (fun a K h => by kernel_rfl) callee26 rfl
def m_law15_word (a0 : Int) (K : (S_api_Cap) → H → Prop) : H → Prop :=
 K (⟨1, ⟨0, a0⟩⟩ : S_api_Cap)
def x_law15_word : Cx Tryz.prog := ⟨tys, [], [2], [], mixed⟩
def h_law15_word : Hint := .d
def s_law15_word : Spec Tryz.prog := mkSpec x_law15_word 70 Tryz.f70 [(tInt .u64)] [S_api_Cap.ty] true h_law15_word (fun a => m_law15_word a) (fun a K h => by kernel_rfl) callee70 rfl
def m_law15_head (K : (Bool) → H → Prop) : H → Prop :=
 m_law15_made 8 3 fun r1 =>
 mIf (r1.1.isNone) (
 K false
 ) (
 mNew 62 #[(Value.int .i64 0), (Value.int .i64 0), (Value.int .i64 0), (Value.int .i64 0), (Value.int .i64 0), (Value.int .u64 0), (Value.int .u64 3), (Value.int .i64 0), (Value.int .u64 0), (Value.int .u64 0), (Value.int .i64 1), (Value.int .i64 1), (Value.int .i64 0), (Value.int .i64 12), (Value.int .i64 0), (Value.int .u64 0), (Value.int .u64 5), (Value.int .i64 0), (Value.int .u64 0), (Value.int .u64 0), (Value.int .i64 1), (Value.int .i64 1), (Value.int .i64 1), (Value.int .i64 4), (Value.int .i64 0), (Value.int .u64 0), (Value.int .u64 9), (Value.int .i64 0), (Value.int .u64 0), (Value.int .u64 0), (Value.int .i64 1), (Value.int .i64 1), (Value.int .i64 0), (Value.int .i64 16), (Value.int .i64 0), (Value.int .u64 0), (Value.int .u64 7), (Value.int .i64 0), (Value.int .u64 0), (Value.int .u64 0)] fun ad2 =>
 mLoop (fun (rec4 : Int → H → Prop) (s3 : Int) =>
 mIf (decide (s3 < ((⟨some ad2, 4, 4⟩ : Sl).len : Int))) (
 mIdx (⟨some ad2, 4, 4⟩ : Sl) s3 10 fun ad5 =>
 mLoad S_law15_Op.cells ad5 fun x6 =>
 m_law15_grow r1.1 r1.2 x6 fun r7 =>
 mIf (!r7) (
 K false
 ) (
 rec4 (iAdd .i64 s3 1)
 )
 ) (
 mDeref r1.1 fun ad8 =>
 mDeref r1.1 fun ad9 =>
 mDeref r1.1 fun ad10 =>
 mPure (m_law15_word 9) fun r11 =>
 mLoad cPtr (ad8.add 0) fun x12 =>
 mLoad cPtr (ad9.add 1) fun x13 =>
 mLoad cPtr (ad10.add 2) fun x14 =>
 m_revoke_Token x12 x13 x14 r11 fun r15 =>
 mDeref r1.1 fun ad16 =>
 mDeref r1.1 fun ad17 =>
 mDeref r1.1 fun ad18 =>
 mPure (m_law15_word 4) fun r19 =>
 mLoad cPtr (ad16.add 0) fun x20 =>
 mLoad cPtr (ad17.add 1) fun x21 =>
 mLoad cPtr (ad18.add 2) fun x22 =>
 m_revoke_Token x20 x21 x22 r19 fun r23 =>
 mDeref r1.1 fun ad24 =>
 mDeref r1.1 fun ad25 =>
 mDeref r1.1 fun ad26 =>
 mPure (m_law15_word 5) fun r27 =>
 mLoad cPtr (ad24.add 0) fun x28 =>
 mLoad cPtr (ad25.add 1) fun x29 =>
 mLoad cPtr (ad26.add 2) fun x30 =>
 m_revoke_Token x28 x29 x30 r27 fun r31 =>
 mDeref r1.1 fun ad32 =>
 mDeref r1.1 fun ad33 =>
 mDeref r1.1 fun ad34 =>
 mPure (m_law15_word 7) fun r35 =>
 mLoad cPtr (ad32.add 0) fun x36 =>
 mLoad cPtr (ad33.add 1) fun x37 =>
 mLoad cPtr (ad34.add 2) fun x38 =>
 m_revoke_Object x36 x37 x38 r35 fun r39 =>
 mJoin (fun (s44 : Bool) =>
 mJoin (fun (s50 : Bool) =>
 mJoin (fun (s55 : Bool) =>
 mIf s55 (
 mDeref r1.1 fun ad60 =>
 mLoad cPtr (ad60.add 2) fun x61 =>
 m_store_Store_Ids x61 fun r62 =>
 K (decide ((r62.len : Int) = 0))
 ) (
 K false
 )
 ) (fun j56 =>
 mIf s50 (
 mDeref r1.1 fun ad63 =>
 mLoad cPtr (ad63.add 1) fun x64 =>
 m_quota_Quota_All x64 fun r65 =>
 j56 (decide (r65 = 0))
 ) (
 j56 false
 ))
 ) (fun j51 =>
 mIf s44 (
 mPure (m_law15_word 3) fun r66 =>
 mPure (m_law15_word 7) fun r67 =>
 mNew 38 #[(Value.int .i64 r66.Obj), (Value.int .u64 r66.Pass.Hi), (Value.int .u64 r66.Pass.Lo), (Value.int .i64 r67.Obj), (Value.int .u64 r67.Pass.Hi), (Value.int .u64 r67.Pass.Lo)] fun ad68 =>
 m_law15_sameCaps r39.1 (⟨some ad68, 2, 2⟩ : Sl) fun r69 =>
 j51 r69
 ) (
 j51 false
 ))
 ) (fun j45 =>
 mIf ((((decide (r15.2 = 4)) && (decide (r23.2 = 3))) && (decide (r31.2 = 0))) && (decide (r39.2 = 0))) (
 mPure (m_law15_word 5) fun r70 =>
 mPure (m_law15_word 9) fun r71 =>
 mNew 38 #[(Value.int .i64 r70.Obj), (Value.int .u64 r70.Pass.Hi), (Value.int .u64 r70.Pass.Lo), (Value.int .i64 r71.Obj), (Value.int .u64 r71.Pass.Hi), (Value.int .u64 r71.Pass.Lo)] fun ad72 =>
 m_law15_sameCaps r31.1 (⟨some ad72, 2, 2⟩ : Sl) fun r73 =>
 j45 r73
 ) (
 j45 false
 ))
 )
 ) 0
 )
def x_law15_head : Cx Tryz.prog := ⟨tys, [s_law15_made, s_revoke_Token, s_law15_sameCaps, s_revoke_Object, s_law15_grow, s_store_Store_Ids, s_law15_word, s_quota_Quota_All], [], [], mixed⟩
def h_law15_head : Hint := (.seq .d (.seq .d (.seq .d (.seq .d (.seq (.seq .d (.blk (.loop [.slot 4 (tInt .i64)] 4397778075665 [] .d))) (.seq (.reg (.run [0, 4, 8, 16, 20, 24, 32, 36, 40, 48, 14, 30, 46, 55, 56, 60, 64, 68, 72] .nil)) (.seq (.reg (.run [0, 4, 8, 16, 20, 24, 32, 36, 40, 48, 14, 30, 46, 55, 56, 60, 64, 68, 72] .nil)) (.seq (.reg (.run [0, 4, 8, 16, 20, 24, 32, 36, 40, 48, 14, 30, 46, 55, 56, 60, 64, 68, 72] .nil)) (.seq (.reg (.run [0, 4, 8, 16, 20, 24, 32, 36, 40, 48, 14, 30, 46, 55, 56, 60, 64, 68, 72] .nil)) (.seq (.reg (.run [3, 7, 11] (.sel 112 115 72692156019487586799426948609081344 (.run [15, 19, 23] .nil) (.run [15, 19, 23] .nil) (.run [27] (.sel 116 119 1163074496311801388790831177745301504 (.run [31, 35, 39] .nil) (.run [31, 35, 39] .nil) (.run [43] (.sel 120 123 18609191940988822220653298843924824064 (.run [47, 51, 55] .nil) (.run [47, 51, 55] .nil) (.run [59] (.join [.slot 130 tBool] 2679723639502390399774075033525174665216 [] (.split 124 (.run [63, 67, 71, 75, 79, 83] .nil) (.run [63, 67, 71, 75, 79, 83] .nil)) (.run [87] (.join [.slot 137 tBool] 343004625856305971171081604291222357147648 [] (.split 131 (.run [91, 95, 99, 103, 107, 111] .nil) (.run [91, 95, 99, 103, 107, 111] .nil)) (.run [115] (.join [.slot 145 tBool] 88506082506668410592969881894573184726859776 [] (.split 138 (.run [119, 123, 127, 131, 135, 139, 143] .nil) (.run [119, 123, 127, 131, 135, 139, 143] .nil)) (.run [147] (.split 146 (.run [151, 155, 159, 163, 167, 171, 175, 179, 183] .nil) (.run [151, 155, 159, 163, 167, 171, 175, 179, 183] .nil)))))))))))))))) .d))))))))))
def s_law15_head : Spec Tryz.prog := mkSpec x_law15_head 18 Tryz.f18 [] [tBool] false h_law15_head (fun _ => m_law15_head) (fun a K h => by kernel_rfl) callee18 rfl
def m_law15_sameTokens (a0 : Sl) (a1 : Sl) (K : (Bool) → H → Prop) : H → Prop :=
 mIf (!decide ((a0.len : Int) = (a1.len : Int))) (
 K false
 ) (
 mLoop (fun (rec2 : Int → H → Prop) (s1 : Int) =>
 mIf (decide (s1 < (a0.len : Int))) (
 mIdx a0 s1 5 fun ad3 =>
 mIdx a1 s1 5 fun ad4 =>
 mLoad S_api_Token.cells ad3 fun x5 =>
 mLoad S_api_Token.cells ad4 fun x6 =>
 mIf (!(((decide (x5.Cap.Obj = x6.Cap.Obj)) && (((decide (x5.Cap.Pass.Hi = x6.Cap.Pass.Hi)) && ((decide (x5.Cap.Pass.Lo = x6.Cap.Pass.Lo)) && true)) && true)) && ((decide (x5.Rights = x6.Rights)) && ((decide (x5.Parent = x6.Parent)) && true)))) (
 K false
 ) (
 rec2 (iAdd .i64 s1 1)
 )
 ) (
 K true
 )
 ) 0
 )
def x_law15_sameTokens : Cx Tryz.prog := ⟨tys, [], [], [], mixed⟩
def h_law15_sameTokens : Hint := (.seq .d (.seq .d (.seq (.seq .d (.blk (.loop [.slot 5 (tInt .i64)] 67106864 [] (.seq .d (.seq (.blk (.seq (.reg (.run [0, 4, 8, 16, 20, 24, 14, 30, 32] .nil)) .d)) .d))))) .d)))
def s_law15_sameTokens : Spec Tryz.prog := mkSpec x_law15_sameTokens 31 Tryz.f31 [tSl, tSl] [tBool] false h_law15_sameTokens (fun a => m_law15_sameTokens a.1 a.2) (fun a K h => by kernel_rfl) callee31 rfl
def m_law15_told (a0 : Option Addr) (a1 : Option Addr) (K : (Bool) → H → Prop) : H → Prop :=
 mDeref a1 fun ad1 =>
 mLoad cPtr (ad1.add 2) fun x2 =>
 m_ref07_Store_Ids x2 fun r3 =>
 mDeref a0 fun ad4 =>
 mLoad cPtr (ad4.add 2) fun x5 =>
 m_store_Store_Ids x5 fun r6 =>
 mJoin (fun (s17 : Bool) =>
 mJoin (fun (s34 : Bool) =>
 mJoin (fun (s46 : Bool) =>
 mJoin (fun (s63 : Bool) =>
 mIf s63 (
 K false
 ) (
 mLoop (fun (rec66 : Int → H → Prop) (s65 : Int) =>
 mIf (decide (s65 ≤ 9)) (
 mJoin (fun (s67 : Int) =>
 mDeref a1 fun ad69 =>
 mLoad cPtr (ad69.add 2) fun x70 =>
 m_ref07_Store_Size x70 s67 fun r71 =>
 mDeref a0 fun ad72 =>
 mLoad cPtr (ad72.add 2) fun x73 =>
 m_store_Store_Size x73 s67 fun r74 =>
 mDeref a1 fun ad75 =>
 mLoad cPtr (ad75.add 2) fun x76 =>
 m_ref07_Store_Read x76 s67 0 r71.1 fun r77 =>
 mDeref a0 fun ad78 =>
 mLoad cPtr (ad78.add 2) fun x79 =>
 m_store_Store_Read x79 s67 0 r74.1 fun r80 =>
 mJoin (fun (s83 : Bool) =>
 mJoin (fun (s95 : Bool) =>
 mJoin (fun (s108 : Bool) =>
 mIf s108 (
 K false
 ) (
 rec66 (iAdd .i64 s65 1)
 )
 ) (fun j109 =>
 mIf s95 (
 j109 true
 ) (
 mDeref a0 fun ad110 =>
 mDeref a1 fun ad111 =>
 mLoad cPtr (ad110.add 0) fun x112 =>
 mJoin (fun (s113 : Sl × Option Addr) =>
 m_ref11_Catalogue_Of s113.2 s67 fun r119 =>
 m_law15_sameTokens s113.1 r119 fun r120 =>
 j109 (!r120)
 ) (fun j114 =>
 mBoth (
 m_catalogue_Catalogue_Of x112 s67 fun r115 =>
 mLoad cPtr (ad111.add 0) fun x116 =>
 j114 (r115, x116)
 ) (
 mLoad cPtr (ad111.add 0) fun x117 =>
 m_catalogue_Catalogue_Of x112 s67 fun r118 =>
 j114 (r118, x117)
 ))
 ))
 ) (fun j96 =>
 mIf s83 (
 j96 true
 ) (
 mDeref a0 fun ad121 =>
 mDeref a1 fun ad122 =>
 mLoad cPtr (ad121.add 1) fun x123 =>
 mJoin (fun (s124 : Int × Option Addr) =>
 m_ref12_Quota_Of s124.2 s67 fun r130 =>
 j96 (!decide (s124.1 = r130))
 ) (fun j125 =>
 mBoth (
 m_quota_Quota_Of x123 s67 fun r126 =>
 mLoad cPtr (ad122.add 1) fun x127 =>
 j125 (r126, x127)
 ) (
 mLoad cPtr (ad122.add 1) fun x128 =>
 m_quota_Quota_Of x123 s67 fun r129 =>
 j125 (r129, x128)
 ))
 ))
 ) (fun j84 =>
 mIf ((!(r71.2 == r74.2)) || (!decide (r71.1 = r74.1))) (
 j84 true
 ) (
 mText r77.1 fun x131 =>
 mText r80.1 fun x132 =>
 j84 (!(x131.toList == x132.toList))
 ))
 ) (fun j68 =>
 mIf (decide (s65 < (r3.len : Int))) (
 mIdx r3 s65 1 fun ad133 =>
 mLoad (cInt .i64) ad133 fun x134 =>
 j68 x134
 ) (
 j68 s65
 )
 )
 ) (
 K true
 )
 ) 0
 )
 ) (fun j64 =>
 mIf s46 (
 j64 true
 ) (
 mDeref a0 fun ad135 =>
 mDeref a1 fun ad136 =>
 mLoad cPtr (ad135.add 2) fun x137 =>
 mJoin (fun (s138 : Int × Int) =>
 j64 (!decide (s138.1 = s138.2))
 ) (fun j139 =>
 mBoth (
 m_store_Store_Next x137 fun r140 =>
 mLoad cPtr (ad136.add 2) fun x141 =>
 mDeref x141 fun ad142 =>
 mLoad (cInt .i64) (ad142.add 3) fun x143 =>
 j139 (r140, x143)
 ) (
 mLoad cPtr (ad136.add 2) fun x144 =>
 mDeref x144 fun ad145 =>
 mBoth (
 m_store_Store_Next x137 fun r146 =>
 mLoad (cInt .i64) (ad145.add 3) fun x147 =>
 j139 (r146, x147)
 ) (
 mLoad (cInt .i64) (ad145.add 3) fun x148 =>
 m_store_Store_Next x137 fun r149 =>
 j139 (r149, x148)
 )
 ))
 ))
 ) (fun j47 =>
 mIf s34 (
 j47 true
 ) (
 mDeref a0 fun ad150 =>
 mDeref a1 fun ad151 =>
 mLoad cPtr (ad150.add 2) fun x152 =>
 mJoin (fun (s153 : Int × Option Addr) =>
 m_ref07_Store_Free s153.2 fun r159 =>
 j47 (!decide (s153.1 = r159))
 ) (fun j154 =>
 mBoth (
 m_store_Store_Free x152 fun r155 =>
 mLoad cPtr (ad151.add 2) fun x156 =>
 j154 (r155, x156)
 ) (
 mLoad cPtr (ad151.add 2) fun x157 =>
 m_store_Store_Free x152 fun r158 =>
 j154 (r158, x157)
 ))
 ))
 ) (fun j35 =>
 mIf s17 (
 j35 true
 ) (
 mDeref a0 fun ad160 =>
 mDeref a1 fun ad161 =>
 mLoad cPtr (ad160.add 1) fun x162 =>
 mJoin (fun (s163 : Int × Int) =>
 j35 (!decide (s163.1 = s163.2))
 ) (fun j164 =>
 mBoth (
 m_quota_Quota_All x162 fun r165 =>
 mLoad cPtr (ad161.add 1) fun x166 =>
 mDeref x166 fun ad167 =>
 mLoad cSl (ad167.add 2) fun x168 =>
 j164 (r165, (x168.len : Int))
 ) (
 mLoad cPtr (ad161.add 1) fun x169 =>
 mDeref x169 fun ad170 =>
 mBoth (
 m_quota_Quota_All x162 fun r171 =>
 mLoad cSl (ad170.add 2) fun x172 =>
 j164 (r171, (x172.len : Int))
 ) (
 mLoad cSl (ad170.add 2) fun x173 =>
 m_quota_Quota_All x162 fun r174 =>
 j164 (r174, (x173.len : Int))
 )
 ))
 ))
 ) (fun j18 =>
 mIf (!decide ((r6.len : Int) = (r3.len : Int))) (
 j18 true
 ) (
 mDeref a0 fun ad175 =>
 mDeref a1 fun ad176 =>
 mLoad cPtr (ad175.add 0) fun x177 =>
 mJoin (fun (s178 : Int × Option Addr) =>
 m_ref11_Catalogue_Count s178.2 fun r184 =>
 j18 (!decide (s178.1 = r184))
 ) (fun j179 =>
 mBoth (
 m_catalogue_Catalogue_Count x177 fun r180 =>
 mLoad cPtr (ad176.add 0) fun x181 =>
 j179 (r180, x181)
 ) (
 mLoad cPtr (ad176.add 0) fun x182 =>
 m_catalogue_Catalogue_Count x177 fun r183 =>
 j179 (r183, x182)
 ))
 ))
def x_law15_told : Cx Tryz.prog := ⟨tys, [s_store_Store_Ids, s_catalogue_Catalogue_Of, s_law15_sameTokens, s_store_Store_Size, s_quota_Quota_Of, s_ref11_Catalogue_Of, s_ref12_Quota_Of, s_quota_Quota_All, s_ref07_Store_Ids, s_catalogue_Catalogue_Count, s_ref11_Catalogue_Count, s_store_Store_Free, s_ref07_Store_Free, s_store_Store_Next, s_ref07_Store_Size, s_ref07_Store_Read, s_store_Store_Read], [], [], mixed⟩
def h_law15_told : Hint := (.seq .d (.seq .d (.seq (.seq (.reg (.run [0, 4, 8, 24, 28, 14, 19, 20, 32, 36] (.join [.slot 42 tBool] 8793945538560 [] (.split 30 (.run [40, 44, 48, 52, 56, 60, 64, 68, 72, 76, 80, 84] .nil) (.run [40, 44, 48, 60, 64, 68, 54] (.join [.slot 35 (tInt .i64), .slot 39 tPtr] 584115552256 [] (.both 14 18 (.run [74] .nil) (.run [59] .nil)) (.run [79, 80, 84] .nil)))) (.run [88] (.join [.slot 58 tBool] 576443160117379072 [] (.split 43 (.run [92, 96, 100, 104, 108, 112, 116, 120, 124, 128, 132, 136, 140, 144, 148] .nil) (.run [92, 96, 100, 112, 116, 120, 106] (.join [.slot 48 (tInt .i64), .slot 56 (tInt .i64)] 139893063425196032 [] (.both 27 31 (.run [126, 128, 132, 138, 140] .nil) (.run [128, 132] (.both 27 34 (.run [138, 140] .nil) (.run [140, 111] .nil)))) (.run [144, 148] .nil)))) (.run [152] (.join [.slot 71 tBool] 4721213561365038366720 [] (.split 59 (.run [156, 160, 164, 168, 172, 176, 180, 184, 188, 192, 196, 200] .nil) (.run [156, 160, 164, 176, 180, 184, 170] (.join [.slot 64 (tInt .i64), .slot 68 tPtr] 313594649253062377472 [] (.both 43 47 (.run [190] .nil) (.run [175] .nil)) (.run [195, 196, 200] .nil)))) (.run [204] (.join [.slot 86 tBool] 154733060177706795071963136 [] (.split 72 (.run [208, 212, 216, 220, 224, 228, 232, 236, 240, 244, 248, 252, 256, 260] .nil) (.run [208, 212, 216, 228, 232, 236, 222] (.join [.slot 77 (tInt .i64), .slot 84 (tInt .i64)] 36418890315890703888023552 [] (.both 56 60 (.run [242, 244, 248, 254] .nil) (.run [244, 248] (.both 56 63 (.run [254] .nil) (.run [227] .nil)))) (.run [256, 260] .nil)))) .nil))))))))) .d) (.seq (.seq .d (.blk (.loop [.slot 6 (tInt .i64)] 24519928653854221733733552434250204432989153420575309776 [] (.seq .d (.seq (.blk (.seq .d (.join [.slot 7 (tInt .i64)] 1262698840071087880397106708608 [] .d (.seq .d (.seq .d (.seq .d (.seq .d (.seq (.reg (.run [0, 4, 8, 12] (.sel 141 145 83627794494489836780758943522431355647426560 (.run [16, 20, 24, 28] .nil) (.run [16, 20, 24, 28] .nil) (.run [32] (.join [.slot 152 tBool] 11239575580059434063334002009414774199014129664 [] (.split 146 (.run [36, 40, 44, 48, 52, 56] .nil) (.run [36, 44, 42, 50, 52, 56] .nil)) (.run [60] (.join [.slot 167 tBool] 374121583193627851702046384599857261109736607055872 [] (.split 153 (.run [64, 68, 72, 76, 80, 84, 88, 92, 96, 100, 104, 108, 112, 116] .nil) (.run [64, 68, 72, 80, 88, 92, 96, 104, 78] (.join [.slot 159 (tInt .i64), .slot 163 tPtr] 12422763917312674804731321078088405667075426615296 [] (.both 21 25 (.run [102] .nil) (.run [87] .nil)) (.run [111, 112, 116] .nil)))) (.run [120] (.join [.slot 183 tBool] 24519180365015908311439432147770596200993762117475631104 [] (.split 168 (.run [124, 128, 132, 136, 140, 144, 148, 152, 156, 160, 164, 168, 172, 176, 180] .nil) (.run [124, 128, 132, 140, 148, 152, 156, 164, 138] (.join [.slot 174 tSl, .slot 178 tPtr] 407069128042501728001435929086800876898727579330019328 [] (.both 36 40 (.run [162] .nil) (.run [147] .nil)) (.run [171, 175, 176, 180] .nil)))) .nil))))))))) .d)))))))) .d))))) .d))))
def s_law15_told : Spec Tryz.prog := mkSpec x_law15_told 27 Tryz.f27 [tPtr, tPtr] [tBool] false h_law15_told (fun a => m_law15_told a.1 a.2) (fun a K h => by kernel_rfl) callee27 rfl
def m_law15_under (a0 : Sl) (a1 : Int) (a2 : Int) (K : (Bool) → H → Prop) : H → Prop :=
 mLoop (fun (rec2 : Int → H → Prop) (s1 : Int) =>
 mIf (decide (a2 < s1)) (
 mIdx a0 s1 5 fun ad3 =>
 mLoad (cInt .i64) (ad3.add 4) fun x4 =>
 rec2 x4
 ) (
 K (decide (s1 = a2))
 )
 ) a1
def x_law15_under : Cx Tryz.prog := ⟨tys, [], [], [], mixed⟩
def h_law15_under : Hint := (.seq .d (.seq (.blk (.loop [.slot 1 (tInt .i64)] 32642 [] .d)) .d))
def s_law15_under : Spec Tryz.prog := mkSpec x_law15_under 32 Tryz.f32 [tSl, (tInt .i64), (tInt .i64)] [tBool] false h_law15_under (fun a => m_law15_under a.1 a.2.1 a.2.2) (fun a K h => by kernel_rfl) callee32 rfl
def m_law15_RevokeRest (a0 : Int) (a1 : Sl) (a2 : S_law15_Op) (K : (Bool) → H → Prop) : H → Prop :=
 m_law15_head fun r1 =>
 mIf (!r1) (
 K false
 ) (
 m_law15_made a0 a0 fun r2 =>
 mIf (r2.1.isNone) (
 K false
 ) (
 mLoop (fun (rec4 : Int → H → Prop) (s3 : Int) =>
 mIf (decide (s3 < (a1.len : Int))) (
 mIdx a1 s3 10 fun ad5 =>
 mLoad (cInt .i64) (ad5.add 0) fun x6 =>
 mIf ((decide (x6 < 3)) || (decide (x6 = 6))) (
 mIdx a1 s3 10 fun ad7 =>
 mLoad S_law15_Op.cells ad7 fun x8 =>
 m_law15_grow r2.1 r2.2 x8 fun r9 =>
 mIf (!r9) (
 K false
 ) (
 rec4 (iAdd .i64 s3 1)
 )
 ) (
 rec4 (iAdd .i64 s3 1)
 )
 ) (
 mDeref r2.1 fun ad10 =>
 mLoad cPtr (ad10.add 2) fun x11 =>
 m_store_Store_Ids x11 fun r12 =>
 mIf (decide ((r12.len : Int) = 0)) (
 K true
 ) (
 mPure (m_law15_mod a2.Obj (r12.len : Int)) fun r13 =>
 mIdx r12 r13 1 fun ad14 =>
 mLoad (cInt .i64) ad14 fun x15 =>
 mDeref r2.1 fun ad16 =>
 mLoad cPtr (ad16.add 0) fun x17 =>
 m_catalogue_Catalogue_Of x17 x15 fun r18 =>
 mIf (decide ((r18.len : Int) = 0)) (
 K false
 ) (
 mPure (m_law15_mod a2.At (r18.len : Int)) fun r19 =>
 mIdx r18 r19 5 fun ad20 =>
 mLoad S_api_Cap.cells (ad20.add 0) fun x21 =>
 mJoin (fun (s22 : Int × Sl × Int) =>
 mIdx r18 r19 5 fun ad24 =>
 mLoad (cInt .i64) (ad24.add 3) fun x25 =>
 mIf (decide ((iAnd .i64 x25 s22.1) = 0)) (
 mJoin (fun (s30 : Bool) =>
 mIf s30 (
 m_law15_told r2.1 r2.2 fun r33 =>
 K r33
 ) (
 K false
 )
 ) (fun j31 =>
 mIf ((decide (s22.2.2 = 4)) && (decide ((s22.2.1.len : Int) = 0))) (
 mDeref r2.1 fun ad34 =>
 mLoad cPtr (ad34.add 0) fun x35 =>
 m_catalogue_Catalogue_Of x35 x15 fun r36 =>
 m_law15_sameTokens r36 r18 fun r37 =>
 j31 r37
 ) (
 j31 false
 ))
 ) (
 mIf (!decide (s22.2.2 = 0)) (
 K false
 ) (
 mMake 3 8 #[(Value.int .i64 0)] (r18.len : Int) (r18.len : Int) fun s38 =>
 mLoop (fun (rec40 : (Sl × Int × Int) → H → Prop) (s39 : Sl × Int × Int) =>
 mIf (decide (s39.2.2 < (r18.len : Int))) (
 mJoin (fun (s42 : Bool) =>
 mIf s42 (
 mJoin (fun (s48 : Bool) =>
 mIf s48 (
 K false
 ) (
 mDeref r2.1 fun ad50 =>
 mDeref r2.1 fun ad51 =>
 mDeref r2.1 fun ad52 =>
 mIdx r18 s39.2.2 5 fun ad53 =>
 mLoad cPtr (ad50.add 0) fun x54 =>
 mLoad cPtr (ad51.add 1) fun x55 =>
 mLoad cPtr (ad52.add 2) fun x56 =>
 mLoad S_api_Cap.cells (ad53.add 0) fun x57 =>
 m_revoke_Token x54 x55 x56 x57 fun r58 =>
 mDeref r2.1 fun ad59 =>
 mIdx r18 s39.2.2 5 fun ad60 =>
 mLoad cPtr (ad59.add 0) fun x61 =>
 mLoad S_api_Cap.cells (ad60.add 0) fun x62 =>
 m_catalogue_Catalogue_Find x61 x62 fun r63 =>
 mIf ((!decide (r58.2 = 3)) || r63.2) (
 K false
 ) (
 rec40 (s39.1, (iAdd .i64 s39.2.1 1), (iAdd .i64 s39.2.2 1))
 )
 )
 ) (fun j49 =>
 mIf (decide ((s22.2.1.len : Int) ≤ s39.2.1)) (
 j49 true
 ) (
 mIdx s22.2.1 s39.2.1 3 fun ad64 =>
 mIdx r18 s39.2.2 5 fun ad65 =>
 mLoad S_api_Cap.cells ad64 fun x66 =>
 mLoad S_api_Cap.cells (ad65.add 0) fun x67 =>
 j49 (!((decide (x66.Obj = x67.Obj)) && (((decide (x66.Pass.Hi = x67.Pass.Hi)) && ((decide (x66.Pass.Lo = x67.Pass.Lo)) && true)) && true)))
 ))
 ) (
 mIdx r18 s39.2.2 5 fun ad68 =>
 mLoad S_api_Token.cells ad68 fun x69 =>
 mJoin (fun (s70 : Int × Int × Int × Int × Int) =>
 mIdx s38 s39.2.2 1 fun ad72 =>
 mStore ad72 [(Value.int .i64 (s39.1.len : Int))] <|
 mApp 82 5 40 #[(Value.int .i64 0), (Value.int .u64 0), (Value.int .u64 0), (Value.int .i64 0), (Value.int .i64 0)] 1 [(Value.int .i64 s70.1), (Value.int .u64 s70.2.1), (Value.int .u64 s70.2.2.1), (Value.int .i64 s70.2.2.2.1), (Value.int .i64 s70.2.2.2.2)] s39.1 fun s73 =>
 rec40 (s73, s39.2.1, (iAdd .i64 s39.2.2 1))
 ) (fun j71 =>
 mIf (decide (0 ≤ x69.Parent)) (
 mIdx s38 x69.Parent 1 fun ad74 =>
 mLoad (cInt .i64) ad74 fun x75 =>
 j71 (x69.Cap.Obj, x69.Cap.Pass.Hi, x69.Cap.Pass.Lo, x69.Rights, x75)
 ) (
 j71 (x69.Cap.Obj, x69.Cap.Pass.Hi, x69.Cap.Pass.Lo, x69.Rights, x69.Parent)
 )
 )
 )
 ) (fun j43 =>
 mIf (decide ((iAnd .i64 a2.Kind 1) = 1)) (
 j43 true
 ) (
 m_law15_under r18 s39.2.2 r19 fun r76 =>
 j43 r76
 ))
 ) (
 mDeref r2.1 fun ad77 =>
 mLoad cPtr (ad77.add 2) fun x78 =>
 m_store_Store_Size x78 x15 fun r79 =>
 mJoin (fun (s84 : Bool) =>
 mJoin (fun (s89 : Bool) =>
 mIf (s89 || (!(r79.2 == (decide (0 < (s39.1.len : Int)))))) (
 K false
 ) (
 mLoop (fun (rec92 : Int → H → Prop) (s91 : Int) =>
 mIf (decide (s91 < (r12.len : Int))) (
 mIdx r12 s91 1 fun ad93 =>
 mLoad (cInt .i64) ad93 fun x94 =>
 mJoin (fun (s164 : Bool) =>
 mIf s164 (
 K false
 ) (
 rec92 (iAdd .i64 s91 1)
 )
 ) (fun j165 =>
 mIf (!decide (x94 = x15)) (
 mDeref r2.1 fun ad166 =>
 mIdx r12 s91 1 fun ad167 =>
 mDeref r2.2 fun ad168 =>
 mIdx r12 s91 1 fun ad169 =>
 mLoad cPtr (ad166.add 0) fun x170 =>
 mLoad (cInt .i64) ad167 fun x171 =>
 mJoin (fun (s172 : Sl × Option Addr × Int) =>
 m_ref11_Catalogue_Of s172.2.1 s172.2.2 fun r187 =>
 m_law15_sameTokens s172.1 r187 fun r188 =>
 mIf (!r188) (
 j165 true
 ) (
 mDeref r2.1 fun ad211 =>
 mIdx r12 s91 1 fun ad212 =>
 mDeref r2.2 fun ad213 =>
 mIdx r12 s91 1 fun ad214 =>
 mLoad cPtr (ad211.add 1) fun x215 =>
 mLoad (cInt .i64) ad212 fun x216 =>
 mJoin (fun (s217 : Int × Option Addr × Int) =>
 m_ref12_Quota_Of s217.2.1 s217.2.2 fun r232 =>
 j165 (!decide (s217.1 = r232))
 ) (fun j218 =>
 mBoth (
 m_quota_Quota_Of x215 x216 fun r219 =>
 mLoad cPtr (ad213.add 1) fun x220 =>
 mLoad (cInt .i64) ad214 fun x221 =>
 j218 (r219, x220, x221)
 ) (
 mBoth (
 mLoad cPtr (ad213.add 1) fun x222 =>
 mBoth (
 m_quota_Quota_Of x215 x216 fun r223 =>
 mLoad (cInt .i64) ad214 fun x224 =>
 j218 (r223, x222, x224)
 ) (
 mLoad (cInt .i64) ad214 fun x225 =>
 m_quota_Quota_Of x215 x216 fun r226 =>
 j218 (r226, x222, x225)
 )
 ) (
 mLoad (cInt .i64) ad214 fun x227 =>
 mBoth (
 m_quota_Quota_Of x215 x216 fun r228 =>
 mLoad cPtr (ad213.add 1) fun x229 =>
 j218 (r228, x229, x227)
 ) (
 mLoad cPtr (ad213.add 1) fun x230 =>
 m_quota_Quota_Of x215 x216 fun r231 =>
 j218 (r231, x230, x227)
 )
 )
 ))
 )
 ) (fun j173 =>
 mBoth (
 m_catalogue_Catalogue_Of x170 x171 fun r174 =>
 mLoad cPtr (ad168.add 0) fun x175 =>
 mLoad (cInt .i64) ad169 fun x176 =>
 j173 (r174, x175, x176)
 ) (
 mBoth (
 mLoad cPtr (ad168.add 0) fun x177 =>
 mBoth (
 m_catalogue_Catalogue_Of x170 x171 fun r178 =>
 mLoad (cInt .i64) ad169 fun x179 =>
 j173 (r178, x177, x179)
 ) (
 mLoad (cInt .i64) ad169 fun x180 =>
 m_catalogue_Catalogue_Of x170 x171 fun r181 =>
 j173 (r181, x177, x180)
 )
 ) (
 mLoad (cInt .i64) ad169 fun x182 =>
 mBoth (
 m_catalogue_Catalogue_Of x170 x171 fun r183 =>
 mLoad cPtr (ad168.add 0) fun x184 =>
 j173 (r183, x184, x182)
 ) (
 mLoad cPtr (ad168.add 0) fun x185 =>
 m_catalogue_Catalogue_Of x170 x171 fun r186 =>
 j173 (r186, x185, x182)
 )
 )
 ))
 ) (
 j165 false
 ))
 ) (
 K true
 )
 ) 0
 )
 ) (fun j90 =>
 mIf s84 (
 j90 true
 ) (
 mDeref r2.1 fun ad233 =>
 mLoad cPtr (ad233.add 1) fun x234 =>
 m_quota_Quota_Of x234 x15 fun r235 =>
 j90 (!decide (r235 = (s39.1.len : Int)))
 ))
 ) (fun j85 =>
 mIf (!decide (s39.2.1 = (s22.2.1.len : Int))) (
 j85 true
 ) (
 mDeref r2.1 fun ad236 =>
 mLoad cPtr (ad236.add 0) fun x237 =>
 m_catalogue_Catalogue_Of x237 x15 fun r238 =>
 m_law15_sameTokens r238 s39.1 fun r239 =>
 j85 (!r239)
 ))
 )
 ) (Sl.nil, 0, 0)
 )
 )
 ) (fun j23 =>
 mIf (decide ((iAnd .i64 a2.Kind 1) = 1)) (
 mDeref r2.1 fun ad240 =>
 mDeref r2.1 fun ad241 =>
 mDeref r2.1 fun ad242 =>
 mLoad cPtr (ad240.add 0) fun x243 =>
 mLoad cPtr (ad241.add 1) fun x244 =>
 mLoad cPtr (ad242.add 2) fun x245 =>
 m_revoke_Object x243 x244 x245 x21 fun r246 =>
 j23 (16, r246.1, r246.2)
 ) (
 mDeref r2.1 fun ad247 =>
 mDeref r2.1 fun ad248 =>
 mDeref r2.1 fun ad249 =>
 mLoad cPtr (ad247.add 0) fun x250 =>
 mLoad cPtr (ad248.add 1) fun x251 =>
 mLoad cPtr (ad249.add 2) fun x252 =>
 m_revoke_Token x250 x251 x252 x21 fun r253 =>
 j23 (8, r253.1, r253.2)
 )
 )
 )
 )
 )
 ) 0
 )
 )
def x_law15_RevokeRest : Cx Tryz.prog := ⟨tys, [s_law15_head, s_law15_made, s_revoke_Token, s_revoke_Object, s_law15_grow, s_law15_told, s_store_Store_Ids, s_law15_mod, s_catalogue_Catalogue_Of, s_law15_sameTokens, s_law15_under, s_catalogue_Catalogue_Find, s_store_Store_Size, s_quota_Quota_Of, s_ref11_Catalogue_Of, s_ref12_Quota_Of], [5, 15, 28, 266], [], mixed⟩
def h_law15_RevokeRest : Hint := (.seq .d (.seq .d (.seq .d (.seq .d (.seq (.seq .d (.blk (.loop [.slot 9 (tInt .i64)] 147573948191629903424 [] (.seq .d (.seq (.blk (.seq .d (.seq (.reg (.run [3, 7, 11] (.sel 55 58 504403158265495552 (.run [15, 19, 23] .nil) (.run [15, 19, 23] .nil) .nil))) .d))) .d))))) (.seq .d (.seq .d (.seq .d (.seq .d (.seq .d (.seq .d (.seq .d (.seq .d (.seq .d (.seq .d (.seq .d (.join [.slot 17 (tInt .i64), .slot 18 tSl, .slot 19 (tInt .i64)] 2787593149735198254277358102385256184020992 [] (.seq .d (.cond (.seq .d (.reg (.run [0, 4, 8, 16, 20, 24, 32, 36, 40, 49, 14, 30, 46, 55, 56, 60, 64, 68, 72] .nil))) (.reg (.run [0, 4, 8, 16, 20, 24, 32, 36, 40, 49, 14, 30, 46, 55, 56, 60, 64, 68, 72] .nil)))) (.seq (.seq .d (.cond (.seq (.reg (.run [3, 7, 11] (.sel 151 155 85634861562357592863497158166969708182964797440 (.run [15, 19, 23, 27] .nil) (.run [15, 19, 23, 27] .nil) (.run [31] (.join [.slot 165 tBool] 93353417084511423900260368689752577880522691182592 [] (.split 156 (.run [35, 39, 43, 47, 51, 55, 59, 63, 67] .nil) (.run [35, 39, 43, 47, 51, 55, 59, 63, 67] .nil)) (.run [71] (.split 166 (.run [75, 79, 83, 87, 91] .nil) (.run [75, 79, 83, 87, 91] .nil)))))))) .d) .d)) (.seq .d (.seq .d (.seq .d (.seq .d (.seq (.seq .d (.blk (.loop [.slot 20 tSl, .slot 22 (tInt .i64), .slot 23 (tInt .i64)] 474284397516047136454946754499804699262875803543067061108723940120240984402427968 [] (.seq .d (.seq (.blk (.seq (.seq (.reg (.run [3, 7] (.join [.slot 188 tBool] 760117788269480873745740125466553355074894604603066679296 [] (.split 183 (.run [11, 15, 19, 23, 27] .nil) (.run [11, 15, 19, 23, 27] .nil)) .nil))) (.cond (.seq (.seq (.reg (.run [0, 4, 8, 12, 16] (.join [.slot 204 tBool] 51396909009346142094287443797224372615046086379271514591592448 [] (.split 193 (.run [20, 24, 28, 32, 36, 40, 44, 48, 52, 56, 60] .nil) (.run [20, 24, 28, 36, 40, 44, 48, 34, 54, 56, 60] .nil)) .nil))) .d) (.seq .d (.seq (.reg (.run [0, 4, 8, 16, 20, 24, 32, 36, 40, 48, 52, 56, 60, 14, 30, 46, 66, 71, 72, 76, 80, 84, 88] .nil)) (.seq (.reg (.run [0, 4, 8, 16, 20, 24, 28, 14, 34, 39, 40, 44, 48, 52, 56] .nil)) (.seq (.seq (.reg (.run [3, 7, 11] (.sel 243 245 84808659109362447819998280035660088759719227050029709989837097662045749248 (.run [15, 19] .nil) (.run [15, 19] .nil) .nil))) .d) .d))))) .d)) (.seq .d (.join [.cell 28 0 (tInt .i64), .cell 28 1 (tInt .u64), .cell 28 2 (tInt .u64), .cell 28 3 (tInt .i64), .cell 28 4 (tInt .i64)] 924527462504196497835074583428742514265952533814723878502544147313181394468864 [28] .d .d)))) .d))))) (.seq .d (.seq (.seq (.reg (.run [3, 7, 11, 15, 19] (.join [.slot 291 tBool] 7949401106987683358202438122721839365980728785401354920962416380651596335059713174536192 [] (.split 281 (.run [23, 27, 31, 35, 39, 43, 47, 51, 55, 59] .nil) (.run [23, 27, 31, 35, 39, 43, 47, 51, 55, 59] .nil)) (.run [63] (.join [.slot 302 tBool] 16280373467110775517598593275334327021528532552501974878131028747574469294202292581450121216 [] (.split 292 (.run [67, 71, 75, 79, 83, 87, 91, 95, 99, 103] .nil) (.run [67, 71, 75, 79, 83, 87, 91, 95, 99, 103] .nil)) (.run [107] (.sel 303 309 2053332264145161974958593253916653186339880140815263740641229572949216350161443399832864555008 (.run [111, 115, 119, 123, 127, 131] .nil) (.run [111, 115, 119, 123, 127, 131] .nil) .nil))))))) .d) (.seq (.seq .d (.blk (.loop [.slot 31 (tInt .i64)] 75153362648762661206538539330745032537133456633862998945929675975111968152259650051951916990655811367370489920 [] (.seq .d (.seq (.blk (.seq (.reg (.run [0, 4, 8, 16, 14, 20, 24] (.join [.slot 364 tBool] 75153362648745575396176011816599624702372485148149414226454457866871112470804892433032122823912414800326426624 [] (.split 322 (.run [28, 32, 36, 44, 48, 52, 64, 68, 72, 80, 84, 88, 42, 58] (.join [.slot 331 tSl, .slot 335 tPtr, .slot 339 (tInt .i64)] 1194238895731524510707386216006221265482830509267693990288470751099834337562859254080038194654587387904 [] (.alt 15 (.run [78, 94] .nil) (.both 19 23 (.both 15 23 (.run [94] .nil) (.run [63] .nil)) (.both 15 19 (.run [78] .nil) (.run [63] .nil)))) (.run [99, 103, 104, 108] (.split 343 (.run [112, 116, 120, 124, 128, 132, 136, 140, 144, 148, 152, 156, 160, 164, 168, 172, 176, 180, 184, 188, 192] .nil) (.run [112, 116, 120, 128, 132, 136, 148, 152, 156, 164, 168, 172, 126, 142] (.join [.slot 352 (tInt .i64), .slot 356 tPtr, .slot 360 (tInt .i64)] 2504500488661158090679016417669878939349848968171762987121447012610519780688625410412460259996257249717649408 [] (.alt 36 (.run [162, 178] .nil) (.both 40 44 (.both 36 44 (.run [178] .nil) (.run [147] .nil)) (.both 36 40 (.run [162] .nil) (.run [147] .nil)))) (.run [183, 184, 188, 192] .nil))))))) (.run [28, 32, 36, 40, 44, 48, 52, 56, 60, 64, 68, 72, 76, 80, 84, 88, 92, 96, 100, 104, 108, 112, 116, 120, 124, 128, 132, 136, 140, 144, 148, 152, 156, 160, 164, 168, 172, 176, 180, 184, 188, 192] .nil)) .nil))) .d)) .d))))) .d))))))))))))))))))))))))))
def s_law15_RevokeRest : Spec Tryz.prog := mkSpec x_law15_RevokeRest 5 Tryz.f5 [(tInt .i64), tSl, S_law15_Op.ty] [tBool] false h_law15_RevokeRest (fun a => m_law15_RevokeRest a.1 a.2.1 a.2.2) (fun a K h => by kernel_rfl) callee5 rfl
end Go.Proofs.YtcclfjhnpeappaaGreat.K
namespace Go.Proofs.YtcclfjhnpeappaaGreat.K
open Go
section
variable {h : H} {s q : Nat} {F P G : Nat → Prop} {most : Int} {np : Nat} {next : Int} {L : List (Int × List UInt8)}
def rdV (L : List (Int × List UInt8)) (id off n : Int) : List UInt8 := match alook L id with
  | none => []
  | some bs => if inRg bs.length off n then (bs.drop off.toNat).take n.toNat else []
def rdE (L : List (Int × List UInt8)) (id off n : Int) : Int := match alook L id with
  | none => 20
  | some bs => if inRg bs.length off n then 0 else 5
theorem t_SReadX (x : SAt h s F P most np next L) {id off n : Int} {K : Sl × Int → H → Prop} (y : ∀ sl h', Buf cU8 1 N_u8 h' sl (rdV L id off n) → Keeps h h' → (∀ c, sl.foot c → h c = none) → K (sl, rdE L id off n) h') : m_store_Store_Read (some ⟨s, 0, none⟩) id off n K h := by
  unfold rdV rdE at y
  refine t_SRead x (fun e h' k => ?_) (fun bs e r h' k => ?_) fun bs e r sl h' b k f => ?_
  · rw [e] at y; exact y Sl.nil h' Buf.nil k fun c ⟨a, ha, _⟩ => by cases ha
  · rw [e] at y; simp only [if_neg r] at y; exact y Sl.nil h' Buf.nil k fun c ⟨a, ha, _⟩ => by cases ha
  · rw [e] at y; simp only [if_pos r] at y; exact y sl h' b k f
theorem t_RReadX (x : SRAt h q G most np next L) (lw : SLaw most np next L) {id off n : Int} {K : Sl × Int → H → Prop} (y : ∀ sl h', Buf cU8 1 N_u8 h' sl (rdV L id off n) → Keeps h h' → (∀ c, sl.foot c → h c = none) → K (sl, rdE L id off n) h') : m_ref07_Store_Read (some ⟨q, 0, none⟩) id off n K h := by
  unfold rdV rdE at y
  refine t_RRead x lw (fun e => ?_) (fun bs e r => ?_) fun bs e r sl h' b k f => ?_
  · rw [e] at y; exact y Sl.nil h Buf.nil (.refl _) fun c ⟨a, ha, _⟩ => by cases ha
  · rw [e] at y; simp only [if_neg r] at y; exact y Sl.nil h Buf.nil (.refl _) fun c ⟨a, ha, _⟩ => by cases ha
  · rw [e] at y; simp only [if_pos r] at y; exact y sl h' b k f
end
theorem w_mod {h : H} {a b : Int} {k : Int → H → Prop} (h0 : 0 < b) (h1 : b ≤ 2 ^ 60) (y : k (intoV a b) h) : mPure (m_law15_mod a b) k h := by
  refine w_pure _ (fun h' k' z => ?_) y
  unfold m_law15_mod
  refine ⟨by omega, ?_⟩
  have e : iRem .i64 a b = a.tmod b := rfl
  rw [e]
  have h2 := Int.lt_tmod_of_pos a h0
  unfold intoV at z
  refine w_if' (fun c => ?_) fun c => ?_
  · rw [if_pos c] at z
    rw [iAdd_eq (by omega) (by omega)]; exact z
  · rw [if_neg c] at z; exact z
section
variable {h : H}
theorem t_sameCaps {a b : Sl} {xs : List S_api_Cap} (x : Arr S_api_Cap.cells h a xs) (x' : Arr S_api_Cap.cells h b xs) (hn : xs.length ≤ 2 ^ 40) {K : Bool → H → Prop} (y : K true h) : m_law15_sameCaps a b K h := by
  unfold m_law15_sameCaps
  have h1 := x.len
  have h2 := x'.len
  refine w_ifF (by rw [h1, h2]; simp) (w_for xs.length (fun i (z : Int) h' => z = (i : Int) ∧ h = h') ?_ ⟨rfl, rfl⟩)
  rintro rec i z h' hi ⟨rfl, rfl⟩ more
  refine w_if' (fun c => ?_) fun c => y
  have c : (i : Int) < (a.len : Int) := c
  have hil : i < xs.length := by omega
  have hz := List.getElem?_eq_getElem hil
  refine w_idx cap_len x hz rfl fun ad _ ha => w_idx cap_len x' hz rfl fun ad' _ ha' => w_load ha (w_load ha' ?_)
  rw [cap_eqB]
  exact w_ifF (by simp) (more _ _ hil ⟨ia1 i (by omega), rfl⟩)
theorem t_sameTokens {a b : Sl} {xs : List S_api_Token} (x : Arr cTok h a xs) (x' : Arr cTok h b xs) (hn : xs.length ≤ 2 ^ 40) {K : Bool → H → Prop} (y : K true h) : m_law15_sameTokens a b K h := by
  unfold m_law15_sameTokens
  have h1 := x.len
  have h2 := x'.len
  refine w_ifF (by rw [h1, h2]; simp) (w_for xs.length (fun i (z : Int) h' => z = (i : Int) ∧ h = h') ?_ ⟨rfl, rfl⟩)
  rintro rec i z h' hi ⟨rfl, rfl⟩ more
  refine w_if' (fun c => ?_) fun c => y
  have c : (i : Int) < (a.len : Int) := c
  have hil : i < xs.length := by omega
  have hz := List.getElem?_eq_getElem hil
  refine w_idx tok_len x hz rfl fun ad _ ha => w_idx tok_len x' hz rfl fun ad' _ ha' => w_load ha (w_load ha' ?_)
  rw [tok_eqB]
  exact w_ifF (by simp) (more _ _ hil ⟨ia1 i (by omega), rfl⟩)
end
structure Pts where
  p : Nat
  q : Nat
  t : Nat
  rp : Nat
  rq : Nat
  rt : Nat
structure WS where
  es : List En
  l : List (Int × Int)
  L : List Int
  nx : Int
  ob : List (Int × List UInt8)
structure Wld (h : H) (o : Owner) (s w : Nat) (a : Pts) (ev : Nat) (most : Int) (e1 e2 : List En) (l : List (Int × Int)) (L : List Int) (n1 : Int) (o1 : List (Int × List UInt8)) (n2 : Int) (o2 : List (Int × List UInt8)) : Prop where
  own : Owns o h
  cs : h s = some (.cells [Value.pointer (some ⟨a.p, 0, none⟩), Value.pointer (some ⟨a.q, 0, none⟩), Value.pointer (some ⟨a.t, 0, none⟩)].toArray N_law15_Set (0, 0))
  os : o s = some 6
  cw : h w = some (.cells [Value.pointer (some ⟨a.rp, 0, none⟩), Value.pointer (some ⟨a.rq, 0, none⟩), Value.pointer (some ⟨a.rt, 0, none⟩)].toArray N_ref15_World (0, 0))
  ow : o w = some 7
  cat : CatO h o 0 a.p e1
  quo : QuoO h o 1 a.q 256 most l
  sto : StoO h o 2 a.t 8 64 n1 o1
  ref : RefO h o 3 a.rp ev e2
  rq : RqO h o 4 a.rq 256 most L
  rst : RstO h o 5 a.rt 8 64 n2 o2
section
variable {h h' : H} {o o' : Owner} {s w : Nat} {a : Pts} {ev ev' : Nat} {most : Int} {e1 e2 e1' e2' : List En} {l l' : List (Int × Int)} {L L' : List Int} {n1 n2 n1' n2' : Int} {o1 o2 o1' o2' : List (Int × List UInt8)}
theorem Wld.at6 (x : Wld h o s w a ev most e1 e2 l L n1 o1 n2 o2) {i : Nat} (k : OC i o o' h h') (n6 : i ≠ 6) : h' s = some (.cells [Value.pointer (some ⟨a.p, 0, none⟩), Value.pointer (some ⟨a.q, 0, none⟩), Value.pointer (some ⟨a.t, 0, none⟩)].toArray N_law15_Set (0, 0)) := k.but _ _ x.cs (by rw [x.os]; exact fun e => n6 (Option.some.inj e).symm)
theorem Wld.at7 (x : Wld h o s w a ev most e1 e2 l L n1 o1 n2 o2) {i : Nat} (k : OC i o o' h h') (n7 : i ≠ 7) : h' w = some (.cells [Value.pointer (some ⟨a.rp, 0, none⟩), Value.pointer (some ⟨a.rq, 0, none⟩), Value.pointer (some ⟨a.rt, 0, none⟩)].toArray N_ref15_World (0, 0)) := k.but _ _ x.cw (by rw [x.ow]; exact fun e => n7 (Option.some.inj e).symm)
theorem Wld.setCat (x : Wld h o s w a ev most e1 e2 l L n1 o1 n2 o2) (k : OC 0 o o' h h') (ow : Owns o' h') (c : CatO h' o' 0 a.p e1') : Wld h' o' s w a ev most e1' e2 l L n1 o1 n2 o2 :=
  ⟨ow, x.at6 k (by decide), k.own _ _ x.os, x.at7 k (by decide), k.own _ _ x.ow, c, x.quo.oc k (by decide), x.sto.oc k (by decide), x.ref.oc k (by decide), x.rq.oc k (by decide), x.rst.oc k (by decide)⟩
theorem Wld.setQuo (x : Wld h o s w a ev most e1 e2 l L n1 o1 n2 o2) (k : OC 1 o o' h h') (ow : Owns o' h') (c : QuoO h' o' 1 a.q 256 most l') : Wld h' o' s w a ev most e1 e2 l' L n1 o1 n2 o2 :=
  ⟨ow, x.at6 k (by decide), k.own _ _ x.os, x.at7 k (by decide), k.own _ _ x.ow, x.cat.oc k (by decide), c, x.sto.oc k (by decide), x.ref.oc k (by decide), x.rq.oc k (by decide), x.rst.oc k (by decide)⟩
theorem Wld.setSto (x : Wld h o s w a ev most e1 e2 l L n1 o1 n2 o2) (k : OC 2 o o' h h') (ow : Owns o' h') (c : StoO h' o' 2 a.t 8 64 n1' o1') : Wld h' o' s w a ev most e1 e2 l L n1' o1' n2 o2 :=
  ⟨ow, x.at6 k (by decide), k.own _ _ x.os, x.at7 k (by decide), k.own _ _ x.ow, x.cat.oc k (by decide), x.quo.oc k (by decide), c, x.ref.oc k (by decide), x.rq.oc k (by decide), x.rst.oc k (by decide)⟩
theorem Wld.setRef (x : Wld h o s w a ev most e1 e2 l L n1 o1 n2 o2) (k : OC 3 o o' h h') (ow : Owns o' h') (c : RefO h' o' 3 a.rp ev' e2') : Wld h' o' s w a ev' most e1 e2' l L n1 o1 n2 o2 :=
  ⟨ow, x.at6 k (by decide), k.own _ _ x.os, x.at7 k (by decide), k.own _ _ x.ow, x.cat.oc k (by decide), x.quo.oc k (by decide), x.sto.oc k (by decide), c, x.rq.oc k (by decide), x.rst.oc k (by decide)⟩
theorem Wld.setRq (x : Wld h o s w a ev most e1 e2 l L n1 o1 n2 o2) (k : OC 4 o o' h h') (ow : Owns o' h') (c : RqO h' o' 4 a.rq 256 most L') : Wld h' o' s w a ev most e1 e2 l L' n1 o1 n2 o2 :=
  ⟨ow, x.at6 k (by decide), k.own _ _ x.os, x.at7 k (by decide), k.own _ _ x.ow, x.cat.oc k (by decide), x.quo.oc k (by decide), x.sto.oc k (by decide), x.ref.oc k (by decide), c, x.rst.oc k (by decide)⟩
theorem Wld.setRst (x : Wld h o s w a ev most e1 e2 l L n1 o1 n2 o2) (k : OC 5 o o' h h') (ow : Owns o' h') (c : RstO h' o' 5 a.rt 8 64 n2' o2') : Wld h' o' s w a ev most e1 e2 l L n1 o1 n2' o2' :=
  ⟨ow, x.at6 k (by decide), k.own _ _ x.os, x.at7 k (by decide), k.own _ _ x.ow, x.cat.oc k (by decide), x.quo.oc k (by decide), x.sto.oc k (by decide), x.ref.oc k (by decide), x.rq.oc k (by decide), c⟩
theorem Wld.keep (x : Wld h o s w a ev most e1 e2 l L n1 o1 n2 o2) (k : Keeps h h') : Wld h' o s w a ev most e1 e2 l L n1 o1 n2 o2 :=
  have k9 : OC 9 o o h h' := OC.keeps k
  ⟨x.own.keep k, x.at6 k9 (by decide), x.os, x.at7 k9 (by decide), x.ow, x.cat.oc k9 (by decide), x.quo.oc k9 (by decide), x.sto.oc k9 (by decide), x.ref.oc k9 (by decide), x.rq.oc k9 (by decide), x.rst.oc k9 (by decide)⟩
theorem Wld.free (x : Wld h o s w a ev most e1 e2 l L n1 o1 n2 o2) {F : Nat → Prop} (k : But F h h') (d : ∀ c, h' c = none → h c = none) (f : ∀ c, F c → o c = none) : Wld h' o s w a ev most e1 e2 l L n1 o1 n2 o2 := by
  have no : ∀ {c i}, o c = some i → ¬ F c := fun e g => by rw [f _ g] at e; cases e
  obtain ⟨kn, G0, c1, c2⟩ := x.cat
  obtain ⟨b, q1, q2, q3⟩ := x.quo
  obtain ⟨F2, P2, t1, t2⟩ := x.sto
  obtain ⟨G3, r1, r2⟩ := x.ref
  obtain ⟨sl, z1, z2, z3⟩ := x.rq
  obtain ⟨G5, v1, v2⟩ := x.rst
  exact ⟨fun c e z => x.own c e (d c z), k _ _ x.cs (no x.os), x.os, k _ _ x.cw (no x.ow), x.ow, ⟨kn, G0, c1.but k fun c e g => no (c2 c g) e, c2⟩, ⟨b, q1.but k (no q2) (no q3), q2, q3⟩, ⟨F2, P2, t1.other k fun c e _ => ⟨fun g => no (t2 c (.inl g)) e, fun g => no (t2 c (.inr g)) e⟩, t2⟩,
    ⟨G3, r1.but k fun c e g => no (r2 c g) e, r2⟩, ⟨sl, z1.but k (no z2) fun c g => no (z3 c g), z2, z3⟩, ⟨G5, v1.other k fun c e _ g => no (v2 c g) e, v2⟩⟩
theorem Wld.s0 (x : Wld h o s w a ev most e1 e2 l L n1 o1 n2 o2) : At h ((⟨s, 0, none⟩ : Addr).add 0) (cPtr (some ⟨a.p, 0, none⟩)) := by
  rw [pt_add]; exact At.own (l1 := []) (l3 := [Value.pointer (some ⟨a.q, 0, none⟩), Value.pointer (some ⟨a.t, 0, none⟩)]) x.cs rfl
theorem Wld.s1 (x : Wld h o s w a ev most e1 e2 l L n1 o1 n2 o2) : At h ((⟨s, 0, none⟩ : Addr).add 1) (cPtr (some ⟨a.q, 0, none⟩)) := by
  rw [pt_add]; exact At.own (l1 := [Value.pointer (some ⟨a.p, 0, none⟩)]) (l3 := [Value.pointer (some ⟨a.t, 0, none⟩)]) x.cs rfl
theorem Wld.s2 (x : Wld h o s w a ev most e1 e2 l L n1 o1 n2 o2) : At h ((⟨s, 0, none⟩ : Addr).add 2) (cPtr (some ⟨a.t, 0, none⟩)) := by
  rw [pt_add]; exact At.own (l1 := [Value.pointer (some ⟨a.p, 0, none⟩), Value.pointer (some ⟨a.q, 0, none⟩)]) (l3 := []) x.cs rfl
theorem Wld.w0 (x : Wld h o s w a ev most e1 e2 l L n1 o1 n2 o2) : At h ((⟨w, 0, none⟩ : Addr).add 0) (cPtr (some ⟨a.rp, 0, none⟩)) := by
  rw [pt_add]; exact At.own (l1 := []) (l3 := [Value.pointer (some ⟨a.rq, 0, none⟩), Value.pointer (some ⟨a.rt, 0, none⟩)]) x.cw rfl
theorem Wld.w1 (x : Wld h o s w a ev most e1 e2 l L n1 o1 n2 o2) : At h ((⟨w, 0, none⟩ : Addr).add 1) (cPtr (some ⟨a.rq, 0, none⟩)) := by
  rw [pt_add]; exact At.own (l1 := [Value.pointer (some ⟨a.rp, 0, none⟩)]) (l3 := [Value.pointer (some ⟨a.rt, 0, none⟩)]) x.cw rfl
theorem Wld.w2 (x : Wld h o s w a ev most e1 e2 l L n1 o1 n2 o2) : At h ((⟨w, 0, none⟩ : Addr).add 2) (cPtr (some ⟨a.rt, 0, none⟩)) := by
  rw [pt_add]; exact At.own (l1 := [Value.pointer (some ⟨a.rp, 0, none⟩), Value.pointer (some ⟨a.rq, 0, none⟩)]) (l3 := []) x.cw rfl
theorem Wld.law1 (x : Wld h o s w a ev most e1 e2 l L n1 o1 n2 o2) : SLaw 8 64 n1 o1 := x.sto.law
theorem t_told (x : Wld h o s w a ev most e1 e1 l L n1 o1 n1 o1) (rel : RelQ l L) {K : Bool → H → Prop} (y : ∀ h', Keeps h h' → K true h') : m_law15_told (some ⟨s, 0, none⟩) (some ⟨w, 0, none⟩) K h := by
  have lw := x.law1
  have lm := lw.most
  unfold m_law15_told
  refine w_deref (w_load x.w2 (o_rids x.rst lw fun s1 h1 b1 k1 f1 => ?_))
  have x1 := x.keep k1
  refine w_deref (w_load x1.s2 (o_sids x1.sto fun s2 h2 b2 k2 f2 => ?_))
  have x2 := x1.keep k2
  have l1 := b1.len
  have l2 := b2.len
  have b1' := b1.keep k2
  have K2 := k1.trans k2
  refine w_joinP (fun z h' => z = false ∧ Keeps h2 h') (fun j hj => w_ifF (by rw [l1, l2]; simp) (w_deref (w_deref (w_load x2.s0 (w_joinV ((((capsG 0 e1).length : Nat) : Int), some (⟨a.rp, 0, none⟩ : Addr)) (fun J hJ => w_both (o_count x2.cat (w_load x2.w0 hJ)) (w_load x2.w0 (o_count x2.cat hJ))) (o_rcount x2.ref ?_)))))) ?_
  · rw [decide_eq_true rfl]; exact hj _ _ ⟨rfl, .refl _⟩
  rintro _ h3 ⟨rfl, k3⟩
  have x3 := x2.keep k3
  refine w_joinP (fun z h' => z = false ∧ Keeps h3 h') (fun j hj => w_ifF rfl (w_deref (w_deref (w_load x3.s1 (w_joinP (fun z h' => z = (asum l, (L.length : Int)) ∧ Keeps h3 h') (fun J hJ => ?_) ?_))))) ?_
  · have rdq : ∀ {hh : H} (_ : Keeps h3 hh) {k : Option Addr → Addr → Sl → H → Prop}, (∀ sl, (sl.len : Int) = (L.length : Int) → k (some ⟨a.rq, 0, none⟩) ⟨a.rq, 0, none⟩ sl hh) → mLoad cPtr ((⟨w, 0, none⟩ : Addr).add 1) (fun x166 => mDeref x166 fun ad167 => mLoad cSl (ad167.add 2) fun x168 => k x166 ad167 x168) hh := fun {hh} kk {k} q => by
      have xx := x3.keep kk
      obtain ⟨sl, z1, _⟩ := xx.rq
      exact w_load xx.w1 (w_deref (w_load z1.f2 (q sl (by rw [z1.buf.len]))))
    refine w_both (o_qall x3.quo fun h4 k4 => rdq k4 (k := fun _ _ sl => J (asum l, (sl.len : Int))) fun sl e => hJ _ _ ⟨by rw [e], k4⟩) ?_
    obtain ⟨sl, z1, _⟩ := x3.rq
    have el : (sl.len : Int) = (L.length : Int) := by rw [z1.buf.len]
    exact w_load x3.w1 (w_deref (w_both (o_qall x3.quo fun h4 k4 => w_load (z1.keep k4).f2 (hJ _ _ ⟨by rw [el], k4⟩)) (w_load z1.f2 (o_qall x3.quo fun h4 k4 => hJ _ _ ⟨by rw [el], k4⟩))))
  · rintro _ h4 ⟨rfl, k4⟩
    exact hj _ _ ⟨by simp [rel.2], k4⟩
  rintro _ h4 ⟨rfl, k4⟩
  have x4 := x3.keep k4
  refine w_joinP (fun z h' => z = false ∧ Keeps h4 h') (fun j hj => w_ifF rfl (w_deref (w_deref (w_load x4.s2 (w_joinP (fun z h' => z = (((64 - usedS o1 : Nat) : Int), some (⟨a.rt, 0, none⟩ : Addr)) ∧ Keeps h4 h') (fun J hJ => ?_) ?_))))) ?_
  · obtain ⟨F, P, t1, _⟩ := x4.sto
    exact w_both (t_SFree t1 fun h5 k5 => w_load (x4.keep k5).w2 (hJ _ _ ⟨rfl, k5⟩)) (w_load x4.w2 (t_SFree t1 fun h5 k5 => hJ _ _ ⟨rfl, k5⟩))
  · rintro _ h5 ⟨rfl, k5⟩
    obtain ⟨G5, v1, _⟩ := (x4.keep k5).rst
    refine t_RFree v1 lw ?_
    exact hj _ _ ⟨by simp, k5⟩
  rintro _ h5 ⟨rfl, k5⟩
  have x5 := x4.keep k5
  refine w_joinP (fun z h' => z = false ∧ Keeps h5 h') (fun j hj => w_ifF rfl (w_deref (w_deref (w_load x5.s2 (w_joinV (n1, n1) (fun J hJ => ?_) ?_))))) ?_
  · obtain ⟨F, P, t1, _⟩ := x5.sto
    obtain ⟨G5, ⟨sl, items, r⟩, _⟩ := x5.rst
    exact w_both (t_SNext t1 (w_load x5.w2 (w_deref (w_load r.f3 hJ)))) (w_load x5.w2 (w_deref (w_both (t_SNext t1 (w_load r.f3 hJ)) (w_load r.f3 (t_SNext t1 hJ)))))
  · exact hj _ _ ⟨by simp, .refl _⟩
  rintro _ h6 ⟨rfl, k6⟩
  have x6 := x5.keep k6
  have k26 : Keeps h2 h6 := ((k3.trans k4).trans k5).trans k6
  have K6 := K2.trans k26
  refine w_ifF rfl (w_for 10 (fun i (z : Int) h' => z = (i : Int) ∧ Keeps h2 h' ∧ Keeps h h') ?_ ⟨rfl, k26, K6⟩)
  rintro rec i z h7 hi ⟨rfl, k27, K7⟩ more
  have x7 := x.keep K7
  refine w_if' (fun c => ?_) fun c => y _ K7
  have c : (i : Int) ≤ 9 := c
  refine w_joinP (fun (_ : Int) h' => h' = h7) (fun j hj => w_if' (fun c2 => ?_) fun _ => hj _ _ rfl) ?_
  · have c2 : (i : Int) < (s1.len : Int) := c2
    have hil : i < (o1.map (·.1)).length := by omega
    exact w_idx ci_len (b1'.keep k27).arr (List.getElem?_eq_getElem hil) rfl fun ad _ had => w_load had (hj _ _ rfl)
  rintro n h8 e8
  obtain rfl : h7 = h8 := e8.symm
  obtain ⟨G5, v1, _⟩ := x7.rst
  obtain ⟨F, P, t1, _⟩ := x7.sto
  refine w_deref (w_load x7.w2 (t_RSize v1 lw (w_deref (w_load x7.s2 (t_SSize t1 ?_)))))
  generalize ((alook o1 n).map (·.length)).getD 0 = sz
  generalize (alook o1 n).isSome = ok
  refine w_deref (w_load x7.w2 (t_RReadX v1 lw fun sa h9 ba k9 fa => ?_))
  have x9 := x7.keep k9
  obtain ⟨F, P, t9, _⟩ := x9.sto
  refine w_deref (w_load x9.s2 (t_SReadX t9 fun sb hA bb kA fb => ?_))
  have xA := x9.keep kA
  have kA7 := k9.trans kA
  refine w_joinV false (fun j hj => w_ifF (by simp) (w_text (ba.keep kA).arr (w_text bb.arr ?_))) ?_
  · rw [bytes_eq, decide_eq_true rfl]; exact hj
  refine w_joinV false (fun j hj => w_ifF rfl (w_deref (w_deref (w_load xA.s1 (w_joinV (qcnt l n, some (⟨a.rq, 0, none⟩ : Addr)) (fun J hJ => w_both (o_qof xA.quo (w_load xA.w1 hJ)) (w_load xA.w1 (o_qof xA.quo hJ))) ?_))))) ?_
  · obtain ⟨sl, z1, _⟩ := xA.rq
    refine t_QROf z1 ?_
    rw [rel.1 n, decide_eq_true rfl]; exact hj
  have wl := xA.cat.wf
  have ll := wl.len
  refine w_joinP (fun z h' => z = false ∧ Keeps hA h') (fun j hj => w_ifF rfl (w_deref (w_deref (w_load xA.s0 (w_joinP (fun (z : Sl × Option Addr) h' => z.2 = some ⟨a.rp, 0, none⟩ ∧ Buf cTok 5 N_api_Token h' z.1 (ofO e1 n) ∧ Keeps hA h') (fun J hJ => w_both (o_of xA.cat fun sc hB bc kB fc => w_load (xA.keep kB).w0 (hJ _ _ ⟨rfl, bc, kB⟩)) (w_load xA.w0 (o_of xA.cat fun sc hB bc kB fc => hJ _ _ ⟨rfl, bc, kB⟩))) ?_))))) ?_
  · rintro ⟨sc, rp⟩ hB ⟨e, bc, kB⟩
    have e : rp = some ⟨a.rp, 0, none⟩ := e
    subst e
    refine o_rof (xA.keep kB).ref fun sd hC bd kC fd => ?_
    refine t_sameTokens (bc.keep kC).arr bd.arr (by have := ofO_len wl n; omega) ?_
    exact hj _ _ ⟨rfl, kB.trans kC⟩
  rintro _ hB ⟨rfl, kB⟩
  exact w_ifF rfl (more _ _ (by omega) ⟨ia1 i (by omega), (k27.trans kA7).trans kB, (K7.trans kA7).trans kB⟩)
end
theorem caps_full : ∀ (es : List En) (k : Nat), (∀ e ∈ es, e.isSome = true) → (capsG k es).length = es.length := by
  intro es
  induction es with
  | nil => exact fun _ _ => rfl
  | cons e r ih =>
    intro k hh
    have he := hh e (List.mem_cons_self ..)
    have := ih (k + 1) fun x hx => hh x (List.mem_cons_of_mem _ hx)
    cases e with
    | none => cases he
    | some p => obtain ⟨u, us⟩ := p; rw [capsG]; simp only [List.length_cons]; omega
theorem free_of {es : List En} (h : (capsG 0 es).length < es.length) : ∃ n, freeE es = some n := by
  cases e : freeE es with
  | some n => exact ⟨n, rfl⟩
  | none =>
    unfold freeE freeU at e
    rw [List.findIdx?_eq_none_iff] at e
    have := caps_full es 0 fun x hx => by
      have := e x.isSome (List.mem_map.2 ⟨x, hx, rfl⟩)
      simpa using this
    omega
structure Inv (most : Int) (es : List En) (l : List (Int × Int)) (L : List Int) (nx : Int) (ob : List (Int × List UInt8)) : Prop where
  len : (es.length : Int) = most
  rel : RelQ l L
  cnt : ∀ o, cnt es o = L.count o
  tot : (capsG 0 es).length = L.length
  ids : ∀ o, 0 < K.cnt es o ↔ o ∈ ob.map (·.1)
theorem ofE_get {es : List En} {l : List Int} {i : Nat} {z : Int} (h : l[i]? = some z) : (ofE es l)[i]? = some (tokIn es l z) := by
  unfold ofE; rw [List.getElem?_map, h]; rfl
theorem ofO_get {es : List En} (w : CWF es) {o : Int} {i : Nat} {u : S_api_Token} (h : (ofO es o)[i]? = some u) : ∃ n t ks, Has es n t ks ∧ t.Cap.Obj = o ∧ u.Cap = t.Cap ∧ u.Rights = t.Rights := by
  by_cases hex : ∃ i t ks, Has es i t ks ∧ t.Cap.Obj = o
  · obtain ⟨i0, t0, ks0, h0, e0⟩ := hex
    obtain ⟨r, t, ks, hr, hp, eo, _⟩ := w.rootOf h0
    obtain ⟨l, bl⟩ := w.ex hr
    rw [ofO_some w hr (eo.trans e0) hp bl] at h
    have hil : i < l.length := by
      have := lt_of_get h
      unfold ofE at this; rwa [List.length_map] at this
    have hz := List.getElem?_eq_getElem hil
    rw [ofE_get hz] at h
    obtain ⟨n, v, vs, ez, hv⟩ := hasN_nds.1 (bl.live _ (List.getElem_mem hil))
    rw [ez, tokIn_has hv] at h
    cases h
    have hm : (n : Int) ∈ l := by rw [← ez]; exact List.getElem_mem hil
    exact ⟨n, v, vs, hv, (bl.obj w hr hm hv).trans (eo.trans e0), rfl, rfl⟩
  · rw [ofO_none fun i t ks q e => hex ⟨i, t, ks, q, e⟩] at h
    simp at h
section
variable {most : Int} {es : List En} {l : List (Int × Int)} {L : List Int} {nx : Int} {ob : List (Int × List UInt8)}
theorem Inv.root (v : Inv most es l L nx ob) (lw : SLaw 8 64 nx ob) (hm : (L.length : Int) < most) {W : S_api_Word} {bs : List UInt8} (hmost : most ≤ 256) :
    ∃ n, (rootOut es ⟨nx, W⟩ 31).1 = (n, 0) ∧ mayOf 256 most l nx = 0 ∧ rmayOf 256 most L nx = 0 ∧ Inv most (rootOut es ⟨nx, W⟩ 31).2 (addL 256 most l nx) (L ++ [nx]) (nx + 1) (ob ++ [(nx, bs)]) := by
  have hno : nx ∉ ob.map (·.1) := fun hm => by
    obtain ⟨q, hq, e⟩ := List.mem_map.1 hm
    have := (lw.ids q hq).2
    omega
  have h0 : K.cnt es nx = 0 := by
    have := v.ids nx
    rcases Nat.eq_zero_or_pos (K.cnt es nx) with q | q
    · exact q
    · exact absurd (this.1 q) hno
  have hlen := v.len
  have htot := v.tot
  obtain ⟨n, hn⟩ := free_of (es := es) (by omega)
  have e1 : rootOut es ⟨nx, W⟩ 31 = (((n : Int), 0), rootE es n ⟨⟨nx, W⟩, 31, -1⟩) := by
    unfold rootOut
    rw [if_pos (by decide), if_neg (by show ¬ 0 < K.cnt es nx; omega), hn]
  have hr : rmayOf 256 most L nx = 0 := by
    unfold rmayOf
    have : L.count nx ≤ L.length := List.count_le_length
    rw [if_neg (by omega), if_neg (by omega)]
  have perm : (capsG 0 (rootE es n ⟨⟨nx, W⟩, 31, -1⟩)).Perm ((⟨nx, W⟩, (n : Int)) :: capsG 0 es) := by
    have := capsG_new (t := ⟨⟨nx, W⟩, 31, -1⟩) (ks := []) (k := 0) (freeE_some hn)
    rwa [Nat.zero_add] at this
  have hcnt := cnt_cons perm
  refine ⟨_, by rw [e1], by rw [v.rel.code]; exact hr, hr, ?_⟩
  rw [e1]
  have rel' := v.rel.add (each := 256) (all := most) nx
  rw [if_pos hr] at rel'
  refine ⟨by unfold rootE; rw [List.length_set]; exact hlen, rel', fun o => ?_, ?_, fun o => ?_⟩
  · show K.cnt (rootE es n ⟨⟨nx, W⟩, 31, -1⟩) o = _
    rw [hcnt, v.cnt, List.count_append, List.count_singleton]
    simp only [beq_iff_eq]
  · show (capsG 0 (rootE es n ⟨⟨nx, W⟩, 31, -1⟩)).length = _
    rw [perm.length_eq, List.length_cons, List.length_append, List.length_singleton, htot]
  · show 0 < K.cnt (rootE es n ⟨⟨nx, W⟩, 31, -1⟩) o ↔ _
    rw [hcnt, List.map_append, List.mem_append, ← v.ids o]
    simp only [List.map_cons, List.map_nil, List.mem_singleton]
    by_cases q : nx = o
    · rw [if_pos q]; simp [q]
    · rw [if_neg q]
      constructor
      · intro z; exact .inl (by omega)
      · rintro (z | z)
        · omega
        · exact absurd z.symm q
theorem Inv.child (v : Inv most es l L nx ob) {q : Int} {o : Int} {W : S_api_Word} {r : Int} (hp : 0 < K.cnt es o) (hr : rmayOf 256 most L o = 0) :
    (childOut es q ⟨o, W⟩ r).2 = es ∧ (childOut es q ⟨o, W⟩ r).1.2 ≠ 0 ∨ (childOut es q ⟨o, W⟩ r).1.2 = 0 ∧ Inv most (childOut es q ⟨o, W⟩ r).2 (addL 256 most l o) (L ++ [o]) nx ob := by
  unfold childOut
  split
  · exact .inl ⟨rfl, by simp⟩
  · rename_i t ks hq
    obtain ⟨q, rfl, hq'⟩ := atE_has.1 hq
    split
    · split
      · split
        · exact .inl ⟨rfl, by simp⟩
        · split
          · exact .inl ⟨rfl, by simp⟩
          · rename_i n hn
            refine .inr ⟨rfl, ?_⟩
            rw [Int.toNat_natCast]
            have perm := capsG_child (t := ⟨⟨o, W⟩, r, (q : Int)⟩) hq' (freeE_some hn)
            have hcnt := cnt_cons perm
            have rel' := v.rel.add (each := 256) (all := most) o
            rw [if_pos hr] at rel'
            have hlen : (childE es q n ⟨⟨o, W⟩, r, (q : Int)⟩).length = es.length := by
              unfold childE; rw [hq']; simp only [List.length_set]
            refine ⟨by rw [hlen]; exact v.len, rel', fun o' => ?_, ?_, fun o' => ?_⟩
            · rw [hcnt, v.cnt, List.count_append, List.count_singleton]
              simp only [beq_iff_eq]
            · rw [perm.length_eq, List.length_cons, List.length_append, List.length_singleton, v.tot]
            · rw [hcnt, ← v.ids o']
              by_cases z : o = o'
              · subst z; simp [hp]
              · show 0 < K.cnt es o' + (if o = o' then 1 else 0) ↔ _
                rw [if_neg z, Nat.add_zero]
      · exact .inl ⟨rfl, by simp⟩
    · exact .inl ⟨rfl, by simp⟩
theorem root_stays {es : List En} (w : CWF es) {n : Nat} {t ks} (hn : Has es n t ks) (hp : t.Parent ≠ -1) : 0 < K.cnt (cutE (belowOf es n) es) t.Cap.Obj := by
  obtain ⟨r, u, us, hr, hpr, eo, d⟩ := w.rootOf hn
  obtain ⟨l, bl⟩ := w.ex hn
  rw [bl.eq]
  have hne : (n : Int) ≠ (r : Int) := fun e => by
    obtain rfl : n = r := by omega
    exact hp ((hn.uniq hr).1 ▸ hpr)
  have hnot : (r : Int) ∉ l := fun hm => by
    obtain ⟨z, hz, dz⟩ := bl.pre.mem.1 hm
    obtain rfl := List.mem_singleton.1 hz
    have := (w.parDesc hr hne).1 dz
    rw [hpr] at this; omega
  exact cnt_pos.2 ⟨r, u, _, has_cut.2 ⟨hnot, us, hr, rfl⟩, eo⟩
theorem delL_mem {ob : List (Int × List UInt8)} {x o : Int} : o ∈ (delL ob x).map (·.1) ↔ o ≠ x ∧ o ∈ ob.map (·.1) := by
  unfold delL
  simp only [List.mem_map, List.mem_filter, Bool.not_eq_true', decide_eq_false_iff_not]
  constructor
  · rintro ⟨q, ⟨h1, h2⟩, rfl⟩; exact ⟨h2, q, h1, rfl⟩
  · rintro ⟨h2, q, h1, rfl⟩; exact ⟨q, ⟨h1, h2⟩, rfl⟩
theorem Inv.drop (v : Inv most es l L nx ob) (w : CWF es) (ho : Once l) {n : Nat} {t ks} (hn : Has es n t ks) :
    subOk l t.Cap.Obj ((belowOf es n).length : Int) = true ∧ rsubOk L t.Cap.Obj ((belowOf es n).length : Int) = true ∧
    Inv most (cutE (belowOf es n) es) (subL l t.Cap.Obj ((belowOf es n).length : Int)) (dropN t.Cap.Obj L ((belowOf es n).length : Int)) nx (if t.Parent < 0 then delL ob t.Cap.Obj else ob) := by
  obtain ⟨bs, bl⟩ := w.ex hn
  have eb := bl.eq
  rw [eb]
  obtain ⟨c1, c2⟩ := bl.cnt w hn
  have cc := c1 t.Cap.Obj
  rw [if_pos rfl, v.cnt] at cc
  have ok : rsubOk L t.Cap.Obj (bs.length : Int) = true := by
    unfold rsubOk
    rw [Bool.and_eq_true, decide_eq_true_eq, decide_eq_true_eq]
    omega
  have ok' : subOk l t.Cap.Obj (bs.length : Int) = true := by rw [v.rel.subOk]; exact ok
  have rel' := v.rel.sub ho t.Cap.Obj (bs.length : Int)
  rw [if_pos ok] at rel'
  obtain ⟨d1, d2⟩ := dropN_count t.Cap.Obj L (bs.length : Int) (by omega) (by omega)
  refine ⟨ok', ok, by rw [cutE_len]; exact v.len, rel', fun o => ?_, ?_, fun o => ?_⟩
  · have q1 := c1 o
    have q2 := d1 o
    rw [v.cnt] at q1
    by_cases z : o = t.Cap.Obj
    · subst z; rw [if_pos rfl] at q1 q2; omega
    · rw [if_neg z] at q1 q2; omega
  · have := v.tot; omega
  · have q1 := c1 o
    by_cases hp : t.Parent < 0
    · rw [if_pos hp, delL_mem, ← v.ids o]
      have hp1 : t.Parent = -1 := by
        rcases w.up _ _ _ hn with q | ⟨i, _, _, e, _⟩
        · exact q
        · omega
      have := w.cntObj hn hp1 bl
      by_cases z : o = t.Cap.Obj
      · subst z; rw [if_pos rfl] at q1
        constructor
        · intro; omega
        · intro q; exact absurd rfl q.1
      · rw [if_neg z] at q1
        constructor
        · intro; exact ⟨z, by omega⟩
        · intro q; have := q.2; omega
    · rw [if_neg hp, ← v.ids o]
      have hr := root_stays w hn (by omega)
      rw [eb] at hr
      by_cases z : o = t.Cap.Obj
      · subst z; constructor
        · intro; omega
        · intro; exact hr
      · rw [if_neg z] at q1
        constructor <;> intro <;> omega
end
section
variable {h h' : H} {o o' : Owner} {s w : Nat} {a : Pts} {ev ev' : Nat} {most : Int} {e1 e2 e1' e2' : List En} {l l' : List (Int × Int)} {L L' : List Int} {n1 n2 n1' n2' : Int} {o1 o2 o1' o2' : List (Int × List UInt8)}
theorem OT.none (k : OT o o' h h') {c : Nat} {z : Obj} (e : o c = .none) (hc : h c = some z) : o' c = .none ∧ h' c = some z := by
  refine ⟨?_, k.but c z hc e⟩
  cases q : o' c with
  | none => rfl
  | some t => exact (k.new c (by rw [q]; simp)).elim (fun n => (n e).elim) fun n => by rw [n] at hc; cases hc
theorem Owns.none (ow : Owns o h) {c : Nat} (e : h c = .none) : o c = .none := by
  cases q : o c with
  | none => rfl
  | some t => exact absurd e (ow c (by rw [q]; simp))
theorem t_drop (x : Wld h o s w a ev most e1 e2 l L n1 o1 n2 o2) {n : Nat} {t ks} (hn : Has e1 n t ks) {K : Sl → H → Prop}
    (y : ∀ s' o' h', Wld h' o' s w a ev most (cutE (belowOf e1 n) e1) e2 (subL l t.Cap.Obj ((belowOf e1 n).length : Int)) L n1 (if t.Parent < 0 then delL o1 t.Cap.Obj else o1) n2 o2 → OT o o' h h' → Buf S_api_Cap.cells 3 N_api_Cap h' s' ((belowOf e1 n).map (capAt e1)) → (∀ c, s'.foot c → h c = none ∧ o' c = none) → K s' h') :
    m_revoke_drop (some ⟨a.p, 0, none⟩) (some ⟨a.q, 0, none⟩) (some ⟨a.t, 0, none⟩) (n : Int) K h := by
  unfold m_revoke_drop m_revoke_drop_g
  refine w_box fun b1 h1 f1 c1 k1 => w_box fun b2 h2 f2 c2 k2 => o_at (x.keep (k1.trans k2)).cat ?_
  rw [atOut_has hn]
  refine w_box fun b3 h3 f3 c3 k3 => w_setBox (new := cTok t) c3 rfl fun h4 c4 bt4 d4 => ?_
  have K3 : Keeps h h3 := (k1.trans k2).trans k3
  have f2' := k1.fresh f2
  have f3' := (k1.trans k2).fresh f3
  have K4 : Keeps h h4 := K3.but bt4 fun c e => by (have e : c = b3 := e); rw [e]; exact f3'
  have x4 := x.keep K4
  have u1 := x.own.none f1
  have u2 := x.own.none f2'
  have u3 := x.own.none f3'
  have ne31 : b1 ≠ b3 := fun e => by rw [← e, k2 _ _ c1] at f3; cases f3
  have ne32 : b2 ≠ b3 := fun e => by rw [← e, c2] at f3; cases f3
  have q1 : h4 b1 = _ := bt4 _ _ (k3 _ _ (k2 _ _ c1)) ne31
  have q2 : h4 b2 = _ := bt4 _ _ (k3 _ _ c2) ne32
  have qt : ∀ {hh : H} {j : Nat} {l1 l2 l3 : List Value}, hh b3 = some (.cells (cTok t).toArray N_api_Token (0, 0)) → cTok t = l1 ++ l2 ++ l3 → l1.length = j → At hh ⟨b3, j, none⟩ l2 := fun q e e' => At.own (by rw [← e]; exact q) e'
  refine w_joinP (fun _ hh => ∃ o', Wld hh o' s w a ev most e1 e2 l L n1 (if t.Parent < 0 then delL o1 t.Cap.Obj else o1) n2 o2 ∧ OT o o' h4 hh) (fun j hj => ?_) ?_
  · refine w_load (v := t.Parent) (cells := cInt .i64) (by rw [pt_add]; exact qt (l1 := (cTok t).take 4) (l3 := []) c4 rfl rfl) (w_if' (fun c => ?_) fun c => ?_)
    · refine w_load (v := t.Cap.Obj) (cells := cInt .i64) (by rw [pt_add, pt_add]; exact qt (l1 := []) (l3 := (cTok t).drop 1) c4 rfl rfl) (o_sdestroy x4.sto x4.own fun e o' h5 st k5 ow5 => hj _ _ ⟨o', ?_, k5.ot⟩)
      rw [if_pos c]
      exact x4.setSto k5 ow5 st
    · exact hj _ _ ⟨o, by rw [if_neg c]; exact x4, .refl _ _⟩
  rintro _ h5 ⟨o', x5, t5⟩
  obtain ⟨v1, r1⟩ := t5.none u1 q1
  obtain ⟨v2, r2⟩ := t5.none u2 q2
  obtain ⟨v3, r3⟩ := t5.none u3 c4
  refine o_drop x5.cat x5.own (fun e => by rw [(atE_has (i := (n : Int))).2 ⟨n, rfl, hn⟩] at e; cases e) fun n' t' ks' en hn' bl sl o6 h6 ct6 k6 ow6 bu6 f6 => ?_
  obtain rfl : n = n' := by omega
  have x6 := x5.setCat k6 ow6 ct6
  obtain ⟨v1, r1⟩ := k6.ot.none v1 r1
  obtain ⟨v2, r2⟩ := k6.ot.none v2 r2
  obtain ⟨v3, r3⟩ := k6.ot.none v3 r3
  have off : ∀ c, sl.foot c → c ≠ b2 := fun c f e => by
    have := (f6 c f).1
    obtain ⟨_, rr⟩ := t5.none u2 q2
    rw [e, rr] at this; cases this
  refine w_setBox (new := [Sl.val sl]) r2 rfl fun h7 c7 b7 d7 => w_load (v := sl) (cells := cSl) (at_box c7) (w_setBox (new := [Sl.val sl]) c7 rfl fun h8 c8 b8 d8 => ?_)
  have b78 : But (· = b2) h6 h8 := b7.trans b8 fun _ q => .inl q
  have x8 := x6.free b78 (fun c e => d7 c (d8 c e)) fun c e => by (have e : c = b2 := e); rw [e]; exact v2
  have ne12 : b1 ≠ b2 := fun e => by rw [← e, c1] at f2; cases f2
  have r1' := b78 _ _ r1 ne12
  have r3' := b78 _ _ r3 fun e => ne32 e.symm
  have bu8 := bu6.but b78 fun ad ha e => off _ ⟨ad, ha, rfl⟩ e
  unfold m_revoke_drop_1
  refine w_load (v := some ⟨a.q, 0, none⟩) (cells := cPtr) (at_box r1') (w_load (v := t.Cap.Obj) (cells := cInt .i64) (by rw [pt_add, pt_add]; exact qt (l1 := []) (l3 := (cTok t).drop 1) r3' rfl rfl) (w_load (v := sl) (cells := cSl) (at_box c8) ?_))
  have hlen : (sl.len : Int) = ((belowOf e1 n).length : Int) := by rw [bu8.len, List.length_map]
  rw [hlen]
  refine o_qsub x8.quo x8.own fun h9 q9 k9 ow9 => ?_
  have x9 := x8.setQuo k9 ow9 q9
  have free2 : But (· = b2) h6 h8 := b78
  have r2' := k9.but _ _ c8 (by rw [v2]; simp)
  refine w_load (v := sl) (cells := cSl) (at_box r2') ?_
  have t46 : OT o o6 h4 h6 := t5.trans k6.ot
  have t6 : OT o o6 h h6 := (OT.keeps K4).trans t46
  have t8 : OT o o6 h h8 := ⟨fun c z e n => b78 _ _ (t6.but c z e n) fun q => (by (have q : c = b2 := q); rw [q, f2'] at e; cases e), t6.own, t6.new, fun c e => t6.dom c (d7 c (d8 c e))⟩
  refine y sl o6 h9 x9 (t8.trans k9.ot) (bu8.but k9.bt fun ad ha e => ?_) fun c f => ⟨K4.fresh (t5.dom c (f6 c f).1), (f6 c f).2⟩
  rw [(f6 _ ⟨ad, ha, rfl⟩).2] at e; cases e
theorem nz_and {r : Int} (hr : 1 ≤ r ∧ r ≤ 31) {m : Int} (hm : m = 8 ∨ m = 16) : (iAnd .i64 r m = 0) = (partOf m r = false) := by
  have : ∀ q : Fin 31, ((iAnd .i64 ((q.1 : Int) + 1) 8 = 0) = (partOf 8 ((q.1 : Int) + 1) = false)) ∧ ((iAnd .i64 ((q.1 : Int) + 1) 16 = 0) = (partOf 16 ((q.1 : Int) + 1) = false)) := by
    intro q
    constructor <;> (apply propext; revert q; decide +kernel)
  have e : r = ((⟨(r - 1).toNat, by omega⟩ : Fin 31).1 : Int) + 1 := by
    show r = ((r - 1).toNat : Int) + 1
    omega
  rw [e]
  rcases hm with rfl | rfl
  · exact (this _).1
  · exact (this _).2
theorem t_found (x : Wld h o s w a ev most e1 e2 l L n1 o1 n2 o2) {c : S_api_Cap} {need : Int} {K : Int × S_api_Token × Int → H → Prop}
    (no : findE e1 c = none → K (0, tok0, 3) h) (bad : ∀ n t ks, Has e1 n t ks → t.Cap = c → partOf need t.Rights = false → K (0, tok0, 4) h)
    (y : ∀ n t ks, Has e1 n t ks → t.Cap = c → partOf need t.Rights = true → K ((n : Int), t, 0) h) : m_revoke_found (some ⟨a.p, 0, none⟩) c need K h := by
  unfold m_revoke_found
  refine o_find x.cat ?_
  cases hf : findE e1 c with
  | none => exact w_ifT rfl (no hf)
  | some n =>
    obtain ⟨t, ks, hn, hc⟩ := findE_has hf
    refine w_ifF rfl (o_at x.cat ?_)
    show mPure _ _ h
    rw [show atOut e1 (((some n).map fun n : Nat => (n : Int)).getD 0, (some n).isSome).1 = (t, true) from atOut_has hn]
    refine w_pure (partOf need t.Rights) (fun _ _ z => by unfold m_mask_Has; exact w_Part z) ?_
    cases hp : partOf need t.Rights with
    | false => exact w_ifT rfl (bad n t ks hn hc hp)
    | true => exact w_ifF rfl (y n t ks hn hc hp)
theorem t_Token (x : Wld h o s w a ev most e1 e2 l L n1 o1 n2 o2) {c : S_api_Cap} {K : Sl × Int → H → Prop}
    (no : findE e1 c = none → K (Sl.nil, 3) h) (bad : ∀ n t ks, Has e1 n t ks → t.Cap = c → partOf 8 t.Rights = false → K (Sl.nil, 4) h)
    (y : ∀ n t ks, Has e1 n t ks → t.Cap = c → partOf 8 t.Rights = true → ∀ s' o' h', Wld h' o' s w a ev most (cutE (belowOf e1 n) e1) e2 (subL l c.Obj ((belowOf e1 n).length : Int)) L n1 (if t.Parent < 0 then delL o1 c.Obj else o1) n2 o2 → OT o o' h h' → Buf S_api_Cap.cells 3 N_api_Cap h' s' ((belowOf e1 n).map (capAt e1)) → (∀ c, s'.foot c → h c = none ∧ o' c = none) → K (s', 0) h') :
    m_revoke_Token (some ⟨a.p, 0, none⟩) (some ⟨a.q, 0, none⟩) (some ⟨a.t, 0, none⟩) c K h := by
  unfold m_revoke_Token
  refine t_found x (fun hf => w_ifT rfl (no hf)) (fun n t ks hn hc hp => w_ifT rfl (bad n t ks hn hc hp)) fun n t ks hn hc hp => w_ifF rfl (t_drop x hn fun s' o' h' x' k bu f => ?_)
  subst hc
  exact y n t ks hn rfl hp s' o' h' x' k bu f
theorem CWF.parentOf {es : List En} (wf : CWF es) {n : Nat} {t ks} (hn : Has es n t ks) : t.Parent = -1 ∨ ∃ (q : Nat) (u : S_api_Token) (us : List Int), t.Parent = q ∧ Has es q u us ∧ u.Cap.Obj = t.Cap.Obj := by
  rcases wf.up _ _ _ hn with e | ⟨i, u, us, e, hi, _, ho, _⟩
  · exact .inl e
  · exact .inr ⟨i, u, us, e, hi, ho⟩
theorem t_Object (x : Wld h o s w a ev most e1 e2 l L n1 o1 n2 o2) {c : S_api_Cap} {K : Sl × Int → H → Prop}
    (no : findE e1 c = none → K (Sl.nil, 3) h) (bad : ∀ n t ks, Has e1 n t ks → t.Cap = c → partOf 16 t.Rights = false → K (Sl.nil, 4) h)
    (y : ∀ n t ks m u us, Has e1 n t ks → t.Cap = c → partOf 16 t.Rights = true → Has e1 m u us → u.Parent = -1 → u.Cap.Obj = c.Obj → ∀ s' o' h', Wld h' o' s w a ev most (cutE (belowOf e1 m) e1) e2 (subL l c.Obj ((belowOf e1 m).length : Int)) L n1 (delL o1 c.Obj) n2 o2 → OT o o' h h' → Buf S_api_Cap.cells 3 N_api_Cap h' s' ((belowOf e1 m).map (capAt e1)) → (∀ c, s'.foot c → h c = none ∧ o' c = none) → K (s', 0) h') :
    m_revoke_Object (some ⟨a.p, 0, none⟩) (some ⟨a.q, 0, none⟩) (some ⟨a.t, 0, none⟩) c K h := by
  unfold m_revoke_Object
  have wf := x.cat.wf
  refine t_found x (fun hf => w_ifT rfl (no hf)) (fun n t ks hn hc hp => w_ifT rfl (bad n t ks hn hc hp)) fun n t ks hn hc hp => w_ifF rfl ?_
  obtain ⟨rk, B, hrk⟩ := wf.rank
  refine w_loop (fun z : Int × Int × Int × Int × Int × Int => rk z.1.toNat) (fun z h' => h = h' ∧ ∃ (m : Nat) (u : S_api_Token) (us : List Int), z = ((m : Int), u.Cap.Obj, u.Cap.Pass.Hi, u.Cap.Pass.Lo, u.Rights, u.Parent) ∧ Has e1 m u us ∧ u.Cap.Obj = c.Obj) ?_ ⟨rfl, n, t, ks, rfl, hn, by rw [hc]⟩
  rintro rec z h' ⟨rfl, m, u, us, rfl, hm, ho⟩ more
  refine w_if' (fun q => ?_) fun q => ?_
  · have q : 0 ≤ u.Parent := q
    rcases wf.parentOf hm with e | ⟨i, v, vs, e, hi, ho'⟩
    · omega
    · show m_catalogue_Catalogue_At _ u.Parent _ h
      rw [e]
      refine o_at x.cat ?_
      rw [atOut_has hi]
      refine more _ _ ⟨rfl, i, v, vs, rfl, hi, ho'.trans ho⟩ ?_
      exact (hrk _ _ _ hm).2 i e
  · have q : ¬ 0 ≤ u.Parent := q
    have hp1 : u.Parent = -1 := by
      rcases wf.parentOf hm with e | ⟨i, v, vs, e, _⟩
      · exact e
      · omega
    refine t_drop x hm fun s' o' h' x' k bu f => ?_
    rw [if_pos (by omega), ho] at x'
    exact y n t ks m u us hn hc hp hm hp1 ho s' o' h' x' k bu f
end
abbrev WldS (h : H) (o : Owner) (s w : Nat) (a : Pts) (ev : Nat) (most : Int) (S : WS) : Prop := Wld h o s w a ev most S.es S.es S.l S.L S.nx S.ob S.nx S.ob
abbrev InvS (most : Int) (S : WS) : Prop := Inv most S.es S.l S.L S.nx S.ob
theorem op15_len : ∀ x, (S_law15_Op.cells x).length = 10 := fun _ => rfl
theorem capsG_empty : ∀ (n k : Nat), capsG k (List.replicate n none) = [] := by
  intro n
  induction n with
  | zero => exact fun _ => rfl
  | succ n ih => intro k; rw [List.replicate_succ, capsG]; exact ih _
def ws0 (most : Int) : WS := ⟨List.replicate most.toNat none, [], [], 1, []⟩
theorem inv0 {most : Int} (h : 1 ≤ most) : InvS most (ws0 most) := by
  refine ⟨by unfold ws0; rw [List.length_replicate]; omega, ⟨fun k => rfl, rfl⟩, fun o => cnt_none _ _, by unfold ws0; simp only; rw [capsG_empty]; rfl, fun o => ?_⟩
  unfold ws0; simp only; rw [cnt_none]; simp
section
variable {h : H}
theorem t_made {e0 kn : Int} {K : Option Addr × Option Addr → H → Prop}
    (y : ∀ s w a o h', WldS h' o s w a 0 (1 + intoV e0 256) (ws0 (1 + intoV e0 256)) → Keeps h h' → (∀ c, o c ≠ none → h c = none) → K (some ⟨s, 0, none⟩, some ⟨w, 0, none⟩) h') : m_law15_made e0 kn K h := by
  unfold m_law15_made
  have r1 := intoV_rng e0 (b := 256) (by decide)
  have r2 := intoV_rng kn (b := 65) (by decide)
  refine w_mod (by decide) (by decide) (w_mod (by decide) (by decide) ?_)
  have ea : iAdd .i64 1 (intoV e0 256) = 1 + intoV e0 256 := iAdd_eq (by omega) (by omega)
  rw [ea]
  generalize em : 1 + intoV e0 256 = most at *
  refine t_CNew (fun q => by omega) fun _ _ n en n1 n2 p G h1 c1 k1 f1 => ?_
  refine t_QNew (fun q => by omega) fun _ _ _ _ q b h2 c2 k2 f2 f2' => ?_
  refine t_SNew (fun q => by omega) fun _ _ _ _ t F P h3 c3 k3 f3 f3' => ?_
  refine w_ifF rfl (t_RNew (fun q => by omega) fun _ _ n' en' _ _ rp G3 h4 c4 k4 f4 => ?_)
  obtain rfl : n = n' := by omega
  refine t_QRNew (fun q => by omega) fun _ _ _ _ rq h5 c5 k5 f5 => ?_
  refine t_SRNew (fun q => by omega) fun _ _ _ _ rt h6 c6 k6 f6 => ?_
  refine w_box fun s h7 f7 c7 k7 => w_box fun w h8 f8 c8 k8 => ?_
  have ow0 : Owns (fun _ => none) h := fun c e => absurd rfl e
  obtain ⟨a1, b1, d1⟩ := OC.fresh (i := 0) ow0 k1 f1 fun c g => c1.has g
  obtain ⟨a2, b2, d2⟩ := OC.fresh (i := 1) (G := fun c => c = q ∨ c = b) b1 k2 (fun c g => by rcases g with rfl | rfl <;> assumption) fun c g => by
    rcases g with rfl | rfl
    · rw [c2.cell]; simp
    · obtain ⟨_, _, e, _⟩ := c2.map.ex; rw [e]; simp
  obtain ⟨a3, b3, d3⟩ := OC.fresh (i := 2) (G := fun c => F c ∨ P c) b2 k3 (fun c g => g.elim (f3 c) (f3' c)) fun c g => sto_has c3 g
  obtain ⟨a4, b4, d4⟩ := OC.fresh (i := 3) b3 k4 f4 fun c g => c4.has g
  obtain ⟨a5, b5, d5⟩ := OC.fresh (i := 4) (G := fun c => c = rq) b4 k5 (fun c g => by rw [g]; exact f5) fun c g => by rw [g, c5.cell]; simp
  obtain ⟨a6, b6, d6⟩ := OC.fresh (i := 5) (G := fun c => c = rt) b5 k6 (fun c g => by rw [g]; exact f6) fun c g => c6.has g
  obtain ⟨a7, b7, d7⟩ := OC.fresh (i := 6) (G := fun c => c = s) b6 k7 (fun c g => by rw [g]; exact f7) fun c g => by rw [g, c7]; simp
  obtain ⟨a8, b8, d8⟩ := OC.fresh (i := 7) (G := fun c => c = w) b7 k8 (fun c g => by rw [g]; exact f8) fun c g => by rw [g, c8]; simp
  have ews : List.replicate most.toNat none = (List.replicate n none : List En) := by rw [en, Int.toNat_natCast]
  refine y s w ⟨p, q, t, rp, rq, rt⟩ _ h8 ⟨b8, k8 _ _ c7, a8.own _ _ (d7 s rfl), c8, d8 w rfl, ?_, ?_, ?_, ?_, ?_, ?_⟩ (((((((k1.trans k2).trans k3).trans k4).trans k5).trans k6).trans k7).trans k8) ?_
  · refine (((((((?_ : CatO h1 _ 0 p _).oc a2 (by decide)).oc a3 (by decide)).oc a4 (by decide)).oc a5 (by decide)).oc a6 (by decide)).oc a7 (by decide)).oc a8 (by decide)
    exact ⟨_, G, by show Cat h1 p _ G (List.replicate most.toNat none); rw [ews]; exact c1, d1⟩
  · refine ((((((?_ : QuoO h2 _ 1 q 256 most _).oc a3 (by decide)).oc a4 (by decide)).oc a5 (by decide)).oc a6 (by decide)).oc a7 (by decide)).oc a8 (by decide)
    exact ⟨b, c2, d2 q (.inl rfl), d2 b (.inr rfl)⟩
  · refine (((((?_ : StoO h3 _ 2 t 8 64 _ _).oc a4 (by decide)).oc a5 (by decide)).oc a6 (by decide)).oc a7 (by decide)).oc a8 (by decide)
    exact ⟨F, P, c3, d3⟩
  · refine ((((?_ : RefO h4 _ 3 rp 0 _).oc a5 (by decide)).oc a6 (by decide)).oc a7 (by decide)).oc a8 (by decide)
    exact ⟨G3, by show Ref h4 rp 0 G3 (List.replicate most.toNat none); rw [ews]; exact c4, d4⟩
  · refine (((?_ : RqO h5 _ 4 rq 256 most _).oc a6 (by decide)).oc a7 (by decide)).oc a8 (by decide)
    exact ⟨Sl.nil, c5, d5 rq rfl, fun c ⟨_, q, _⟩ => by cases q⟩
  · refine ((?_ : RstO h6 _ 5 rt 8 64 _ _).oc a7 (by decide)).oc a8 (by decide)
    exact ⟨(· = rt), c6, d6⟩
  · have t : OT (fun _ => none) _ h h8 := ((((((a1.ot.trans a2.ot).trans a3.ot).trans a4.ot).trans a5.ot).trans a6.ot).trans a7.ot).trans a8.ot
    exact fun c e => (t.new c e).elim (fun z => absurd rfl z) id
end
noncomputable def growS (most : Int) (S : WS) (op : S_law15_Op) : WS :=
  if op.Kind = 0 then
    if most ≤ (S.L.length : Int) then S else
    if mayE 8 S.nx S.ob.length (64 - usedS S.ob) (intoV op.Size 200) ≠ 0 then S else
    ⟨(rootOut S.es ⟨S.nx, op.W⟩ 31).2, addL 256 most S.l S.nx, S.L ++ [S.nx], S.nx + 1, S.ob ++ [(S.nx, List.replicate (intoV op.Size 200).toNat 0)]⟩
  else
    match (ofO S.es op.Obj)[(intoV op.At ((ofO S.es op.Obj).length : Int)).toNat]? with
    | none => S
    | some u =>
      if rmayOf 256 most S.L op.Obj ≠ 0 then S else
      let r := childOut S.es (((findE S.es u.Cap).map fun n : Nat => (n : Int)).getD 0) ⟨op.Obj, op.W⟩ op.Rights
      if r.1.2 ≠ 0 then S else ⟨r.2, addL 256 most S.l op.Obj, S.L ++ [op.Obj], S.nx, S.ob⟩
section
variable {h : H} {o : Owner} {s w : Nat} {a : Pts} {ev : Nat} {most : Int} {S : WS}
theorem t_grow (x : WldS h o s w a ev most S) (v : InvS most S) (hm : most ≤ 256) (he : ev < 9223372036854775807) {op : S_law15_Op} {K : Bool → H → Prop}
    (y : ∀ S' ev' o' h', (op.Kind ≠ 6 → S' = growS most S op) → InvS most S' → ev' ≤ ev + 1 → WldS h' o' s w a ev' most S' → OT o o' h h' → K true h') : m_law15_grow (some ⟨s, 0, none⟩) (some ⟨w, 0, none⟩) op K h := by
  unfold m_law15_grow
  have lw := x.law1
  refine w_if' (fun k6 => ?_) fun k6 => w_if' (fun k0 => ?_) fun k0 => ?_
  · -- bytes are written
    have hwr : IntKind.wrap .u8 op.At = ((UInt8.ofNat (op.At % 256).toNat).toNat : Int) := by
      rw [wrap_u8, UInt8.toNat_ofNat']; omega
    rw [hwr]
    generalize UInt8.ofNat (op.At % 256).toNat = b0
    generalize iAnd .i64 op.Size 63 = off
    have arr : ∀ {hh : H} {b : Nat}, hh b = some (.cells #[Value.int .u8 b0.toNat, Value.int .u8 7] N_u8 (0, 0)) → Arr cU8 hh ⟨some ⟨b, 0, none⟩, 2, 2⟩ [b0, 7] := fun q => ⟨rfl, Nat.le_refl _, fun _ => ⟨_, rfl, at_box (cs := flat cU8 [b0, 7]) q⟩⟩
    refine w_deref (w_load x.s2 (w_box fun b1 h1 f1 c1 k1 => ?_))
    have x1 := x.keep k1
    have u1 := x.own.none f1
    have second : ∀ {h2 : H} {nob : List (Int × List UInt8)} (_ : Wld h2 o s w a ev most S.es S.es S.l S.L S.nx nob S.nx S.ob) (_ : OT o o h h2) (e : Int), (∀ h3, Wld h3 o s w a ev most S.es S.es S.l S.L S.nx nob S.nx nob → OT o o h h3 → K true h3) →
        (alook S.ob op.Obj = none → e = 20 ∧ nob = S.ob) → (∀ bs, alook S.ob op.Obj = some bs → ¬ inRg bs.length off 2 → e = 5 ∧ nob = S.ob) → (∀ bs, alook S.ob op.Obj = some bs → inRg bs.length off 2 → e = 0 ∧ nob = wrL S.ob op.Obj off.toNat [b0, 7]) →
        mDeref (some ⟨w, 0, none⟩) (fun ad5 => mLoad cPtr (ad5.add 2) fun x6 => mNew N_u8 #[Value.int .u8 b0.toNat, Value.int .u8 7] fun ad7 => m_ref07_Store_Write x6 op.Obj off (⟨some ad7, 2, 2⟩ : Sl) fun r8 => K (decide (e = r8))) h2 := fun {h2 nob} x2 t2 e fin g1 g2 g3 => by
      refine w_deref (w_load x2.w2 (w_box fun b2 h3 f3 c3 k3 => ?_))
      have x3 := x2.keep k3
      have u3 := x2.own.none f3
      have t3 := t2.trans (OT.keeps k3)
      refine o_rwrite x3.rst lw x3.own (arr c3) (fun _ c ⟨ad, ha, hc⟩ => by cases ha; rw [← hc]; exact u3) (fun e1 => ?_) (fun bs e1 e2 => ?_) fun bs e1 e2 h4 r4 k4 ow4 => ?_
      · obtain ⟨rfl, rfl⟩ := g1 e1; rw [decide_eq_true rfl]; exact fin _ x3 t3
      · obtain ⟨rfl, rfl⟩ := g2 bs e1 e2; rw [decide_eq_true rfl]; exact fin _ x3 t3
      · obtain ⟨rfl, rfl⟩ := g3 bs e1 e2; rw [decide_eq_true rfl]; exact fin _ (x3.setRst k4 ow4 r4) (t3.trans k4.ot)
    have same : ∀ h3, Wld h3 o s w a ev most S.es S.es S.l S.L S.nx S.ob S.nx S.ob → OT o o h h3 → K true h3 := fun h3 x3 t3 => y S ev o h3 (fun n => absurd k6 n) v (by omega) x3 t3
    refine o_swrite x1.sto x1.own (arr c1) (fun _ c ⟨ad, ha, hc⟩ => by cases ha; rw [← hc]; exact u1) (fun e1 h2 k2 => ?_) (fun bs e1 e2 h2 k2 => ?_) fun bs e1 e2 h2 r2 k2 ow2 => ?_
    · exact second (x1.keep k2) (OT.keeps (k1.trans k2)) 20 same (fun _ => ⟨rfl, rfl⟩) (fun bs q _ => by rw [e1] at q; cases q) fun bs q _ => by rw [e1] at q; cases q
    · exact second (x1.keep k2) (OT.keeps (k1.trans k2)) 5 same (fun q => by rw [e1] at q; cases q) (fun _ _ _ => ⟨rfl, rfl⟩) fun bs' q r => by rw [e1] at q; cases q; exact absurd r e2
    · refine second (x1.setSto k2 ow2 r2) ((OT.keeps k1).trans k2.ot) 0 (fun h3 x3 t3 => ?_) (fun q => by rw [e1] at q; cases q) (fun bs' q r => by rw [e1] at q; cases q; exact absurd e2 r) fun _ _ _ => ⟨rfl, rfl⟩
      refine y ⟨S.es, S.l, S.L, S.nx, wrL S.ob op.Obj off.toNat [b0, 7]⟩ ev o h3 (fun n => absurd k6 n) ⟨v.len, v.rel, v.cnt, v.tot, fun q => ?_⟩ (by omega) x3 t3
      show _ ↔ q ∈ (wrL S.ob op.Obj off.toNat [b0, 7]).map (·.1)
      rw [wr_keys]; exact v.ids q
  · -- an object
    obtain ⟨sl, z1, z2, z3⟩ := x.rq
    have hL : (sl.len : Int) = (S.L.length : Int) := by rw [z1.buf.len]
    refine w_deref (w_deref (w_load x.w1 (w_deref (w_load z1.f2 (w_load x.w1 (w_deref (w_load z1.f1 (w_if' (fun c => ?_) fun c => ?_))))))))
    · have c : most ≤ (sl.len : Int) := c
      refine y S ev o h (fun _ => ?_) v (by omega) x (.refl _ _)
      unfold growS
      rw [if_pos k0, if_pos (by omega)]
    have c : ¬ most ≤ (sl.len : Int) := c
    have gS : growS most S op = if mayE 8 S.nx S.ob.length (64 - usedS S.ob) (intoV op.Size 200) ≠ 0 then S else
        ⟨(rootOut S.es ⟨S.nx, op.W⟩ 31).2, addL 256 most S.l S.nx, S.L ++ [S.nx], S.nx + 1, S.ob ++ [(S.nx, List.replicate (intoV op.Size 200).toNat 0)]⟩ := by
      unfold growS
      rw [if_pos k0, if_neg (by omega)]
    refine w_deref (w_mod (by decide) (by decide) (w_load x.s2 (o_screate x.sto x.own (fun e h1 k1 => ?_) fun e o1 h1 st1 k1 ow1 => ?_)))
    · have x1 := x.keep k1
      refine w_deref (w_mod (by decide) (by decide) (w_load x1.w2 (o_rcreate x1.rst lw x1.own (fun _ => ?_) fun q => absurd q e)))
      refine w_ifF (by simp) (w_ifT (by simpa using e) (y S ev o h1 (fun _ => ?_) v (by omega) x1 (OT.keeps k1)))
      rw [gS, if_pos e]
    · have x1 := x.setSto k1 ow1 st1
      refine w_deref (w_mod (by decide) (by decide) (w_load x1.w2 (o_rcreate x1.rst lw x1.own (fun q => absurd e q) fun _ o2 h2 st2 k2 ow2 => ?_)))
      have x2 := x1.setRst k2 ow2 st2
      obtain ⟨n, r1, r2, r3, v'⟩ := v.root lw (W := op.W) (bs := List.replicate (intoV op.Size 200).toNat 0) (by omega) hm
      refine w_ifF (by simp) (w_ifF rfl (w_deref (w_load x2.s0 (o_root x2.cat x2.own fun o3 h3 ct3 k3 ow3 => ?_))))
      have x3 := x2.setCat k3 ow3 ct3
      refine w_deref (w_load x3.w0 (o_rroot x3.ref x3.own he fun o4 h4 ev4 le4 rf4 k4 ow4 => ?_))
      have x4 := x3.setRef k4 ow4 rf4
      refine w_joinP (fun z hh => z = true ∧ Wld hh o4 s w a ev4 most (rootOut S.es ⟨S.nx, op.W⟩ 31).2 (rootOut S.es ⟨S.nx, op.W⟩ 31).2 (addL 256 most S.l S.nx) S.L (S.nx + 1) (S.ob ++ [(S.nx, List.replicate (intoV op.Size 200).toNat 0)]) (S.nx + 1) (S.ob ++ [(S.nx, List.replicate (intoV op.Size 200).toNat 0)]) ∧ OT o4 o4 h4 hh) (fun j hj => w_ifT (by simp) (w_deref (w_load x4.s1 (o_qadd x4.quo x4.own hm fun h5 q5 k5 ow5 => ?_)))) ?_
      · rw [r2, decide_eq_true rfl]; exact hj _ _ ⟨rfl, x4.setQuo k5 ow5 q5, k5.ot⟩
      rintro _ h5 ⟨rfl, x5, t5⟩
      refine w_ifT rfl (w_deref (w_load x5.w1 (o_rqadd x5.rq x5.own hm fun o6 h6 q6 k6' ow6 => ?_)))
      rw [if_pos r3] at q6
      rw [r3, decide_eq_true rfl]
      refine y ⟨(rootOut S.es ⟨S.nx, op.W⟩ 31).2, addL 256 most S.l S.nx, S.L ++ [S.nx], S.nx + 1, S.ob ++ [(S.nx, List.replicate (intoV op.Size 200).toNat 0)]⟩ ev4 o6 h6 (fun _ => ?_) v' le4 (x5.setRq k6' ow6 q6) (((((k1.ot.trans k2.ot).trans k3.ot).trans k4.ot).trans t5).trans k6'.ot)
      rw [gS, if_neg (fun q => q e)]
  · -- a child
    have wf := x.cat.wf
    have wl := wf.len
    have hlen := ofO_len wf op.Obj
    refine w_deref (w_load x.w0 (o_rof x.ref fun sl h1 b1 k1 f1 => ?_))
    have x1 := x.keep k1
    have bl := b1.len
    have same : (ofO S.es op.Obj = [] ∨ rmayOf 256 most S.L op.Obj ≠ 0) → growS most S op = S := fun q => by
      unfold growS
      rw [if_neg k0]
      split
      · rfl
      · rename_i u hu
        rcases q with q | q
        · rw [q] at hu; simp at hu
        · rw [if_pos q]
    refine w_joinV (decide (ofO S.es op.Obj = [] ∨ rmayOf 256 most S.L op.Obj ≠ 0)) (fun j hj => w_if' (fun c => ?_) fun c => w_deref (w_load x1.w1 ?_)) ?_
    · have c : (sl.len : Int) = 0 := c
      have : ofO S.es op.Obj = [] := List.length_eq_zero_iff.1 (by omega)
      rw [decide_eq_true (.inl this)] at hj
      exact hj
    · have c : ¬ (sl.len : Int) = 0 := c
      have hne : ¬ ofO S.es op.Obj = [] := fun e => c (by rw [bl, e]; rfl)
      obtain ⟨sq, z1, _⟩ := x1.rq
      refine t_QRMay z1 ?_
      have : (!decide (rmayOf 256 most S.L op.Obj = 0)) = decide (ofO S.es op.Obj = [] ∨ rmayOf 256 most S.L op.Obj ≠ 0) := by
        by_cases q : rmayOf 256 most S.L op.Obj = 0
        · rw [decide_eq_true q, decide_eq_false]; · rfl
          rintro (z | z)
          · exact hne z
          · exact z q
        · rw [decide_eq_false q, decide_eq_true (.inr q)]; rfl
      rw [this]; exact hj
    refine w_if' (fun q => y S ev o h1 (fun _ => (same q).symm) v (by omega) x1 (OT.keeps k1)) fun q => ?_
    have hne : ofO S.es op.Obj ≠ [] := fun e => q (.inl e)
    have hr : rmayOf 256 most S.L op.Obj = 0 := Classical.not_not.1 fun e => q (.inr e)
    have hpos : 0 < (ofO S.es op.Obj).length := List.length_pos_iff.2 hne
    have rng := intoV_rng op.At (b := ((ofO S.es op.Obj).length : Int)) (by omega)
    have esl : (sl.len : Int) = ((ofO S.es op.Obj).length : Int) := by rw [bl]
    rw [esl]
    refine w_mod (by omega) (by omega) ?_
    generalize ei : intoV op.At ((ofO S.es op.Obj).length : Int) = iv at *
    have hil : iv.toNat < (ofO S.es op.Obj).length := by omega
    have hz := List.getElem?_eq_getElem hil
    obtain ⟨nn, tt, kks, hh, ho, ec, _⟩ := ofO_get wf hz
    have gS : growS most S op = let r := childOut S.es (((findE S.es tt.Cap).map fun n : Nat => (n : Int)).getD 0) ⟨op.Obj, op.W⟩ op.Rights
      if r.1.2 ≠ 0 then S else ⟨r.2, addL 256 most S.l op.Obj, S.L ++ [op.Obj], S.nx, S.ob⟩ := by
      unfold growS
      rw [if_neg k0, ei, hz]
      simp only
      rw [if_neg (fun e => e hr), ec]
    generalize (ofO S.es op.Obj)[iv.toNat] = u at hz ec
    refine w_field tok_len b1.arr hz (by omega) (v' := u.Cap) (cells' := S_api_Cap.cells) (l1 := []) (l3 := (cTok u).drop 3) rfl rfl ?_
    rw [ec]
    refine w_deref (w_load x1.s0 (o_find x1.cat (w_deref (w_load x1.w0 (o_rfind x1.ref ?_)))))
    refine w_deref (w_load x1.s0 (o_child x1.cat x1.own fun o2 h2 ct2 k2 ow2 => ?_))
    have x2 := x1.setCat k2 ow2 ct2
    refine w_deref (w_load x2.w0 (o_rchild x2.ref x2.own he fun o3 h3 ev3 le3 rf3 k3 ow3 => ?_))
    have x3 := x2.setRef k3 ow3 rf3
    have T3 := ((OT.keeps k1).trans k2.ot).trans k3.ot
    have hpc : 0 < cnt S.es op.Obj := cnt_pos.2 ⟨nn, tt, kks, hh, ho⟩
    refine w_ifF (by simp) ?_
    rcases v.child (q := ((findE S.es tt.Cap).map fun n : Nat => (n : Int)).getD 0) (W := op.W) (r := op.Rights) hpc hr with ⟨e1, e2⟩ | ⟨e1, v'⟩
    · refine w_ifT (by simpa using e2) ?_
      have x3' : Wld h3 o3 s w a ev3 most (childOut S.es (((findE S.es tt.Cap).map fun n : Nat => (n : Int)).getD 0) ⟨op.Obj, op.W⟩ op.Rights).2 (childOut S.es (((findE S.es tt.Cap).map fun n : Nat => (n : Int)).getD 0) ⟨op.Obj, op.W⟩ op.Rights).2 S.l S.L S.nx S.ob S.nx S.ob := x3
      rw [e1] at x3'
      exact y S ev3 o3 h3 (fun _ => by rw [gS]; exact (if_pos e2).symm) v le3 x3' T3
    · refine w_ifF (by simpa using e1) (w_deref (w_load x3.s1 (o_qadd x3.quo x3.own hm fun h4 q4 k4 ow4 => ?_)))
      have x4 := x3.setQuo k4 ow4 q4
      rw [v.rel.code, hr]
      refine w_ifT rfl (w_deref (w_load x4.w1 (o_rqadd x4.rq x4.own hm fun o5 h5 q5 k5 ow5 => ?_)))
      rw [if_pos hr] at q5
      rw [hr, decide_eq_true rfl]
      exact y ⟨_, _, _, _, _⟩ ev3 o5 h5 (fun _ => by rw [gS]; exact (if_neg fun e => e e1).symm) v' le3 (x4.setRq k5 ow5 q5) ((T3.trans k4.ot).trans k5.ot)
end
noncomputable def cutS (S : WS) (n : Nat) (x : Int) (root : Bool) : WS :=
  ⟨cutE (belowOf S.es n) S.es, subL S.l x ((belowOf S.es n).length : Int), dropN x S.L ((belowOf S.es n).length : Int), S.nx, if root = true then delL S.ob x else S.ob⟩
noncomputable def goneS (S : WS) (n : Nat) : List S_api_Cap := (belowOf S.es n).map (capAt S.es)
abbrev bC := S_api_Cap.cells
section
variable {h : H} {o : Owner} {s w : Nat} {a : Pts} {ev : Nat} {most : Int} {S : WS}
theorem once_l (x : WldS h o s w a ev most S) : Once S.l := by obtain ⟨_, q, _⟩ := x.quo; exact q.once
theorem InvS.cut (v : InvS most S) (x : WldS h o s w a ev most S) {n : Nat} {t ks} (hn : Has S.es n t ks) : InvS most (cutS S n t.Cap.Obj (decide (t.Parent < 0))) ∧ rsubOk S.L t.Cap.Obj ((belowOf S.es n).length : Int) = true := by
  obtain ⟨_, b, c⟩ := v.drop x.cat.wf (once_l x) hn
  refine ⟨?_, b⟩
  unfold cutS
  simp only [decide_eq_true_eq]
  exact c
end
def hE1 : List En := [some (⟨⟨1, ⟨0, 3⟩⟩, 31, -1⟩, []), none, none, none, none, none, none, none, none]
def hE2 : List En := [some (⟨⟨1, ⟨0, 3⟩⟩, 31, -1⟩, [1]), some (⟨⟨1, ⟨0, 5⟩⟩, 12, 0⟩, []), none, none, none, none, none, none, none]
def hE3 : List En := [some (⟨⟨1, ⟨0, 3⟩⟩, 31, -1⟩, [1]), some (⟨⟨1, ⟨0, 5⟩⟩, 12, 0⟩, [2]), some (⟨⟨1, ⟨0, 9⟩⟩, 4, 1⟩, []), none, none, none, none, none, none]
def hE4 : List En := [some (⟨⟨1, ⟨0, 3⟩⟩, 31, -1⟩, [1, 3]), some (⟨⟨1, ⟨0, 5⟩⟩, 12, 0⟩, [2]), some (⟨⟨1, ⟨0, 9⟩⟩, 4, 1⟩, []), some (⟨⟨1, ⟨0, 7⟩⟩, 16, 0⟩, []), none, none, none, none, none]
def hS : Nat → WS
  | 0 => ws0 9
  | 1 => ⟨hE1, [(1, 1)], [1], 2, [(1, [])]⟩
  | 2 => ⟨hE2, [(1, 2)], [1, 1], 2, [(1, [])]⟩
  | 3 => ⟨hE3, [(1, 3)], [1, 1, 1], 2, [(1, [])]⟩
  | _ => ⟨hE4, [(1, 4)], [1, 1, 1, 1], 2, [(1, [])]⟩
def hO : List S_law15_Op := [⟨0, 0, 0, 0, 0, ⟨0, 3⟩, ⟨0, ⟨0, 0⟩⟩⟩, ⟨1, 1, 0, 12, 0, ⟨0, 5⟩, ⟨0, ⟨0, 0⟩⟩⟩, ⟨1, 1, 1, 4, 0, ⟨0, 9⟩, ⟨0, ⟨0, 0⟩⟩⟩, ⟨1, 1, 0, 16, 0, ⟨0, 7⟩, ⟨0, ⟨0, 0⟩⟩⟩]
theorem pre1 {es : List En} {z : Int} (e : chN (nds es) z = []) : PreL (chN (nds es)) [z] [z] := by
  have : PreL (chN (nds es)) [z] (z :: ([] ++ [])) := .cons (by rw [e]; exact .nil) .nil
  exact this
theorem hb1 : PreL (chN (nds hE1)) [0] [0] := pre1 (by kernel_rfl)
theorem hb2 : PreL (chN (nds hE2)) [0] [0, 1] := by
  have p1 := pre1 (es := hE2) (z := 1) (by kernel_rfl)
  have e0 : chN (nds hE2) 0 = [1] := by kernel_rfl
  have p0 : PreL (chN (nds hE2)) [0] ((0 : Int) :: ([1] ++ [])) := .cons (by rw [e0]; exact p1) .nil
  exact p0
theorem hb3 : PreL (chN (nds hE3)) [0] [0, 1, 2] := by
  have p2 := pre1 (es := hE3) (z := 2) (by kernel_rfl)
  have e0 : chN (nds hE3) 0 = [1] := by kernel_rfl
  have e1 : chN (nds hE3) 1 = [2] := by kernel_rfl
  have p1 : PreL (chN (nds hE3)) [1] ((1 : Int) :: ([2] ++ [])) := .cons (by rw [e1]; exact p2) .nil
  have p0 : PreL (chN (nds hE3)) [0] ((0 : Int) :: ([1, 2] ++ [])) := .cons (by rw [e0]; exact p1) .nil
  exact p0
theorem hb4 : PreL (chN (nds hE4)) [1] [1, 2] := by
  have p2 := pre1 (es := hE4) (z := 2) (by kernel_rfl)
  have e1 : chN (nds hE4) 1 = [2] := by kernel_rfl
  have p1 : PreL (chN (nds hE4)) [1] ((1 : Int) :: ([2] ++ [])) := .cons (by rw [e1]; exact p2) .nil
  exact p1
theorem hb5 : PreL (chN (nds (cutE [1, 2] hE4))) [0] [0, 3] := by
  have p3 := pre1 (es := cutE [1, 2] hE4) (z := 3) (by kernel_rfl)
  have e0 : chN (nds (cutE [1, 2] hE4)) 0 = [3] := by kernel_rfl
  have p0 : PreL (chN (nds (cutE [1, 2] hE4))) [0] ((0 : Int) :: ([3] ++ [])) := .cons (by rw [e0]; exact p3) .nil
  exact p0
theorem below_is {es : List En} (w : CWF es) {n : Nat} {t ks} (hn : Has es n t ks) {l : List Int} (p : PreL (chN (nds es)) [(n : Int)] l) : Below es n l := by
  obtain ⟨l', b⟩ := w.ex hn
  exact b.pre.inj p ▸ b
theorem hof {es : List En} (w : CWF es) {t ks} (hn : Has es 0 t ks) (ho : t.Cap.Obj = 1) (hp : t.Parent = -1) {l : List Int} (p : PreL (chN (nds es)) [0] l) : ofO es 1 = ofE es l := ofO_some w hn ho hp (below_is w hn p)
def growC (most : Int) (S : WS) (op : S_law15_Op) (tl : List S_api_Token) : WS :=
  if op.Kind = 0 then
    if most ≤ (S.L.length : Int) then S else
    if mayE 8 S.nx S.ob.length (64 - usedS S.ob) (intoV op.Size 200) ≠ 0 then S else
    ⟨(rootOut S.es ⟨S.nx, op.W⟩ 31).2, addL 256 most S.l S.nx, S.L ++ [S.nx], S.nx + 1, S.ob ++ [(S.nx, List.replicate (intoV op.Size 200).toNat 0)]⟩
  else
    match tl[(intoV op.At (tl.length : Int)).toNat]? with
    | none => S
    | some u =>
      if rmayOf 256 most S.L op.Obj ≠ 0 then S else
      let r := childOut S.es (((findE S.es u.Cap).map fun n : Nat => (n : Int)).getD 0) ⟨op.Obj, op.W⟩ op.Rights
      if r.1.2 ≠ 0 then S else ⟨r.2, addL 256 most S.l op.Obj, S.L ++ [op.Obj], S.nx, S.ob⟩
theorem growS_eq (most : Int) (S : WS) (op : S_law15_Op) : growS most S op = growC most S op (ofO S.es op.Obj) := rfl
theorem hg0 (tl : List S_api_Token) : growC 9 (hS 0) ⟨0, 0, 0, 0, 0, ⟨0, 3⟩, ⟨0, ⟨0, 0⟩⟩⟩ tl = hS 1 := by kernel_rfl
theorem hg1 : growC 9 (hS 1) ⟨1, 1, 0, 12, 0, ⟨0, 5⟩, ⟨0, ⟨0, 0⟩⟩⟩ (ofE hE1 [0]) = hS 2 := by kernel_rfl
theorem hg2 : growC 9 (hS 2) ⟨1, 1, 1, 4, 0, ⟨0, 9⟩, ⟨0, ⟨0, 0⟩⟩⟩ (ofE hE2 [0, 1]) = hS 3 := by kernel_rfl
theorem hg3 : growC 9 (hS 3) ⟨1, 1, 0, 16, 0, ⟨0, 7⟩, ⟨0, ⟨0, 0⟩⟩⟩ (ofE hE3 [0, 1, 2]) = hS 4 := by kernel_rfl
theorem hg {i : Nat} (w : CWF (hS i).es) {op : S_law15_Op} (e : hO[i]? = some op) : growS 9 (hS i) op = hS (i + 1) := by
  rw [growS_eq]
  match i, e with
  | 0, e => cases e; exact hg0 _
  | 1, e =>
    cases e
    have e1 : ofO (hS 1).es 1 = ofE hE1 [0] := hof w (t := ⟨⟨1, ⟨0, 3⟩⟩, 31, -1⟩) (ks := []) rfl rfl rfl hb1
    rw [e1]; exact hg1
  | 2, e =>
    cases e
    have e1 : ofO (hS 2).es 1 = ofE hE2 [0, 1] := hof w (t := ⟨⟨1, ⟨0, 3⟩⟩, 31, -1⟩) (ks := [1]) rfl rfl rfl hb2
    rw [e1]; exact hg2
  | 3, e =>
    cases e
    have e1 : ofO (hS 3).es 1 = ofE hE3 [0, 1, 2] := hof w (t := ⟨⟨1, ⟨0, 3⟩⟩, 31, -1⟩) (ks := [1]) rfl rfl rfl hb3
    rw [e1]; exact hg3
  | n + 4, e => simp [hO] at e
theorem hcut {S : WS} (w : CWF S.es) {n : Nat} {t ks} (hn : Has S.es n t ks) {l : List Int} (p : PreL (chN (nds S.es)) [(n : Int)] l) (x : Int) (b : Bool) : goneS S n = l.map (capAt S.es) ∧ cutS S n x b = ⟨cutE l S.es, subL S.l x (l.length : Int), dropN x S.L (l.length : Int), S.nx, if b = true then delL S.ob x else S.ob⟩ := by
  have := (below_is w hn p).eq
  unfold goneS cutS
  rw [this]
  exact ⟨rfl, rfl⟩
section
variable {h : H} {o : Owner} {s w : Nat} {a : Pts} {ev : Nat} {most : Int} {S : WS}
theorem t_Token1 (x : WldS h o s w a ev most S) {c : S_api_Cap} {K : Sl × Int → H → Prop}
    (no : findE S.es c = none → K (Sl.nil, 3) h) (bad : ∀ n t ks, Has S.es n t ks → t.Cap = c → partOf 8 t.Rights = false → K (Sl.nil, 4) h)
    (y : ∀ n t ks, Has S.es n t ks → t.Cap = c → partOf 8 t.Rights = true → ∀ s' o' h', Wld h' o' s w a ev most (cutS S n c.Obj (decide (t.Parent < 0))).es S.es (cutS S n c.Obj (decide (t.Parent < 0))).l S.L S.nx (cutS S n c.Obj (decide (t.Parent < 0))).ob S.nx S.ob → OT o o' h h' → Buf bC 3 N_api_Cap h' s' (goneS S n) → (∀ c, s'.foot c → h c = none ∧ o' c = none) → K (s', 0) h') :
    m_revoke_Token (some ⟨a.p, 0, none⟩) (some ⟨a.q, 0, none⟩) (some ⟨a.t, 0, none⟩) c K h :=
  t_Token x no bad fun n t ks hn hc hp s' o' h' x' k b f => y n t ks hn hc hp s' o' h' (by unfold cutS; simp only [decide_eq_true_eq]; exact x') k b f
theorem t_Object1 {e2 : List En} {L2 : List Int} {n2 : Int} {o2 : List (Int × List UInt8)} (x : Wld h o s w a ev most S.es e2 S.l L2 S.nx S.ob n2 o2) {c : S_api_Cap} {K : Sl × Int → H → Prop}
    (no : findE S.es c = none → K (Sl.nil, 3) h) (bad : ∀ n t ks, Has S.es n t ks → t.Cap = c → partOf 16 t.Rights = false → K (Sl.nil, 4) h)
    (y : ∀ n t ks m u us, Has S.es n t ks → t.Cap = c → partOf 16 t.Rights = true → Has S.es m u us → u.Parent = -1 → u.Cap.Obj = c.Obj → ∀ s' o' h', Wld h' o' s w a ev most (cutS S m c.Obj true).es e2 (cutS S m c.Obj true).l L2 S.nx (cutS S m c.Obj true).ob n2 o2 → OT o o' h h' → Buf bC 3 N_api_Cap h' s' (goneS S m) → (∀ c, s'.foot c → h c = none ∧ o' c = none) → K (s', 0) h') :
    m_revoke_Object (some ⟨a.p, 0, none⟩) (some ⟨a.q, 0, none⟩) (some ⟨a.t, 0, none⟩) c K h :=
  t_Object x no bad fun n t ks m u us hn hc hp hm hup huo s' o' h' x' k b f => y n t ks m u us hn hc hp hm hup huo s' o' h' x' k b f
end
def hC (n : Int) : S_api_Cap := ⟨1, ⟨0, n⟩⟩
theorem hf4 : findE hE4 (hC 4) = none := by kernel_rfl
theorem hf9 : findE hE4 (hC 9) = some 2 := by kernel_rfl
theorem hf5 : findE hE4 (hC 5) = some 1 := by kernel_rfl
theorem hf7 : findE (cutE [1, 2] hE4) (hC 7) = some 3 := by kernel_rfl
section
variable {h : H}
theorem t_head15 {K : Bool → H → Prop} (y : ∀ h', Keeps h h' → K true h') : m_law15_head K h := by
  unfold m_law15_head
  refine t_made fun s w a o h1 x1 k1 f1 => w_ifF rfl ?_
  have em : 1 + intoV 8 256 = 9 := by kernel_rfl
  rw [em] at x1
  refine w_box fun b h2 f2 c2 k2 => ?_
  have x2 := x1.keep k2
  have ub := x1.own.none f2
  have ar2 : Arr S_law15_Op.cells h2 (⟨some ⟨b, 0, none⟩, 4, 4⟩ : Sl) hO := ⟨rfl, Nat.le_refl _, fun _ => ⟨_, rfl, at_box (cs := flat S_law15_Op.cells hO) c2⟩⟩
  refine w_for 4 (fun i (z : Int) hh => z = (i : Int) ∧ i ≤ 4 ∧ ∃ ev o', ev ≤ i ∧ WldS hh o' s w a ev 9 (hS i) ∧ InvS 9 (hS i) ∧ OT o o' h2 hh) ?_ ⟨rfl, by decide, 0, o, Nat.le_refl _, x2, inv0 (by decide), .refl _ _⟩
  rintro rec i z h3 hi ⟨rfl, hi4, ev, o', le, x3, v3, t3⟩ more
  refine w_if' (fun c => ?_) fun c => ?_
  · have c : (i : Int) < 4 := c
    have hil : i < hO.length := by show i < 4; omega
    have hz := List.getElem?_eq_getElem hil
    have ar3 := ar2.but t3.bt fun _ ad ha e => by cases ha; exact e ub
    generalize hO[i] = op at hz
    refine w_get op15_len ar3 hz rfl (v' := op) rfl (t_grow x3 v3 (by decide) (by omega) fun S' ev' o2 h4 eS v4 le4 x4 t4 => w_ifF rfl ?_)
    have k6 : op.Kind ≠ 6 := by
      match i, hz with
      | 0, e => cases e; decide
      | 1, e => cases e; decide
      | 2, e => cases e; decide
      | 3, e => cases e; decide
      | n + 4, e => simp [hO] at e
    have := (eS k6).trans (hg x3.cat.wf hz)
    subst this
    exact more _ _ (by omega) ⟨ia1 i (by omega), by omega, ev', o2, by omega, x4, v4, t3.trans t4⟩
  have c : ¬ (i : Int) < 4 := c
  obtain rfl : i = 4 := by omega
  have wf : CWF hE4 := x3.cat.wf
  have kk : ∀ {o2 : Owner} {hh : H}, OT o' o2 h3 hh → Keeps h hh := fun t => OT.out (k1.trans k2) (t3.trans t) f1
  refine w_deref (w_deref (w_deref ?_))
  have wd : ∀ {n : Int} {hh : H} {k : S_api_Cap → H → Prop}, k (hC n) hh → mPure (m_law15_word n) k hh := fun q => w_pure _ (fun _ _ z => z) q
  refine wd (w_load x3.s0 (w_load x3.s1 (w_load x3.s2 (t_Token1 x3 (fun hf => ?_) (fun n t ks hn hc hp => ?_) fun n t ks hn hc hp => ?_))))
  · have hf : findE hE4 (hC 9) = none := hf
    rw [hf9] at hf; cases hf
  rotate_left
  · have e2 := (wf.find hn)
    rw [hc, hf9] at e2
    cases e2
    cases (show Has hE4 2 t ks from hn)
    exact absurd hp (by decide)
  refine w_deref (w_deref (w_deref (wd (w_load x3.s0 (w_load x3.s1 (w_load x3.s2 (t_Token1 x3 (fun _ => ?_) (fun n t ks hn hc hp => ?_) fun n t ks hn hc hp => ?_)))))))
  rotate_left
  · have e2 := wf.find hn; rw [hc, hf4] at e2; cases e2
  · have e2 := wf.find hn; rw [hc, hf4] at e2; cases e2
  refine w_deref (w_deref (w_deref (wd (w_load x3.s0 (w_load x3.s1 (w_load x3.s2 (t_Token1 x3 (fun hf => ?_) (fun n t ks hn hc hp => ?_) fun n t ks hn hc hp s5 o5 h5 x5 t5 b5 f5 => ?_)))))))
  · have hf : findE hE4 (hC 5) = none := hf
    rw [hf5] at hf; cases hf
  · have e2 := wf.find hn
    rw [hc, hf5] at e2
    cases e2
    cases (show Has hE4 1 t ks from hn)
    exact absurd hp (by decide)
  have e2 := wf.find hn
  rw [hc, hf5] at e2
  cases e2
  cases (show Has hE4 1 t ks from hn)
  obtain ⟨g5, cs5⟩ := hcut (S := hS 4) wf hn hb4 1 false
  have cs5 : cutS (hS 4) 1 (hC 5).Obj (decide ((0 : Int) < 0)) = _ := cs5
  rw [cs5] at x5
  rw [g5] at b5
  have b5 : Buf bC 3 N_api_Cap h5 s5 [hC 5, hC 9] := b5
  have x5 : Wld h5 o5 s w a ev 9 (cutE [1, 2] hE4) hE4 (subL [(1, 4)] 1 2) [1, 1, 1, 1] 2 [(1, [])] 2 [(1, [])] := x5
  have wf5 := x5.cat.wf
  refine w_deref (w_deref (w_deref (wd (w_load x5.s0 (w_load x5.s1 (w_load x5.s2 (t_Object1 (S := ⟨cutE [1, 2] hE4, subL [(1, 4)] 1 2, [], 2, [(1, [])]⟩) x5 (fun hf => ?_) (fun n t ks hn hc hp => ?_) fun n t ks m u us hn hc hp hm hup huo s6 o6 h6 x6 t6 b6 f6 => ?_)))))))
  · have hf : findE (cutE [1, 2] hE4) (hC 7) = none := hf
    rw [hf7] at hf; cases hf
  · have e2 := wf5.find hn
    rw [hc, hf7] at e2
    cases e2
    cases (show Has (cutE [1, 2] hE4) 3 t ks from hn)
    exact absurd hp (by decide)
  have hr : Has (cutE [1, 2] hE4) 0 ⟨⟨1, ⟨0, 3⟩⟩, 31, -1⟩ [3] := by rfl
  obtain rfl := wf5.one _ _ _ _ _ _ hm hr hup rfl (huo.trans rfl)
  obtain ⟨g6, cs6⟩ := hcut (S := ⟨cutE [1, 2] hE4, subL [(1, 4)] 1 2, [], 2, [(1, [])]⟩) wf5 hr hb5 1 true
  have cs6 : cutS ⟨cutE [1, 2] hE4, subL [(1, 4)] 1 2, [], 2, [(1, [])]⟩ 0 (hC 7).Obj true = _ := cs6
  rw [cs6] at x6
  rw [g6] at b6
  have b6 : Buf bC 3 N_api_Cap h6 s6 [hC 3, hC 7] := b6
  have x6 : Wld h6 o6 s w a ev 9 (cutE [0, 3] (cutE [1, 2] hE4)) hE4 [] [1, 1, 1, 1] 2 [] 2 [(1, [])] := x6
  have t36 := t5.trans t6
  have b56 : Buf bC 3 N_api_Cap h6 s5 [hC 5, hC 9] := b5.but t6.bt fun ad ha e => e (f5 _ ⟨ad, ha, rfl⟩).2
  have arr : ∀ {hh : H} {bb : Nat} {m n : Int}, hh bb = some (.cells #[Value.int .i64 1, Value.int .u64 0, Value.int .u64 m, Value.int .i64 1, Value.int .u64 0, Value.int .u64 n] N_api_Cap (0, 0)) → Arr bC hh (⟨some ⟨bb, 0, none⟩, 2, 2⟩ : Sl) [hC m, hC n] := fun {hh bb m n} q => ⟨rfl, Nat.le_refl _, fun _ => ⟨_, rfl, at_box (cs := flat bC [hC m, hC n]) q⟩⟩
  refine w_joinP (fun z hh => z = true ∧ Keeps h6 hh) (fun j hj => w_ifT rfl (wd (wd (w_box fun b7 h7 f7 c7 k7 => t_sameCaps (b56.keep k7).arr (arr c7) (by simp) (hj _ _ ⟨rfl, k7⟩))))) ?_
  rintro _ h7 ⟨rfl, k7⟩
  refine w_joinP (fun z hh => z = true ∧ Keeps h6 hh) (fun j hj => w_ifT rfl (wd (wd (w_box fun b8 h8 f8 c8 k8 => t_sameCaps ((b6.keep k7).keep k8).arr (arr c8) (by simp) (hj _ _ ⟨rfl, k7.trans k8⟩))))) ?_
  rintro _ h7 ⟨rfl, k7⟩
  refine w_joinP (fun z hh => z = true ∧ Keeps h6 hh) (fun j hj => w_ifT rfl (w_deref (w_load (x6.keep k7).s1 (o_qall (x6.keep k7).quo fun h8 k8 => hj _ _ ⟨rfl, k7.trans k8⟩)))) ?_
  rintro _ h7 ⟨rfl, k7⟩
  have x7 := x6.keep k7
  refine w_ifT rfl (w_deref (w_load x7.s2 (o_sids x7.sto fun s8 h8 b8 k8 f8 => ?_)))
  have : (s8.len : Int) = 0 := by rw [b8.len]; rfl
  rw [this]
  exact y _ (((kk t36).trans k7).trans k8)
end
section
variable {ch ch' : Int → List Int} {S : List Int}
theorem desc_in (cl : ∀ x, x ∈ S → ∀ y ∈ ch x, y ∈ S) {x y : Int} (hx : x ∈ S) (d : Desc ch x y) : y ∈ S := by
  induction d with
  | refl => exact hx
  | snoc _ h ih => exact cl _ ih _ h
theorem PreL.cut (cl : ∀ x, x ∈ S → ∀ y ∈ ch x, y ∈ S) (hc : ∀ x, x ∉ S → ch' x = (ch x).filter fun y => decide (y ∉ S)) {a l : List Int} (p : PreL ch a l) : PreL ch' (a.filter fun y => decide (y ∉ S)) (l.filter fun y => decide (y ∉ S)) := by
  induction p with
  | nil => exact .nil
  | @cons x ys l L p q ih1 ih2 =>
    by_cases hx : x ∈ S
    · have : l.filter (fun y => decide (y ∉ S)) = [] := by
        rw [List.filter_eq_nil_iff]
        intro y hy
        obtain ⟨r, hr, d⟩ := p.mem.1 hy
        simp [desc_in cl (cl _ hx _ hr) d]
      rw [List.filter_cons_of_neg (by simp [hx]), List.filter_cons_of_neg (by simp [hx]), List.filter_append, this, List.nil_append]
      exact ih2
    · rw [List.filter_cons_of_pos (by simp [hx]), List.filter_cons_of_pos (by simp [hx]), List.filter_append]
      exact .cons (by rw [hc x hx]; exact ih1) ih2
theorem PreL.sub {a l : List Int} (p : PreL ch a l) : l.Nodup → ∀ {x : Int} {lx : List Int}, x ∈ l → PreL ch [x] lx → l.filter (fun y => decide (y ∈ lx)) = lx := by
  induction p with
  | nil => intro _ x lx hx; cases hx
  | @cons z ys l1 L p1 p2 ih1 ih2 =>
    intro nd x lx hx px
    obtain ⟨nz, nd⟩ := List.nodup_cons.1 nd
    obtain ⟨n1, n2, dj⟩ := List.nodup_append.1 nd
    have none_of : ∀ {m : List Int}, (∀ y ∈ m, y ∉ lx) → m.filter (fun y => decide (y ∈ lx)) = [] := fun hm => List.filter_eq_nil_iff.2 fun y hy => by simp [hm y hy]
    rcases List.mem_cons.1 hx with rfl | hx
    · cases px with
      | cons q1 q2 =>
        cases q2
        have e := p1.inj q1
        subst e
        rw [List.append_nil, List.filter_cons_of_pos (by simp), List.filter_append]
        have h1 : l1.filter (fun y => decide (y ∈ x :: l1)) = l1 := List.filter_eq_self.2 fun y hy => by simp [hy]
        have h2 : L.filter (fun y => decide (y ∈ x :: l1)) = [] := List.filter_eq_nil_iff.2 fun y hy => by
          have a1 : y ≠ x := fun e => nz (e ▸ List.mem_append_right _ hy)
          have a2 : y ∉ l1 := fun hm => dj y hm y hy rfl
          simp [a1, a2]
        rw [h1, h2, List.append_nil]
    · rcases List.mem_append.1 hx with hx | hx
      · have e := ih1 n1 hx px
        have sub : ∀ y ∈ lx, y ∈ l1 := fun y hy => by rw [← e] at hy; exact (List.mem_filter.1 hy).1
        have hz : z ∉ lx := fun hm => nz (List.mem_append_left _ (sub z hm))
        rw [List.filter_cons_of_neg (by simp [hz]), List.filter_append, e, none_of fun y hy hm => dj y (sub y hm) y hy rfl, List.append_nil]
      · have e := ih2 n2 hx px
        have sub : ∀ y ∈ lx, y ∈ L := fun y hy => by rw [← e] at hy; exact (List.mem_filter.1 hy).1
        have hz : z ∉ lx := fun hm => nz (List.mem_append_right _ (sub z hm))
        rw [List.filter_cons_of_neg (by simp [hz]), List.filter_append, e, none_of fun y hy hm => dj y hy y (sub y hm) rfl, List.nil_append]
end
theorem filt_at {T : Type} {l : List T} {q : T → Bool} {i : Nat} {z : T} (e : l[i]? = some z) (hq : q z = true) : (l.filter q)[((l.take i).filter q).length]? = some z := by
  have e' : l.filter q = (l.take i).filter q ++ z :: (l.drop (i + 1)).filter q := by
    conv => lhs; rw [split_at e]
    rw [List.filter_append, List.filter_cons_of_pos hq]
  rw [e', List.getElem?_append_right (Nat.le_refl _), Nat.sub_self]; rfl
theorem filt_take {T : Type} {l : List T} {q : T → Bool} {i : Nat} {z : T} (e : l[i]? = some z) : (l.take (i + 1)).filter q = (l.take i).filter q ++ (if q z = true then [z] else []) := by
  rw [List.take_add_one, e, List.filter_append]
  congr 1
  show List.filter q [z] = _
  rw [List.filter_cons]
  rfl
theorem place_filt {l : List Int} (nd : l.Nodup) {q : Int → Bool} {m : Nat} {p : Int} (e : l[m]? = some p) (hq : q p = true) : (l.filter q).idxOf p = ((l.take m).filter q).length := idx_of (nd.sublist List.filter_sublist) (filt_at e hq)
section
variable {es : List En} {X : List Int}
theorem chN_cut {z : Int} (hz : z ∉ X) : chN (nds (cutE X es)) z = (chN (nds es) z).filter fun y => decide (y ∉ X) := by
  by_cases h0 : 0 ≤ z
  · obtain ⟨i, rfl⟩ : ∃ i : Nat, z = i := ⟨z.toNat, by omega⟩
    rw [chN_nat, chN_nat]
    unfold nds
    rw [List.getElem?_map, List.getElem?_map, cutE_get]
    cases e : es[i]? with
    | none => rfl
    | some en =>
      show ((some (if (i : Int) ∈ X then none else en.map fun p => (p.1, p.2.filter fun k => decide (k ∉ X)))).map ndOf |>.map Nd.kids).getD [] = _
      rw [if_neg hz]
      cases en with
      | none => rfl
      | some p => rfl
  · unfold chN; rw [if_neg h0, if_neg h0]; rfl
theorem tokIn_cut {l : List Int} {z : Int} (hz : z ∉ X) : tokIn (cutE X es) l z = tokIn es l z := by
  unfold tokIn atE
  by_cases h0 : 0 ≤ z
  · rw [if_pos h0, if_pos h0, cutE_get]
    cases e : es[z.toNat]? with
    | none => rfl
    | some en =>
      have : ((z.toNat : Nat) : Int) = z := by omega
      show (match ((some (if ((z.toNat : Nat) : Int) ∈ X then none else en.map fun p => (p.1, p.2.filter fun k => decide (k ∉ X)))).getD none) with | some (t, _) => _ | none => _) = _
      rw [this, if_neg hz]
      cases en with
      | none => rfl
      | some p => rfl
  · rw [if_neg h0, if_neg h0]
def ClosedS (es : List En) (X : List Int) : Prop := ∀ x, x ∈ X → ∀ y ∈ chN (nds es) x, y ∈ X
theorem Below.closedS {n : Nat} (b : Below es n X) : ClosedS es X := fun x hx y hy => by
  obtain ⟨r, hr, d⟩ := b.pre.mem.1 hx
  exact b.pre.mem.2 ⟨r, hr, .snoc d hy⟩
theorem of_cut (w : CWF es) (w' : CWF (cutE X es)) (cl : ClosedS es X) {r : Nat} {t ks} (hr : Has es r t ks) (hp : t.Parent = -1) {l : List Int} (bl : Below es r l) : ofO (cutE X es) t.Cap.Obj = ofE es (l.filter fun y => decide (y ∉ X)) := by
  have et : ∀ m : List Int, (∀ z ∈ m, z ∉ X) → ofE (cutE X es) m = ofE es m := fun m hm => by
    unfold ofE
    have : ∀ L : List Int, ∀ m : List Int, (∀ z ∈ m, z ∉ X) → m.map (tokIn (cutE X es) L) = m.map (tokIn es L) := fun L m hm => List.map_congr_left fun z hz => tokIn_cut (hm z hz)
    exact this _ _ hm
  by_cases hX : (r : Int) ∈ X
  · have all : ∀ z ∈ l, z ∈ X := fun z hz => by
      obtain ⟨q, hq, d⟩ := bl.pre.mem.1 hz
      obtain rfl := List.mem_singleton.1 hq
      exact desc_in cl hX d
    have : l.filter (fun y => decide (y ∉ X)) = [] := List.filter_eq_nil_iff.2 fun y hy => by simp [all y hy]
    rw [this]
    refine ofO_none fun i u us hi e => ?_
    obtain ⟨hiX, vs, hi', _⟩ := has_cut.1 hi
    obtain ⟨r2, u2, us2, hr2, hp2, eo, d⟩ := w.rootOf hi'
    obtain rfl := w.one _ _ _ _ _ _ hr hr2 hp hp2 (e.symm.trans eo.symm)
    exact hiX (all _ (bl.pre.mem.2 ⟨_, List.mem_singleton.2 rfl, d⟩))
  · have p' := PreL.cut (ch' := chN (nds (cutE X es))) cl (fun x hx => chN_cut hx) bl.pre
    rw [List.filter_cons_of_pos (by simp [hX]), List.filter_nil] at p'
    have hr' : Has (cutE X es) r t (ks.filter fun k => decide (k ∉ X)) := has_cut.2 ⟨hX, ks, hr, rfl⟩
    rw [ofO_some w' hr' rfl hp (below_is w' hr' p')]
    exact et _ fun z hz => by have := (List.mem_filter.1 hz).2; simpa using this
theorem of_other (w : CWF es) (w' : CWF (cutE X es)) (cl : ClosedS es X) {o x : Int} (hX : ∀ i : Nat, (i : Int) ∈ X → ∀ t ks, Has es i t ks → t.Cap.Obj = x) (ne : o ≠ x) : ofO (cutE X es) o = ofO es o := by
  by_cases hex : ∃ i t ks, Has es i t ks ∧ t.Cap.Obj = o
  · obtain ⟨i0, t0, ks0, h0, e0⟩ := hex
    obtain ⟨r, t, ks, hr, hp, eo, _⟩ := w.rootOf h0
    obtain ⟨l, bl⟩ := w.ex hr
    have e := eo.trans e0
    have := of_cut w w' cl hr hp bl
    rw [e] at this
    rw [this, ofO_some w hr e hp bl]
    congr 1
    refine List.filter_eq_self.2 fun y hy => ?_
    obtain ⟨j, v, vs, rfl, hj⟩ := hasN_nds.1 (bl.live _ hy)
    have : (j : Int) ∉ X := fun hm => ne (by rw [← hX j hm v vs hj, bl.obj w hr hy hj]; exact e.symm)
    simp [this]
  · rw [ofO_none fun i t ks q e => hex ⟨i, t, ks, q, e⟩, ofO_none fun i t ks q e => ?_]
    obtain ⟨_, vs, hi', _⟩ := has_cut.1 q
    exact hex ⟨i, t, vs, hi', e⟩
theorem ofO_cnt (w : CWF es) (o : Int) : (ofO es o).length = cnt es o := by
  by_cases hex : ∃ i t ks, Has es i t ks ∧ t.Cap.Obj = o
  · obtain ⟨i0, t0, ks0, h0, e0⟩ := hex
    obtain ⟨r, t, ks, hr, hp, eo, _⟩ := w.rootOf h0
    obtain ⟨l, bl⟩ := w.ex hr
    rw [ofO_some w hr (eo.trans e0) hp bl, ← eo.trans e0, w.cntObj hr hp bl]
    unfold ofE; rw [List.length_map]
  · rw [ofO_none fun i t ks q e => hex ⟨i, t, ks, q, e⟩]
    rcases Nat.eq_zero_or_pos (cnt es o) with q | q
    · rw [q]; rfl
    · obtain ⟨i, t, ks, h1, h2⟩ := cnt_pos.1 q
      exact absurd ⟨i, t, ks, h1, h2⟩ hex
end
section
variable {h : H} {es : List En} {r n : Nat} {l lx : List Int} {t u : S_api_Token} {ks us : List Int}
theorem t_under15 (w : CWF es) (hr : Has es r t ks) (hp : t.Parent = -1) (bl : Below es r l) {k : Nat} (hk : l[k]? = some (n : Int)) (bx : Below es n lx) {sl : Sl} (ar : Arr cTok h sl (ofE es l)) {i : Nat} {z : Int} (hz : l[i]? = some z) {K : Bool → H → Prop} (y : K (decide (z ∈ lx)) h) : m_law15_under sl (i : Int) (k : Int) K h := by
  unfold m_law15_under
  obtain ⟨l1, ex, _⟩ := bx.pre.one
  have sub := bl.pre.sub bl.nd (List.mem_of_getElem? hk) bx.pre
  have early : ∀ {j : Nat} {x : Int}, l[j]? = some x → j < k → x ∉ lx := fun {j x} ej hj hm => by
    have h1 : (l.take k).filter (fun y => decide (y ∈ lx)) ≠ [] := by
      intro e
      rw [List.filter_eq_nil_iff] at e
      have := e x (List.mem_of_getElem? (show (l.take k)[j]? = some x by rw [List.getElem?_take_of_lt hj]; exact ej))
      simp [hm] at this
    obtain ⟨a, m, ea⟩ := List.exists_cons_of_ne_nil h1
    have h2 : l = l.take k ++ l.drop k := (List.take_append_drop _ _).symm
    rw [h2, List.filter_append, ea, ex] at sub
    have ha : a = (n : Int) := by injection sub
    have hma : a ∈ l.take k := by
      have : a ∈ (l.take k).filter (fun y => decide (y ∈ lx)) := by rw [ea]; simp
      exact (List.mem_filter.1 this).1
    rw [ha] at hma
    obtain ⟨q, hq, eq⟩ := List.mem_take_iff_getElem.1 hma
    have e1 := idx_of bl.nd hk
    have e2 := idx_of bl.nd (show l[q]? = some (n : Int) by rw [List.getElem?_eq_getElem (by omega), eq])
    omega
  have l_n : (n : Int) ∈ lx := by rw [ex]; simp
  refine w_loop (fun s : Int => s.toNat) (fun s h' => h = h' ∧ ∃ (j : Nat) (x : Int), s = (j : Int) ∧ l[j]? = some x ∧ (x ∈ lx ↔ z ∈ lx)) ?_ ⟨rfl, i, z, rfl, hz, Iff.rfl⟩
  rintro rec s h' ⟨rfl, j, x, rfl, hj, iff⟩ more
  refine w_if' (fun c => ?_) fun c => ?_
  · have c : (k : Int) < (j : Int) := c
    obtain ⟨q, v, vs, rfl, hq⟩ := hasN_nds.1 (bl.live _ (List.mem_of_getElem? hj))
    have e1 : (ofE es l)[j]? = some ⟨v.Cap, v.Rights, placeIn l v.Parent⟩ := by rw [ofE_get hj, tokIn_has hq]
    refine w_field tok_len ar e1 rfl (v' := placeIn l v.Parent) (cells' := cInt .i64) (l1 := (cTok ⟨v.Cap, v.Rights, placeIn l v.Parent⟩).take 4) (l3 := []) rfl rfl ?_
    rcases bl.tell w hr hp hj hq with ⟨e, _⟩ | ⟨_, m, b, v2, vs2, hm, em, hb, eb, ep⟩
    · omega
    · have hne : (n : Int) ≠ (q : Int) := fun e => by
        have e1 := idx_of bl.nd hk
        have e2 := idx_of bl.nd hj
        rw [e] at e1; omega
      rw [ep]
      refine more _ _ ⟨rfl, m, (b : Int), rfl, em, ?_⟩ (by simp only [Int.toNat_natCast]; exact hm)
      rw [← iff, bx.pre.mem, bx.pre.mem]
      have pd := w.parDesc hq hne
      constructor
      · rintro ⟨a, ha, d⟩
        obtain rfl := List.mem_singleton.1 ha
        exact ⟨_, List.mem_singleton.2 rfl, pd.2 ⟨by omega, by rw [eb]; exact d⟩⟩
      · rintro ⟨a, ha, d⟩
        obtain rfl := List.mem_singleton.1 ha
        exact ⟨_, List.mem_singleton.2 rfl, by rw [← eb]; exact (pd.1 d).2⟩
  · have c : ¬ (k : Int) < (j : Int) := c
    have : decide ((j : Int) = (k : Int)) = decide (z ∈ lx) := by
      by_cases e : j = k
      · subst e
        rw [hk] at hj; cases hj
        rw [decide_eq_true rfl, decide_eq_true (iff.1 l_n)]
      · rw [decide_eq_false (by omega), decide_eq_false (fun q => early hj (by omega) (iff.2 q))]
    rw [this]; exact y
end
section
variable {h : H} {s w : Nat} {a : Pts} {ev : Nat} {most : Int} {S : WS}
structure Cutted (h hh : H) (o o' : Owner) (s w : Nat) (a : Pts) (ev : Nat) (most : Int) (S : WS) (X : List Int) (g : Sl) (l' : List (Int × Int)) (ob' : List (Int × List UInt8)) : Prop where
  wd : Wld hh o' s w a ev most (cutE X S.es) S.es l' S.L S.nx ob' S.nx S.ob
  inv : ∃ L', Inv most (cutE X S.es) l' L' S.nx ob'
  ot : OT o o' h hh
  bf : Buf bC 3 N_api_Cap hh g (X.map (capAt S.es))
  un : ∀ c, g.foot c → o' c = none ∧ h c = none
theorem t_others {hh : H} {o' : Owner} {X : List Int} {l' : List (Int × Int)} {ob' : List (Int × List UInt8)} (x : Wld hh o' s w a ev most (cutE X S.es) S.es l' S.L S.nx ob' S.nx S.ob) (v : InvS most S) (v' : ∃ L', Inv most (cutE X S.es) l' L' S.nx ob') (wf : CWF S.es) (cl : ClosedS S.es X) {id : Int} (hX : ∀ i : Nat, (i : Int) ∈ X → ∀ t ks, Has S.es i t ks → t.Cap.Obj = id) {jd : Int} (ne : jd ≠ id)
    {ids : Sl} {L : List Int} (ar : Arr (cInt .i64) hh ids L) {i : Nat} (hi : L[i]? = some jd) {j : Bool → H → Prop} (y : ∀ h', Keeps hh h' → j false h') :
    (mDeref (some ⟨s, 0, none⟩) fun ad166 =>
      mIdx ids (i : Int) 1 fun ad167 =>
      mDeref (some ⟨w, 0, none⟩) fun ad168 =>
      mIdx ids (i : Int) 1 fun ad169 =>
      mLoad cPtr (ad166.add 0) fun x170 =>
      mLoad (cInt .i64) ad167 fun x171 =>
      mJoin (fun (s172 : Sl × Option Addr × Int) =>
      m_ref11_Catalogue_Of s172.2.1 s172.2.2 fun r187 =>
      m_law15_sameTokens s172.1 r187 fun r188 =>
      mIf (!r188) (
      j true
      ) (
      mDeref (some ⟨s, 0, none⟩) fun ad211 =>
      mIdx ids (i : Int) 1 fun ad212 =>
      mDeref (some ⟨w, 0, none⟩) fun ad213 =>
      mIdx ids (i : Int) 1 fun ad214 =>
      mLoad cPtr (ad211.add 1) fun x215 =>
      mLoad (cInt .i64) ad212 fun x216 =>
      mJoin (fun (s217 : Int × Option Addr × Int) =>
      m_ref12_Quota_Of s217.2.1 s217.2.2 fun r232 =>
      j (!decide (s217.1 = r232))
      ) (fun j218 =>
      mBoth (
      m_quota_Quota_Of x215 x216 fun r219 =>
      mLoad cPtr (ad213.add 1) fun x220 =>
      mLoad (cInt .i64) ad214 fun x221 =>
      j218 (r219, x220, x221)
      ) (
      mBoth (
      mLoad cPtr (ad213.add 1) fun x222 =>
      mBoth (
      m_quota_Quota_Of x215 x216 fun r223 =>
      mLoad (cInt .i64) ad214 fun x224 =>
      j218 (r223, x222, x224)
      ) (
      mLoad (cInt .i64) ad214 fun x225 =>
      m_quota_Quota_Of x215 x216 fun r226 =>
      j218 (r226, x222, x225)
      )
      ) (
      mLoad (cInt .i64) ad214 fun x227 =>
      mBoth (
      m_quota_Quota_Of x215 x216 fun r228 =>
      mLoad cPtr (ad213.add 1) fun x229 =>
      j218 (r228, x229, x227)
      ) (
      mLoad cPtr (ad213.add 1) fun x230 =>
      m_quota_Quota_Of x215 x216 fun r231 =>
      j218 (r231, x230, x227)
      )
      )
      ))
      )
      ) (fun j173 =>
      mBoth (
      m_catalogue_Catalogue_Of x170 x171 fun r174 =>
      mLoad cPtr (ad168.add 0) fun x175 =>
      mLoad (cInt .i64) ad169 fun x176 =>
      j173 (r174, x175, x176)
      ) (
      mBoth (
      mLoad cPtr (ad168.add 0) fun x177 =>
      mBoth (
      m_catalogue_Catalogue_Of x170 x171 fun r178 =>
      mLoad (cInt .i64) ad169 fun x179 =>
      j173 (r178, x177, x179)
      ) (
      mLoad (cInt .i64) ad169 fun x180 =>
      m_catalogue_Catalogue_Of x170 x171 fun r181 =>
      j173 (r181, x177, x180)
      )
      ) (
      mLoad (cInt .i64) ad169 fun x182 =>
      mBoth (
      m_catalogue_Catalogue_Of x170 x171 fun r183 =>
      mLoad cPtr (ad168.add 0) fun x184 =>
      j173 (r183, x184, x182)
      ) (
      mLoad cPtr (ad168.add 0) fun x185 =>
      m_catalogue_Catalogue_Of x170 x171 fun r186 =>
      j173 (r186, x185, x182)
      )
      )
      ))) hh := by
  have wf' := x.cat.wf
  have eo := of_other wf wf' cl hX ne
  obtain ⟨L', iv⟩ := v'
  have wl := wf.len
  have hol := ofO_len wf jd
  refine w_deref (w_idx ci_len ar hi rfl fun ad1 _ h1' => w_deref (w_idx ci_len ar hi rfl fun ad2 _ h2' => w_load x.s0 (w_load h1' (w_joinP (fun (z : Sl × Option Addr × Int) h' => z.2 = (some ⟨a.rp, 0, none⟩, jd) ∧ Buf cTok 5 N_api_Token h' z.1 (ofO S.es jd) ∧ Keeps hh h') (fun j hj => ?_) ?_))))
  · have of_ : ∀ {k : Sl → H → Prop}, (∀ sc h1, Buf cTok 5 N_api_Token h1 sc (ofO S.es jd) → Keeps hh h1 → k sc h1) → m_catalogue_Catalogue_Of (some ⟨a.p, 0, none⟩) jd k hh := fun q => o_of x.cat fun sc h1 b1 k1 _ => q sc h1 (eo ▸ b1) k1
    refine w_both (of_ fun sc h1 b1 k1 => w_load (x.keep k1).w0 (w_load (h2'.keep k1) (hj _ _ ⟨rfl, b1, k1⟩))) (w_both (w_load x.w0 (w_both (of_ fun sc h1 b1 k1 => w_load (h2'.keep k1) (hj _ _ ⟨rfl, b1, k1⟩)) (w_load h2' (of_ fun sc h1 b1 k1 => hj _ _ ⟨rfl, b1, k1⟩)))) (w_load h2' (w_both (of_ fun sc h1 b1 k1 => w_load (x.keep k1).w0 (hj _ _ ⟨rfl, b1, k1⟩)) (w_load x.w0 (of_ fun sc h1 b1 k1 => hj _ _ ⟨rfl, b1, k1⟩)))))
  rintro ⟨sc, rp, jj⟩ h1 ⟨e, b1, k1⟩
  cases e
  have x1 := x.keep k1
  refine o_rof x1.ref fun sd h2 b2 k2 _ => t_sameTokens (b1.keep k2).arr b2.arr (by omega) (w_ifF rfl ?_)
  have x2 := x1.keep k2
  have k12 := k1.trans k2
  refine w_deref (w_idx ci_len (ar.keep k12) hi rfl fun ad3 _ h3' => w_deref (w_idx ci_len (ar.keep k12) hi rfl fun ad4 _ hd => w_load x2.s1 (w_load h3' (w_joinV (qcnt l' jd, some (⟨a.rq, 0, none⟩ : Addr), jd) (fun j hj => ?_) ?_))))
  · exact w_both (o_qof x2.quo (w_load x2.w1 (w_load hd hj))) (w_both (w_load x2.w1 (w_both (o_qof x2.quo (w_load hd hj)) (w_load hd (o_qof x2.quo hj)))) (w_load hd (w_both (o_qof x2.quo (w_load x2.w1 hj)) (w_load x2.w1 (o_qof x2.quo hj)))))
  · obtain ⟨sq, z1, _⟩ := x2.rq
    refine t_QROf z1 ?_
    have e1 : qcnt l' jd = (S.L.count jd : Int) := by
      rw [iv.rel.1, ← iv.cnt, ← ofO_cnt wf', eo, ofO_cnt wf, v.cnt]
    rw [e1, decide_eq_true rfl]; exact y _ k12
structure Rest (h7 hh : H) (s38 lf : Sl) (es : List En) (X l : List Int) (i : Nat) : Prop where
  pl : ∃ ps : List Int, Buf (cInt .i64) 1 N_int hh s38 ps ∧ ps.length = l.length ∧ ∀ (j : Nat) (z : Int), j < i → l[j]? = some z → z ∉ X → ps[j]? = some (((l.take j).filter fun y => decide (y ∉ X)).length : Int)
  bl2 : Buf cTok 5 N_api_Token hh lf (((l.take i).filter fun y => decide (y ∉ X)).map (tokIn es (l.filter fun y => decide (y ∉ X))))
  new : ∀ c, lf.foot c → h7 c = none
  bt : But s38.foot h7 hh
  dom : ∀ c, hh c = none → h7 c = none
theorem t_rest {hb h h6 : H} {o o6 : Owner} {X : List Int} {g : Sl} {l' : List (Int × Int)} {ob' : List (Int × List UInt8)} (cu : Cutted h h6 o o6 s w a ev most S X g l' ob') (v : InvS most S) (lw : SLaw 8 64 S.nx S.ob) (wf : CWF S.es) {r n : Nat} {t0 u : S_api_Token} {ks us : List Int} (hr : Has S.es r t0 ks) (hp : t0.Parent = -1) {l lx : List Int} (bl : Below S.es r l)
    {k : Nat} (hk : l[k]? = some (n : Int)) (hu : Has S.es n u us) (bx : Below S.es n lx) {all : Bool} (hX : X = if all = true then l else lx) {s6 : Sl} (b6 : Buf cTok 5 N_api_Token h6 s6 (ofE S.es l)) {ids : Sl} (bi : Buf (cInt .i64) 1 N_int h6 ids (S.ob.map (·.1)))
    {op : S_law15_Op} (hall : all = decide (iAnd .i64 op.Kind 1 = 1)) {e : Int} (he : e = 0) {K : Bool → H → Prop} (hKT : ∀ hh, Keeps hb hh → K true hh) (k6 : Keeps hb h6) :
    (mIf (!decide (e = 0)) (
      K false
      ) (
      mMake 3 8 #[(Value.int .i64 0)] (s6.len : Int) (s6.len : Int) fun s38 =>
      mLoop (fun (rec40 : (Sl × Int × Int) → H → Prop) (s39 : Sl × Int × Int) =>
      mIf (decide (s39.2.2 < (s6.len : Int))) (
      mJoin (fun (s42 : Bool) =>
      mIf s42 (
      mJoin (fun (s48 : Bool) =>
      mIf s48 (
      K false
      ) (
      mDeref (some ⟨s, 0, none⟩) fun ad50 =>
      mDeref (some ⟨s, 0, none⟩) fun ad51 =>
      mDeref (some ⟨s, 0, none⟩) fun ad52 =>
      mIdx s6 s39.2.2 5 fun ad53 =>
      mLoad cPtr (ad50.add 0) fun x54 =>
      mLoad cPtr (ad51.add 1) fun x55 =>
      mLoad cPtr (ad52.add 2) fun x56 =>
      mLoad S_api_Cap.cells (ad53.add 0) fun x57 =>
      m_revoke_Token x54 x55 x56 x57 fun r58 =>
      mDeref (some ⟨s, 0, none⟩) fun ad59 =>
      mIdx s6 s39.2.2 5 fun ad60 =>
      mLoad cPtr (ad59.add 0) fun x61 =>
      mLoad S_api_Cap.cells (ad60.add 0) fun x62 =>
      m_catalogue_Catalogue_Find x61 x62 fun r63 =>
      mIf ((!decide (r58.2 = 3)) || r63.2) (
      K false
      ) (
      rec40 (s39.1, (iAdd .i64 s39.2.1 1), (iAdd .i64 s39.2.2 1))
      )
      )
      ) (fun j49 =>
      mIf (decide ((g.len : Int) ≤ s39.2.1)) (
      j49 true
      ) (
      mIdx g s39.2.1 3 fun ad64 =>
      mIdx s6 s39.2.2 5 fun ad65 =>
      mLoad S_api_Cap.cells ad64 fun x66 =>
      mLoad S_api_Cap.cells (ad65.add 0) fun x67 =>
      j49 (!((decide (x66.Obj = x67.Obj)) && (((decide (x66.Pass.Hi = x67.Pass.Hi)) && ((decide (x66.Pass.Lo = x67.Pass.Lo)) && true)) && true)))
      ))
      ) (
      mIdx s6 s39.2.2 5 fun ad68 =>
      mLoad S_api_Token.cells ad68 fun x69 =>
      mJoin (fun (s70 : Int × Int × Int × Int × Int) =>
      mIdx s38 s39.2.2 1 fun ad72 =>
      mStore ad72 [(Value.int .i64 (s39.1.len : Int))] <|
      mApp 82 5 40 #[(Value.int .i64 0), (Value.int .u64 0), (Value.int .u64 0), (Value.int .i64 0), (Value.int .i64 0)] 1 [(Value.int .i64 s70.1), (Value.int .u64 s70.2.1), (Value.int .u64 s70.2.2.1), (Value.int .i64 s70.2.2.2.1), (Value.int .i64 s70.2.2.2.2)] s39.1 fun s73 =>
      rec40 (s73, s39.2.1, (iAdd .i64 s39.2.2 1))
      ) (fun j71 =>
      mIf (decide (0 ≤ x69.Parent)) (
      mIdx s38 x69.Parent 1 fun ad74 =>
      mLoad (cInt .i64) ad74 fun x75 =>
      j71 (x69.Cap.Obj, x69.Cap.Pass.Hi, x69.Cap.Pass.Lo, x69.Rights, x75)
      ) (
      j71 (x69.Cap.Obj, x69.Cap.Pass.Hi, x69.Cap.Pass.Lo, x69.Rights, x69.Parent)
      )
      )
      )
      ) (fun j43 =>
      mIf (decide ((iAnd .i64 op.Kind 1) = 1)) (
      j43 true
      ) (
      m_law15_under s6 s39.2.2 (k : Int) fun r76 =>
      j43 r76
      ))
      ) (
      mDeref (some ⟨s, 0, none⟩) fun ad77 =>
      mLoad cPtr (ad77.add 2) fun x78 =>
      m_store_Store_Size x78 t0.Cap.Obj fun r79 =>
      mJoin (fun (s84 : Bool) =>
      mJoin (fun (s89 : Bool) =>
      mIf (s89 || (!(r79.2 == (decide (0 < (s39.1.len : Int)))))) (
      K false
      ) (
      mLoop (fun (rec92 : Int → H → Prop) (s91 : Int) =>
      mIf (decide (s91 < (ids.len : Int))) (
      mIdx ids s91 1 fun ad93 =>
      mLoad (cInt .i64) ad93 fun x94 =>
      mJoin (fun (s164 : Bool) =>
      mIf s164 (
      K false
      ) (
      rec92 (iAdd .i64 s91 1)
      )
      ) (fun j165 =>
      mIf (!decide (x94 = t0.Cap.Obj)) (
      mDeref (some ⟨s, 0, none⟩) fun ad166 =>
      mIdx ids s91 1 fun ad167 =>
      mDeref (some ⟨w, 0, none⟩) fun ad168 =>
      mIdx ids s91 1 fun ad169 =>
      mLoad cPtr (ad166.add 0) fun x170 =>
      mLoad (cInt .i64) ad167 fun x171 =>
      mJoin (fun (s172 : Sl × Option Addr × Int) =>
      m_ref11_Catalogue_Of s172.2.1 s172.2.2 fun s67 =>
      m_law15_sameTokens s172.1 s67 fun s68 =>
      mIf (!s68) (
      j165 true
      ) (
      mDeref (some ⟨s, 0, none⟩) fun ad211 =>
      mIdx ids s91 1 fun ad212 =>
      mDeref (some ⟨w, 0, none⟩) fun ad213 =>
      mIdx ids s91 1 fun ad214 =>
      mLoad cPtr (ad211.add 1) fun x215 =>
      mLoad (cInt .i64) ad212 fun x216 =>
      mJoin (fun (s217 : Int × Option Addr × Int) =>
      m_ref12_Quota_Of s217.2.1 s217.2.2 fun r232 =>
      j165 (!decide (s217.1 = r232))
      ) (fun j218 =>
      mBoth (
      m_quota_Quota_Of x215 x216 fun r219 =>
      mLoad cPtr (ad213.add 1) fun x220 =>
      mLoad (cInt .i64) ad214 fun x221 =>
      j218 (r219, x220, x221)
      ) (
      mBoth (
      mLoad cPtr (ad213.add 1) fun x222 =>
      mBoth (
      m_quota_Quota_Of x215 x216 fun r223 =>
      mLoad (cInt .i64) ad214 fun x224 =>
      j218 (r223, x222, x224)
      ) (
      mLoad (cInt .i64) ad214 fun x225 =>
      m_quota_Quota_Of x215 x216 fun r226 =>
      j218 (r226, x222, x225)
      )
      ) (
      mLoad (cInt .i64) ad214 fun x227 =>
      mBoth (
      m_quota_Quota_Of x215 x216 fun r228 =>
      mLoad cPtr (ad213.add 1) fun x229 =>
      j218 (r228, x229, x227)
      ) (
      mLoad cPtr (ad213.add 1) fun x230 =>
      m_quota_Quota_Of x215 x216 fun r231 =>
      j218 (r231, x230, x227)
      )
      )
      ))
      )
      ) (fun j173 =>
      mBoth (
      m_catalogue_Catalogue_Of x170 x171 fun r174 =>
      mLoad cPtr (ad168.add 0) fun x175 =>
      mLoad (cInt .i64) ad169 fun x176 =>
      j173 (r174, x175, x176)
      ) (
      mBoth (
      mLoad cPtr (ad168.add 0) fun x177 =>
      mBoth (
      m_catalogue_Catalogue_Of x170 x171 fun r178 =>
      mLoad (cInt .i64) ad169 fun x179 =>
      j173 (r178, x177, x179)
      ) (
      mLoad (cInt .i64) ad169 fun x180 =>
      m_catalogue_Catalogue_Of x170 x171 fun s61 =>
      j173 (s61, x177, x180)
      )
      ) (
      mLoad (cInt .i64) ad169 fun x182 =>
      mBoth (
      m_catalogue_Catalogue_Of x170 x171 fun s63 =>
      mLoad cPtr (ad168.add 0) fun x184 =>
      j173 (s63, x184, x182)
      ) (
      mLoad cPtr (ad168.add 0) fun x185 =>
      m_catalogue_Catalogue_Of x170 x171 fun s66 =>
      j173 (s66, x185, x182)
      )
      )
      ))
      ) (
      j165 false
      ))
      ) (
      K true
      )
      ) 0
      )
      ) (fun j90 =>
      mIf s84 (
      j90 true
      ) (
      mDeref (some ⟨s, 0, none⟩) fun ad233 =>
      mLoad cPtr (ad233.add 1) fun x234 =>
      m_quota_Quota_Of x234 t0.Cap.Obj fun r235 =>
      j90 (!decide (r235 = (s39.1.len : Int)))
      ))
      ) (fun j85 =>
      mIf (!decide (s39.2.1 = (g.len : Int))) (
      j85 true
      ) (
      mDeref (some ⟨s, 0, none⟩) fun ad236 =>
      mLoad cPtr (ad236.add 0) fun x237 =>
      m_catalogue_Catalogue_Of x237 t0.Cap.Obj fun r238 =>
      m_law15_sameTokens r238 s39.1 fun r239 =>
      j85 (!r239)
      ))
      )
      ) (Sl.nil, 0, 0)
      )) h6 := by
  subst he
  have wf' := cu.wd.cat.wf
  have hml := List.mem_of_getElem? hk
  have huo := bl.obj wf hr hml hu
  have nd := bl.nd
  have hbl := bl.len
  have wl := wf.len
  have cl : ClosedS S.es X := by
    rw [hX]; split
    · exact bl.closedS
    · exact bx.closedS
  have sub : l.filter (fun y => decide (y ∈ X)) = X := by
    rw [hX]; split
    · exact List.filter_eq_self.2 fun y hy => by simp [hy]
    · exact bl.pre.sub nd hml bx.pre
  have hXo : ∀ i : Nat, (i : Int) ∈ X → ∀ t ks, Has S.es i t ks → t.Cap.Obj = t0.Cap.Obj := fun i hi t ks ht => by
    rw [hX] at hi
    split at hi
    · exact bl.obj wf hr hi ht
    · exact (bx.obj wf hu hi ht).trans huo
  have eof := of_cut wf wf' cl hr hp bl
  obtain ⟨L', iv⟩ := cu.inv
  have l6 := b6.len
  have el : (ofE S.es l).length = l.length := by unfold ofE; rw [List.length_map]
  have lX := cu.bf.len
  rw [List.length_map] at lX
  refine w_ifF rfl (w_make (cells := cInt .i64) (e := N_int) (fun _ => rfl) (0 : Int) rfl (n := l.length) (by omega) (by omega) (by omega) (by omega) fun s38 h7 b7 k7 f7 _ => ?_)
  have W7 := cu.wd.keep k7
  refine w_for l.length (fun i (z : Sl × Int × Int) hh => z.2.2 = (i : Int) ∧ z.2.1 = (((l.take i).filter fun y => decide (y ∈ X)).length : Int) ∧ Rest h7 hh s38 z.1 S.es X l i) ?_
    ⟨rfl, rfl, ⟨⟨_, b7, by rw [List.length_replicate], fun j z hj => by omega⟩, Buf.nil, fun c ⟨_, q, _⟩ => (by cases q), .refl _ _, fun _ q => q⟩⟩
  rintro rec i ⟨lf, cx, iz⟩ hh hi ⟨ei, ec, R⟩ more
  have ei : iz = (i : Int) := ei
  have ec : cx = (((l.take i).filter fun y => decide (y ∈ X)).length : Int) := ec
  subst ei; subst ec
  have W := W7.free R.bt R.dom fun c f => cu.wd.own.none (f7 c f)
  have st : ∀ {T : Type} {cells : T → List Value} {sz : Nat} {e : TypeId} {t : Sl} {xs : List T}, Buf cells sz e h6 t xs → Buf cells sz e hh t xs := fun b => (b.keep k7).but R.bt fun ad ha e => b.has ⟨ad, ha, rfl⟩ (f7 _ e)
  have b6' := st b6
  have bi' := st bi
  have bg' := st cu.bf
  have Kh : Keeps hb hh := (k6.trans k7).but R.bt fun c f => k6.fresh (f7 c f)
  refine w_if' (fun c => ?_) fun c => ?_
  · have c : (i : Int) < (s6.len : Int) := c
    have hil : i < l.length := by omega
    have hz := List.getElem?_eq_getElem hil
    generalize l[i] = z at hz
    obtain ⟨q, vt, vs, rfl, hq⟩ := hasN_nds.1 (bl.live _ (List.mem_of_getElem? hz))
    have etk : (ofE S.es l)[i]? = some ⟨vt.Cap, vt.Rights, placeIn l vt.Parent⟩ := by rw [ofE_get hz, tokIn_has hq]
    have nxt : iAdd .i64 (i : Int) 1 = ((i + 1 : Nat) : Int) := ia1 i (by omega)
    have hcl : ((l.take i).filter fun y => decide (y ∈ X)).length ≤ 256 := Nat.le_trans (List.length_filter_le _ _) (by rw [List.length_take]; omega)
    refine w_joinV (decide ((q : Int) ∈ X)) (fun j hj => ?_) ?_
    · refine w_if' (fun ha => ?_) fun ha => ?_
      · have : (q : Int) ∈ X := by rw [hX, hall, decide_eq_true ha]; exact List.mem_of_getElem? hz
        rw [decide_eq_true this] at hj; exact hj
      · refine t_under15 wf hr hp bl hk bx b6'.arr hz ?_
        have : X = lx := by rw [hX, hall, decide_eq_false ha]; rfl
        rw [← this]; exact hj
    by_cases hm : (q : Int) ∈ X
    · -- gone
      refine w_ifT (decide_eq_true hm) ?_
      have gX : (X.map (capAt S.es))[((l.take i).filter fun y => decide (y ∈ X)).length]? = some vt.Cap := by
        have := filt_at (q := fun y => decide (y ∈ X)) hz (by simp [hm])
        rw [sub] at this
        rw [List.getElem?_map, this]
        exact congrArg some (capAt_has hq)
      have hlt := lt_of_get gX
      rw [List.length_map] at hlt
      refine w_joinV false (fun j hj => w_ifF (decide_eq_false (show ¬ (g.len : Int) ≤ (((l.take i).filter fun y => decide (y ∈ X)).length : Int) by omega)) (w_idx cap_len bg'.arr gX rfl fun ad _ had => w_idx tok_len b6'.arr etk rfl fun ad' _ had' => w_load had (w_load (v := vt.Cap) (cells := bC) (by rw [add_zero]; exact At.head (l2 := (cTok ⟨vt.Cap, vt.Rights, placeIn l vt.Parent⟩).drop 3) had') ?_))) ?_
      · rw [cap_eqB, decide_eq_true rfl]; exact hj
      have nf : ∀ {n : Nat} {t ks}, Has (cutE X S.es) n t ks → t.Cap ≠ vt.Cap := fun {n t ks} hn e => by
        obtain ⟨hX', _, hn', _⟩ := has_cut.1 hn
        have := wf.cap _ _ _ _ _ _ hn' hq e
        rw [this] at hX'
        exact hX' hm
      refine w_ifF rfl (w_deref (w_deref (w_deref (w_idx tok_len b6'.arr etk rfl fun ad _ had => w_load W.s0 (w_load W.s1 (w_load W.s2 (w_load (v := vt.Cap) (cells := bC) (by rw [add_zero]; exact At.head (l2 := (cTok ⟨vt.Cap, vt.Rights, placeIn l vt.Parent⟩).drop 3) had) (t_Token W (fun _ => ?_) (fun n t ks hn hc _ => absurd hc (nf hn)) fun n t ks hn hc _ => absurd hc (nf hn)))))))))
      refine w_deref (w_idx tok_len b6'.arr etk rfl fun ad _ had => w_load W.s0 (w_load (v := vt.Cap) (cells := bC) (by rw [add_zero]; exact At.head (l2 := (cTok ⟨vt.Cap, vt.Rights, placeIn l vt.Parent⟩).drop 3) had) (o_find W.cat ?_)))
      have hf : findE (cutE X S.es) vt.Cap = none := by
        cases e : findE (cutE X S.es) vt.Cap with
        | none => rfl
        | some n =>
          obtain ⟨t, ks, hn, hc⟩ := findE_has e
          exact absurd hc (nf hn)
      rw [hf]
      refine w_ifF rfl (more _ _ hil ⟨nxt, ?_, ⟨?_, ?_, R.new, R.bt, R.dom⟩⟩)
      · show iAdd .i64 (((l.take i).filter fun y => decide (y ∈ X)).length : Int) 1 = _
        rw [filt_take hz, if_pos (by simp [hm]), List.length_append, List.length_singleton]
        exact ia1 _ (by omega)
      · obtain ⟨ps, p1, p2, p3⟩ := R.pl
        refine ⟨ps, p1, p2, fun j z hj ej hn => ?_⟩
        rcases Nat.lt_succ_iff_lt_or_eq.1 hj with q | rfl
        · exact p3 j z q ej hn
        · rw [hz] at ej; cases ej; exact absurd hm hn
      · rw [filt_take hz, if_neg (by simp [hm]), List.append_nil]; exact R.bl2
    · -- left
      refine w_ifF (decide_eq_false hm) (w_get tok_len b6'.arr etk rfl (v' := ⟨vt.Cap, vt.Rights, placeIn l vt.Parent⟩) (cells' := S_api_Token.cells) rfl ?_)
      obtain ⟨ps, p1, p2, p3⟩ := R.pl
      have eT : tokIn S.es (l.filter fun y => decide (y ∉ X)) (q : Int) = ⟨vt.Cap, vt.Rights, placeIn (l.filter fun y => decide (y ∉ X)) vt.Parent⟩ := tokIn_has hq
      generalize eTT : placeIn (l.filter fun y => decide (y ∉ X)) vt.Parent = np at eT
      have ll := R.bl2.len
      rw [List.length_map] at ll
      refine w_joinV (vt.Cap.Obj, vt.Cap.Pass.Hi, vt.Cap.Pass.Lo, vt.Rights, np) (fun j hj => ?_) ?_
      · rcases bl.tell wf hr hp hz hq with ⟨_, e1, e2⟩ | ⟨_, m, b, v2, vs2, hmi, em, hb, eb, ep⟩
        · have : np = -1 := by rw [← eTT, e1]; rfl
          subst this
          refine w_ifF (decide_eq_false (show ¬ 0 ≤ placeIn l vt.Parent by rw [e2]; omega)) ?_
          show j (_, _, _, _, placeIn l vt.Parent) hh
          rw [e2]; exact hj
        · have hbX : (b : Int) ∉ X := fun hbm => by
            rcases wf.up _ _ _ hq with e | ⟨i2, t2, ks2, e, hi2, hmem, _, _⟩
            · omega
            · obtain rfl : i2 = b := by omega
              refine hm (cl _ hbm _ ?_)
              rw [chN_nat, nds_get hi2]; exact hmem
          have hps := p3 m b hmi em hbX
          have e3 : np = (((l.take m).filter fun y => decide (y ∉ X)).length : Int) := by
            rw [← eTT]
            unfold placeIn
            rw [if_neg (by omega), eb, place_filt nd em (by simp [hbX])]
          refine w_ifT (decide_eq_true (show 0 ≤ placeIn l vt.Parent by rw [ep]; omega)) (w_idx ci_len p1.arr hps ep fun ad _ had => w_load had ?_)
          rw [← e3]; exact hj
      refine w_put ci_len p1 (i := i) (by omega) rfl (lf.len : Int) rfl fun h8 p8 b8 d8 => ?_
      have nlf : ∀ c, lf.foot c → ¬ s38.foot c := fun c f g => (R.bl2.typed f).ne (p1.typed g) (by decide) rfl
      have q8 := R.bl2.but b8 fun ad ha e => nlf _ ⟨ad, ha, rfl⟩ e
      have hfl : ((l.take i).filter fun y => decide (y ∉ X)).length ≤ 256 := Nat.le_trans (List.length_filter_le _ _) (by rw [List.length_take]; omega)
      refine w_app tok_len rfl q8 [(⟨vt.Cap, vt.Rights, np⟩ : S_api_Token)] rfl rfl (.inl (by rw [List.length_map]; simp only [List.length_singleton]; omega)) fun lf' h9 q9 b9 g9 d9 => ?_
      have p9 := p8.but b9 fun ad ha e => (R.bl2.typed e).ne (p1.typed ⟨ad, ha, rfl⟩) (by decide) rfl
      refine more _ _ hil ⟨nxt, ?_, ⟨⟨_, p9, by rw [List.length_set]; exact p2, fun j z hj ej hn => ?_⟩, ?_, fun c f => ?_, (R.bt.trans b8 fun _ f => .inl f).trans b9 fun c f => .inr (R.new c f), fun c e => R.dom c (d8 c (d9 c e))⟩⟩
      · rw [filt_take hz, if_neg (by simp [hm]), List.append_nil]
      · rcases Nat.lt_succ_iff_lt_or_eq.1 hj with q' | rfl
        · rw [List.getElem?_set_ne (by omega)]; exact p3 j z q' ej hn
        · rw [List.getElem?_set_self (by omega), ll]
      · rw [filt_take hz, if_pos (by simp [hm]), List.map_append, List.map_singleton, eT]; exact q9
      · rcases g9 c f with z | z
        · exact R.new c z
        · exact R.dom c (d8 c z)
  · have c : ¬ (i : Int) < (s6.len : Int) := c
    obtain rfl : i = l.length := by omega
    have bl2 := R.bl2
    rw [List.take_length] at bl2 ⊢
    rw [sub]
    have bl3 : Buf cTok 5 N_api_Token hh lf (ofO (cutE X S.es) t0.Cap.Obj) := by rw [eof]; exact bl2
    have ll := bl3.len
    have ecn := ofO_cnt wf' t0.Cap.Obj
    have hlo := ofO_len wf' t0.Cap.Obj
    have wl' := wf'.len
    obtain ⟨F, P, sa, _⟩ := W.sto
    refine w_deref (w_load W.s2 (t_SSize sa ?_))
    refine w_joinP (fun z h' => z = false ∧ Keeps hh h') (fun j hj => w_ifF (by rw [lX, decide_eq_true rfl]; rfl) (w_deref (w_load W.s0 (o_of W.cat fun sc h8 b8 k8 _ => t_sameTokens b8.arr (bl3.keep k8).arr (by omega) (hj _ _ ⟨rfl, k8⟩))))) ?_
    rintro _ h8 ⟨rfl, k8⟩
    have W8 := W.keep k8
    refine w_joinV false (fun j hj => w_ifF rfl (w_deref (w_load W8.s1 (o_qof W8.quo ?_)))) ?_
    · have : qcnt l' t0.Cap.Obj = (lf.len : Int) := by rw [iv.rel.1, ← iv.cnt, ll, ecn]
      rw [this, decide_eq_true rfl]; exact hj
    have hs : (alook ob' t0.Cap.Obj).isSome = decide (0 < (lf.len : Int)) := by
      have ii := iv.ids t0.Cap.Obj
      by_cases z : 0 < cnt (cutE X S.es) t0.Cap.Obj
      · rw [decide_eq_true (by omega)]
        cases e : alook ob' t0.Cap.Obj with
        | some _ => rfl
        | none => exact absurd (ii.1 z) (aidx_none e)
      · rw [decide_eq_false (by omega)]
        rw [alook_none (fun hm => z (ii.2 hm))]; rfl
    refine w_ifF (by rw [hs]; simp) ?_
    have bi8 := bi'.keep k8
    have li := bi8.len
    refine w_for (S.ob.map (·.1)).length (fun j (z : Int) h' => z = (j : Int) ∧ Keeps h8 h') ?_ ⟨rfl, .refl _⟩
    rintro rec2 j _ h9 hj ⟨rfl, k9⟩ more2
    refine w_if' (fun c => ?_) fun c => hKT _ ((Kh.trans k8).trans k9)
    have c : (j : Int) < (ids.len : Int) := c
    have hjl : j < (S.ob.map (·.1)).length := by omega
    have hz := List.getElem?_eq_getElem hjl
    have hob : (S.ob.map (·.1)).length ≤ 2 ^ 40 := by
      have := lw.most
      rw [List.length_map]; omega
    generalize (S.ob.map (·.1))[j] = jd at hz
    refine w_get ci_len (bi8.keep k9).arr hz rfl (v' := jd) rfl ?_
    refine w_joinP (fun z h' => z = false ∧ Keeps h9 h') (fun j2 hj2 => w_if (fun q => ?_) fun _ => hj2 _ _ ⟨rfl, .refl _⟩) ?_
    · refine t_others (W8.keep k9) v ⟨L', iv⟩ wf cl hXo (by simpa using q) (bi8.keep k9).arr hz fun h' k' => hj2 _ _ ⟨rfl, k'⟩
    rintro _ h10 ⟨rfl, k10⟩
    exact w_ifF rfl (more2 _ _ hjl ⟨ia1 j (by omega), k9.trans k10⟩)
theorem t_RevokeRest {h : H} {e0 : Int} {sl : Sl} {ops : List S_law15_Op} (ar : Arr S_law15_Op.cells h sl ops) (hn : ops.length ≤ 9223372036854775807) {op : S_law15_Op} {K : Bool → H → Prop} (y : ∀ h', Keeps h h' → K true h') : m_law15_RevokeRest e0 sl op K h := by
  unfold m_law15_RevokeRest
  refine t_head15 fun h1 k1 => w_ifF rfl (t_made fun s w a o h2 x2 k2 f2 => w_ifF rfl ?_)
  have K2 := k1.trans k2
  have hm := intoV_rng e0 (b := 256) (by decide)
  generalize em : 1 + intoV e0 256 = most at *
  have hm1 : 1 ≤ most ∧ most ≤ 256 := by omega
  have f2' : ∀ c, o c ≠ none → h c = none := fun c e => k1.fresh (f2 c e)
  have hl := ar.len
  refine w_for ops.length (fun i (z : Int) hh => z = (i : Int) ∧ ∃ S ev o', ev ≤ i ∧ WldS hh o' s w a ev most S ∧ InvS most S ∧ Keeps h hh ∧ ∀ c, o' c ≠ none → h c = none) ?_ ⟨rfl, ws0 most, 0, o, Nat.le_refl _, x2, inv0 hm1.1, K2, f2'⟩
  rintro rec i z h3 hi ⟨rfl, S, ev, o', le, x3, v3, k3, f3⟩ more
  refine w_if' (fun c => ?_) fun c => ?_
  · have c : (i : Int) < (sl.len : Int) := c
    have hil : i < ops.length := by omega
    have hz := List.getElem?_eq_getElem hil
    have nx : iAdd .i64 (i : Int) 1 = ((i + 1 : Nat) : Int) := (iAdd_eq (by omega) (by omega)).trans (by omega)
    generalize ops[i] = q at hz
    refine w_field op15_len (ar.keep k3) hz rfl (v' := q.Kind) (cells' := cInt .i64) (l1 := []) (l3 := (S_law15_Op.cells q).drop 1) rfl rfl ?_
    refine w_if (fun _ => w_get op15_len (ar.keep k3) hz rfl (v' := q) rfl (t_grow x3 v3 hm1.2 (by omega) fun S5 ev5 o5 h5 _ v5 le5 x5 t5 => w_ifF rfl ?_)) fun _ => more _ _ hil ⟨nx, S, ev, o', by omega, x3, v3, k3, f3⟩
    exact more _ _ hil ⟨nx, S5, ev5, o5, by omega, x5, v5, OT.out k3 t5 f3, OT.outs k3 t5 f3⟩
  clear more rec hi
  have lw := x3.law1
  have lm := lw.most
  refine w_deref (w_load x3.s2 (o_sids x3.sto fun ids h4 b4 k4 f4 => w_if' (fun _ => y _ (k3.trans k4)) fun c0 => ?_))
  have c0 : ¬ (ids.len : Int) = 0 := c0
  have x4 := x3.keep k4
  have l4 := b4.len
  rw [List.length_map] at l4
  have u4 : ∀ c, ids.foot c → o' c = none := fun c f => x3.own.none (f4 c f)
  have rng := intoV_rng op.Obj (b := (ids.len : Int)) (by omega)
  refine w_mod (by omega) (by omega) ?_
  have hil : (intoV op.Obj (ids.len : Int)).toNat < (S.ob.map (·.1)).length := by rw [List.length_map]; omega
  have hz := List.getElem?_eq_getElem hil
  have hin : (S.ob.map (·.1))[(intoV op.Obj (ids.len : Int)).toNat] ∈ S.ob.map (·.1) := List.getElem_mem hil
  generalize (S.ob.map (·.1))[(intoV op.Obj (ids.len : Int)).toNat] = id at hz hin
  have wf := x4.cat.wf
  have wl := wf.len
  have hpos := (v3.ids id).2 hin
  obtain ⟨i0, t9, ks9, h9, e9⟩ := cnt_pos.1 hpos
  obtain ⟨r, t0, ks, hr, hp, eo, _⟩ := wf.rootOf h9
  obtain rfl : t0.Cap.Obj = id := eo.trans e9
  obtain ⟨l, bl⟩ := wf.ex hr
  have eof := ofO_some wf hr rfl hp bl
  refine w_get ci_len b4.arr hz (by omega) (v' := t0.Cap.Obj) rfl (w_deref (w_load x4.s0 (o_of x4.cat fun s6 h6 b6 k6 f6 => ?_)))
  rw [eof] at b6
  have x6 := x4.keep k6
  have K6 := (k3.trans k4).trans k6
  have u6 : ∀ c, s6.foot c → o' c = none := fun c f => x4.own.none (f6 c f)
  have l6 := b6.len
  have el : (ofE S.es l).length = l.length := by unfold ofE; rw [List.length_map]
  have hbl := bl.len
  obtain ⟨l1, ex, _⟩ := bl.pre.one
  have hl0 : 0 < l.length := by rw [ex]; simp
  have rng2 := intoV_rng op.At (b := (s6.len : Int)) (by omega)
  refine w_ifF (decide_eq_false (by omega)) (w_mod (by omega) (by omega) ?_)
  obtain ⟨k, hk⟩ : ∃ k : Nat, intoV op.At (s6.len : Int) = k := ⟨_, (Int.toNat_of_nonneg rng2.1).symm⟩
  rw [hk]
  have hkl : k < l.length := by omega
  have hzk := List.getElem?_eq_getElem hkl
  generalize l[k] = zz at hzk
  obtain ⟨n, u, us, rfl, hu⟩ := hasN_nds.1 (bl.live _ (List.mem_of_getElem? hzk))
  obtain ⟨lx, bx⟩ := wf.ex hu
  have etk : (ofE S.es l)[k]? = some ⟨u.Cap, u.Rights, placeIn l u.Parent⟩ := by rw [ofE_get hzk, tokIn_has hu]
  have huo := bl.obj wf hr (List.mem_of_getElem? hzk) hu
  refine w_field tok_len b6.arr etk rfl (v' := u.Cap) (cells' := bC) (l1 := []) (l3 := (cTok ⟨u.Cap, u.Rights, placeIn l u.Parent⟩).drop 3) rfl rfl ?_
  have fnd := wf.find hu
  obtain ⟨all, hall⟩ : ∃ all, decide (iAnd .i64 op.Kind 1 = 1) = all := ⟨_, rfl⟩
  refine w_joinP (fun (z : Int × Sl × Int) hh => z.1 = (if all = true then 16 else 8) ∧ ((partOf z.1 u.Rights = false ∧ z.2 = (Sl.nil, 4) ∧ h6 = hh) ∨ (partOf z.1 u.Rights = true ∧ z.2.2 = 0 ∧ ∃ o6 l' ob', Cutted h6 hh o' o6 s w a ev most S (if all = true then l else lx) z.2.1 l' ob'))) (fun j hj => ?_) ?_
  · refine w_if (fun q => ?_) fun q => ?_
    · have ha : all = true := hall ▸ q
      subst ha
      refine w_deref (w_deref (w_deref (w_load x6.s0 (w_load x6.s1 (w_load x6.s2 (t_Object1 (S := S) x6 (fun hf => by rw [fnd] at hf; cases hf) (fun n' t' ks' hn' hc' hp' => ?_) fun n' t' ks' m u2 us2 hn' hc' hp' hm' hup' huo' sg o6 h7 x7 t7 b7 f7 => ?_))))))
      · obtain rfl := wf.cap _ _ _ _ _ _ hn' hu hc'
        obtain ⟨rfl, _⟩ := hn'.uniq hu
        exact hj _ _ ⟨rfl, .inl ⟨hp', rfl, rfl⟩⟩
      · obtain rfl := wf.cap _ _ _ _ _ _ hn' hu hc'
        obtain ⟨rfl, _⟩ := hn'.uniq hu
        obtain rfl := wf.one _ _ _ _ _ _ hm' hr hup' hp (huo'.trans huo)
        obtain ⟨rfl, _⟩ := hm'.uniq hr
        have ei := (v3.cut x6 hr).1
        rw [decide_eq_true (by omega)] at ei
        unfold InvS cutS at ei
        unfold cutS at x7
        unfold goneS at b7
        rw [bl.eq] at ei x7 b7
        rw [huo] at x7
        exact hj _ _ ⟨rfl, .inr ⟨hp', rfl, o6, _, _, x7, ⟨_, ei⟩, t7, b7, fun c f => ⟨(f7 c f).2, (f7 c f).1⟩⟩⟩
    · have ha : all = false := hall ▸ q
      subst ha
      refine w_deref (w_deref (w_deref (w_load x6.s0 (w_load x6.s1 (w_load x6.s2 (t_Token1 x6 (fun hf => by rw [fnd] at hf; cases hf) (fun n' t' ks' hn' hc' hp' => ?_) fun n' t' ks' hn' hc' hp' sg o6 h7 x7 t7 b7 f7 => ?_))))))
      · obtain rfl := wf.cap _ _ _ _ _ _ hn' hu hc'
        obtain ⟨rfl, _⟩ := hn'.uniq hu
        exact hj _ _ ⟨rfl, .inl ⟨hp', rfl, rfl⟩⟩
      · obtain rfl := wf.cap _ _ _ _ _ _ hn' hu hc'
        obtain ⟨rfl, _⟩ := hn'.uniq hu
        have ei := (v3.cut x6 hu).1
        unfold InvS cutS at ei
        unfold cutS at x7
        unfold goneS at b7
        rw [bx.eq] at ei x7 b7
        exact hj _ _ ⟨rfl, .inr ⟨hp', rfl, o6, _, _, x7, ⟨_, ei⟩, t7, b7, fun c f => ⟨(f7 c f).2, (f7 c f).1⟩⟩⟩
  rintro ⟨need, g, e⟩ h7 ⟨en, hh⟩
  have en : need = if all = true then 16 else 8 := en
  have h816 : need = 8 ∨ need = 16 := by cases all <;> simp [en]
  have hb := nz_and (wf.right _ _ _ hu) h816
  have t67 : Buf cTok 5 N_api_Token h7 s6 (ofE S.es l) := by
    rcases hh with ⟨_, _, rfl⟩ | ⟨_, _, o6, l', ob', cu⟩
    · exact b6
    · exact b6.but cu.ot.bt fun ad ha e => e (u6 _ ⟨ad, ha, rfl⟩)
  refine w_field tok_len t67.arr etk rfl (v' := u.Rights) (cells' := cInt .i64) (l1 := (cTok ⟨u.Cap, u.Rights, placeIn l u.Parent⟩).take 3) (l3 := (cTok ⟨u.Cap, u.Rights, placeIn l u.Parent⟩).drop 4) rfl rfl ?_
  rcases hh with ⟨q1, q2, rfl⟩ | ⟨q1, q2, o6, l', ob', cu⟩
  · have q2 : (g, e) = (Sl.nil, 4) := q2
    cases q2
    refine w_ifT (decide_eq_true (show iAnd .i64 u.Rights need = 0 from hb ▸ q1)) ?_
    refine w_joinP (fun z h' => z = true ∧ Keeps h6 h') (fun j hj => w_ifT rfl (w_deref (w_load x6.s0 (o_of x6.cat fun sc h8 b8 k8 _ => t_sameTokens (b8).arr (by rw [eof]; exact (b6.keep k8).arr) (by rw [eof]; omega) (hj _ _ ⟨rfl, k8⟩))))) ?_
    rintro _ h8 ⟨rfl, k8⟩
    exact w_ifT rfl (t_told (x6.keep k8) v3.rel fun h9 k9 => y _ ((K6.trans k8).trans k9))
  · have q2 : e = 0 := q2
    have q1 : partOf need u.Rights = true := q1
    refine w_ifF (decide_eq_false (show ¬ iAnd .i64 u.Rights need = 0 from fun z => by have := hb ▸ z; rw [q1] at this; cases this)) ?_
    have bi7 := (b4.keep k6).but cu.ot.bt fun ad ha e => e (u4 _ ⟨ad, ha, rfl⟩)
    exact t_rest (S := S) cu v3 lw wf hr hp bl hzk hu bx rfl t67 bi7 hall.symm q2 y (OT.out K6 cu.ot f3)
end
end Go.Proofs.YtcclfjhnpeappaaGreat.K
namespace Go.Proofs.YtcclfjhnpeappaaGreat.K
open Go Go.ChangeShapes Go.WideShapes Go.ChangeAt Go.RowKit Go.Proofs
def G_api_Word (_W : World) (x : S_api_Word) : Prop := (IntKind.u64.min ≤ x.Hi ∧ x.Hi ≤ IntKind.u64.max) ∧ (IntKind.u64.min ≤ x.Lo ∧ x.Lo ≤ IntKind.u64.max)
set_option maxRecDepth 100000 in
theorem openC_api_Word {HH : Type} {enc : TypeId × Value → HH} {W : World} {t : TypeId} (ht : Tryz.prog.underlying t = Tryz.prog.underlying 35) (hc : Tryz.prog.cellsOf t = 2) {n : Nat} {cs : List Value} {y : DataW HH × List MemPlace} (h : DataW.trod enc Tryz.prog W 0 (fun _ => true) true n t cs = some y) : ∃ x : S_api_Word, cs = S_api_Word.cells x ∧ G_api_Word W x := by
  have ht : Tryz.prog.underlying t = _ := ht.trans Tryz.underlying35
  obtain ⟨_, _, _, _, hl0, _, _⟩ := DataW.trod_struct ht h
  obtain ⟨y0, n0, h0⟩ := trod_field ht h 0 _ rfl
  obtain ⟨x0, e0, g0⟩ := open_intC (k := .u64) (by kernel_rfl) h0
  obtain ⟨y1, n1, h1⟩ := trod_field ht h 1 _ rfl
  obtain ⟨x1, e1, g1⟩ := open_intC (k := .u64) (by kernel_rfl) h1
  have hl : cs.length = 2 := hl0.trans hc
  match cs, hl with
  | [c0, c1], _ =>
    replace e0 : [c0] = (cInt .u64) x0 := (show [c0] = _ by kernel_rfl).trans e0
    replace e1 : [c1] = (cInt .u64) x1 := (show [c1] = _ by kernel_rfl).trans e1
    exact ⟨⟨x0, x1⟩, (show [c0, c1] = [c0] ++ [c1] from rfl).trans (by rw [e0, e1]; rfl), g0, g1⟩
def G_api_Cap (W : World) (x : S_api_Cap) : Prop := (IntKind.i64.min ≤ x.Obj ∧ x.Obj ≤ IntKind.i64.max) ∧ G_api_Word W x.Pass
set_option maxRecDepth 100000 in
theorem openC_api_Cap {HH : Type} {enc : TypeId × Value → HH} {W : World} {t : TypeId} (ht : Tryz.prog.underlying t = Tryz.prog.underlying 37) (hc : Tryz.prog.cellsOf t = 3) {n : Nat} {cs : List Value} {y : DataW HH × List MemPlace} (h : DataW.trod enc Tryz.prog W 0 (fun _ => true) true n t cs = some y) : ∃ x : S_api_Cap, cs = S_api_Cap.cells x ∧ G_api_Cap W x := by
  have ht : Tryz.prog.underlying t = _ := ht.trans Tryz.underlying37
  obtain ⟨_, _, _, _, hl0, _, _⟩ := DataW.trod_struct ht h
  obtain ⟨y0, n0, h0⟩ := trod_field ht h 0 _ rfl
  obtain ⟨x0, e0, g0⟩ := open_intC (k := .i64) (by kernel_rfl) h0
  obtain ⟨y1, n1, h1⟩ := trod_field ht h 1 _ rfl
  obtain ⟨x1, e1, g1⟩ := openC_api_Word (t := 36) (by kernel_rfl) (by kernel_rfl) h1
  have hl : cs.length = 3 := hl0.trans hc
  match cs, hl with
  | [c0, c1, c2], _ =>
    replace e0 : [c0] = (cInt .i64) x0 := (show [c0] = _ by kernel_rfl).trans e0
    replace e1 : [c1, c2] = S_api_Word.cells x1 := (show [c1, c2] = _ by kernel_rfl).trans e1
    exact ⟨⟨x0, x1⟩, (show [c0, c1, c2] = [c0] ++ [c1, c2] from rfl).trans (by rw [e0, e1]; rfl), g0, g1⟩
def G_law15_Op (W : World) (x : S_law15_Op) : Prop := (IntKind.i64.min ≤ x.Kind ∧ x.Kind ≤ IntKind.i64.max) ∧ (IntKind.i64.min ≤ x.Obj ∧ x.Obj ≤ IntKind.i64.max) ∧ (IntKind.i64.min ≤ x.At ∧ x.At ≤ IntKind.i64.max) ∧ (IntKind.i64.min ≤ x.Rights ∧ x.Rights ≤ IntKind.i64.max) ∧ (IntKind.i64.min ≤ x.Size ∧ x.Size ≤ IntKind.i64.max) ∧ G_api_Word W x.W ∧ G_api_Cap W x.X
set_option maxRecDepth 100000 in
theorem openC_law15_Op {HH : Type} {enc : TypeId × Value → HH} {W : World} {t : TypeId} (ht : Tryz.prog.underlying t = Tryz.prog.underlying 61) (hc : Tryz.prog.cellsOf t = 10) {n : Nat} {cs : List Value} {y : DataW HH × List MemPlace} (h : DataW.trod enc Tryz.prog W 0 (fun _ => true) true n t cs = some y) : ∃ x : S_law15_Op, cs = S_law15_Op.cells x ∧ G_law15_Op W x := by
  have ht : Tryz.prog.underlying t = _ := ht.trans Tryz.underlying61
  obtain ⟨_, _, _, _, hl0, _, _⟩ := DataW.trod_struct ht h
  obtain ⟨y0, n0, h0⟩ := trod_field ht h 0 _ rfl
  obtain ⟨x0, e0, g0⟩ := open_intC (k := .i64) (by kernel_rfl) h0
  obtain ⟨y1, n1, h1⟩ := trod_field ht h 1 _ rfl
  obtain ⟨x1, e1, g1⟩ := open_intC (k := .i64) (by kernel_rfl) h1
  obtain ⟨y2, n2, h2⟩ := trod_field ht h 2 _ rfl
  obtain ⟨x2, e2, g2⟩ := open_intC (k := .i64) (by kernel_rfl) h2
  obtain ⟨y3, n3, h3⟩ := trod_field ht h 3 _ rfl
  obtain ⟨x3, e3, g3⟩ := open_intC (k := .i64) (by kernel_rfl) h3
  obtain ⟨y4, n4, h4⟩ := trod_field ht h 4 _ rfl
  obtain ⟨x4, e4, g4⟩ := open_intC (k := .i64) (by kernel_rfl) h4
  obtain ⟨y5, n5, h5⟩ := trod_field ht h 5 _ rfl
  obtain ⟨x5, e5, g5⟩ := openC_api_Word (t := 36) (by kernel_rfl) (by kernel_rfl) h5
  obtain ⟨y6, n6, h6⟩ := trod_field ht h 6 _ rfl
  obtain ⟨x6, e6, g6⟩ := openC_api_Cap (t := 38) (by kernel_rfl) (by kernel_rfl) h6
  have hl : cs.length = 10 := hl0.trans hc
  match cs, hl with
  | [c0, c1, c2, c3, c4, c5, c6, c7, c8, c9], _ =>
    replace e0 : [c0] = (cInt .i64) x0 := (show [c0] = _ by kernel_rfl).trans e0
    replace e1 : [c1] = (cInt .i64) x1 := (show [c1] = _ by kernel_rfl).trans e1
    replace e2 : [c2] = (cInt .i64) x2 := (show [c2] = _ by kernel_rfl).trans e2
    replace e3 : [c3] = (cInt .i64) x3 := (show [c3] = _ by kernel_rfl).trans e3
    replace e4 : [c4] = (cInt .i64) x4 := (show [c4] = _ by kernel_rfl).trans e4
    replace e5 : [c5, c6] = S_api_Word.cells x5 := (show [c5, c6] = _ by kernel_rfl).trans e5
    replace e6 : [c7, c8, c9] = S_api_Cap.cells x6 := (show [c7, c8, c9] = _ by kernel_rfl).trans e6
    exact ⟨⟨x0, x1, x2, x3, x4, x5, x6⟩, (show [c0, c1, c2, c3, c4, c5, c6, c7, c8, c9] = [c0] ++ [c1] ++ [c2] ++ [c3] ++ [c4] ++ [c5, c6] ++ [c7, c8, c9] from rfl).trans (by rw [e0, e1, e2, e3, e4, e5, e6]; rfl), g0, g1, g2, g3, g4, g5, g6⟩
set_option maxRecDepth 100000 in
theorem revokeRest_lifted (os : Os) (started : os.Started) (HH : Type) (enc : TypeId × Value → HH) :
    ReturnsInHanded {} Tryz.checked os 5 .any (Rows.revokeRestSpec.pre6 enc Tryz.prog Tryz.f5 Rows.revokeRestRow.domain false) (Rows.revokeRestSpec.post enc Tryz.prog Tryz.f5 false true false false) := by
  refine returnsInHanded_of_change (C := Tryz.checked) own started (by kernel_rfl) Tryz.func5
    (ChangeSpec.witness6 (enc := enc) (C := Tryz.checked) false ⟨#[], #[.int .i64 0, .slice none 0 0, .agg #[.int .i64 0, .int .i64 0, .int .i64 0, .int .i64 0, .int .i64 0, .int .u64 0, .int .u64 0, .int .i64 0, .int .u64 0, .int .u64 0]], []⟩ 8 (by kernel_rfl) (by kernel_rfl) (by kernel_rfl) (by kernel_rfl)) ?_
  intro W base args ds gs before hval0 hW hcnd _
  have hval : ∀ (j : Nat) t v, Tryz.f5.params[j]? = some t → args[j]? = some v → Value.okWide Tryz.prog W .any base t v := hval0
  have hW' : DataW.Whole enc Tryz.prog Tryz.f5.params.toList Rows.revokeRestSpec.vars false W args.toList ds gs before := hW
  obtain ⟨p, q, hA0, hV, rfl, hfz, hnd⟩ := hW
  have hA : DataW.TrodAll enc Tryz.prog W 0 (fun _ => true) true [3, 56, 62] args.toList ds p := hA0
  obtain ⟨l⟩ := args
  obtain ⟨v0, l0, d0, ds0, p0, q0, e0, rfl, rfl, t0, hB0⟩ := trodAll_cons hA
  replace e0 : l = v0 :: l0 := e0
  subst e0
  obtain ⟨v1, l1, d1, ds1, p1, q1, e1, rfl, rfl, t1, hB1⟩ := trodAll_cons hB0
  replace e1 : l0 = v1 :: l1 := e1
  subst e1
  obtain ⟨v2, l2, d2, ds2, p2, q2, e2, rfl, rfl, t2, hB2⟩ := trodAll_cons hB1
  replace e2 : l1 = v2 :: l2 := e2
  subst e2
  obtain ⟨rfl, rfl, rfl⟩ := trodAll_nil hB2
  obtain ⟨rfl, rfl⟩ := trodVars_none hV
  obtain ⟨x0, rfl, _, _, w0⟩ := open_int (k := .i64) (by kernel_rfl) (hval 0 3 v0 rfl rfl) t0
  obtain ⟨s1, b1, rfl, r1, g1, m1, u1⟩ := open_arr (e := 62) (sz := 10) S_law15_Op.cells (fun z => G_law15_Op W z) (fun _ => rfl) (by decide) (by kernel_rfl) (by kernel_rfl) (fun _ _ _ hf => openC_law15_Op (t := 62) (by kernel_rfl) (by kernel_rfl) hf) (hval 1 56 v1 rfl rfl) t1
  obtain ⟨c2, rfl, _, _, hf2⟩ := open_str ((show Tryz.prog.underlying 62 = Tryz.prog.underlying 61 by kernel_rfl).trans Tryz.underlying61) (hval 2 62 v2 rfl rfl) t2
  obtain ⟨x2, ec2, g2⟩ := openC_law15_Op (t := 62) (by kernel_rfl) (by kernel_rfl) hf2
  subst ec2
  have walk := s_law15_RevokeRest.ok (x0, s1, x2) (fun r h' => r = true ∧ Keeps (heapH W) h') (heapH W) (t_RevokeRest r1 (Nat.le_trans (r1.len ▸ r1.cap) m1) (K := fun r h' => r = true ∧ Keeps (heapH W) h') fun h' k => ⟨rfl, k⟩)
  refine (calls_law (walk.mono (fun v h' => fun ⟨r, e, er, k⟩ => ⟨by rw [e, er]; rfl, k⟩) fun _ _ k => k)).mono fun e W' => fun ⟨he, hb⟩ => ?_
  subst he
  exact ⟨_, rfl, post_law (tb := 4) laid (by kernel_rfl) rfl (by kernel_rfl) rfl hW' ⟨rfl, rfl, rfl⟩ hb⟩
theorem revokeRest_holds : Rows.RevokeRestSaid :=
  OpenClaim.holds_of_wide 5 Tryz.f5 rfl rfl rfl rfl rfl rfl rfl ⟨rfl, rfl, rfl, rfl, rfl⟩ rfl rfl rfl rfl rfl (by kernel_rfl) Tryz.func5 (by kernel_rfl)
    (of_decide_eq_true (by kernel_rfl)) (by unfold Func.isWrapper; rw [if_neg (by decide +kernel)]; exact ⟨rfl, rfl⟩)
    (fun os started H enc _ => revokeRest_lifted os started H enc)
end Go.Proofs.YtcclfjhnpeappaaGreat.K
