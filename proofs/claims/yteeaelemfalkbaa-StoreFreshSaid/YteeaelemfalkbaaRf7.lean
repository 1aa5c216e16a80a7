/- ref07: the document's store in memory; its calls. -/
import Derived.Test.YteeaelemfalkbaaL07c
import Derived.Test.YteeaelemfalkbaaFref07
namespace Go.Proofs.Yteeaelemfalkbaa.K
open Go
structure RCore (h : H) (q : Nat) (G : Nat → Prop) (objs : Int) (np : Nat) (next : Int) (L : List (Int × List UInt8)) (sl : Sl) (items : List S_ref07_Object) : Prop where
  cell : h q = some (.cells (S_ref07_Store.cells ⟨objs, (np : Int), sl, next⟩).toArray N_ref07_Store (0, 0))
  buf : Buf S_ref07_Object.cells 2 N_ref07_Object h sl items
  len : items.length = L.length
  each : ∀ (i : Nat) (x : S_ref07_Object) (y : Int × List UInt8), items[i]? = some x → L[i]? = some y → x.Id = y.1 ∧ Buf cU8 1 N_u8 h x.B y.2
  apart : ∀ (i j : Nat) (x y : S_ref07_Object), i ≠ j → items[i]? = some x → items[j]? = some y → ∀ c, x.B.foot c → ¬ y.B.foot c
  gq : G q
  gs : ∀ c, sl.foot c → G c
  gb : ∀ x ∈ items, ∀ c, x.B.foot c → G c
  has : ∀ c, G c → h c ≠ none
/-- The document's store: its blocks 'G'. -/
def RAt (h : H) (q : Nat) (G : Nat → Prop) (objs : Int) (np : Nat) (next : Int) (L : List (Int × List UInt8)) : Prop := ∃ sl items, RCore h q G objs np next L sl items
theorem ob_len7 : ∀ x : S_ref07_Object, (S_ref07_Object.cells x).length = 2 := fun _ => rfl
theorem ob_plain7 : ∀ x : S_ref07_Object, (S_ref07_Object.cells x).all plainVal = true := fun _ => rfl
theorem aidx_at {id : Int} {v : List UInt8} : ∀ {L : List (Int × List UInt8)} {j : Nat}, (∀ p ∈ L.take j, p.1 ≠ id) → L[j]? = some (id, v) → aidx L id = some (j, v) := by
  intro L
  induction L with
  | nil => intro j _ h; simp at h
  | cons p r ih =>
    intro j hn h
    cases j with
    | zero =>
      have h : p = (id, v) := by simpa using h
      subst h
      rw [aidx_cons, if_pos rfl]
    | succ j =>
      have h : r[j]? = some (id, v) := by simpa using h
      have h0 := hn p (by rw [List.take_succ_cons]; exact List.mem_cons_self ..)
      rw [show (p :: r) = ((p.1, p.2) :: r) from rfl, aidx_cons, if_neg (Ne.symm h0), ih (fun q hq => hn q (by rw [List.take_succ_cons]; exact List.mem_cons_of_mem _ hq)) h]
      rfl
theorem aidx_no {id : Int} : ∀ {L : List (Int × List UInt8)}, (∀ p ∈ L, p.1 ≠ id) → aidx L id = none := by
  intro L
  induction L with
  | nil => intro _; rfl
  | cons p r ih =>
    intro hn
    rw [show (p :: r) = ((p.1, p.2) :: r) from rfl, aidx_cons, if_neg (Ne.symm (hn p (List.mem_cons_self ..))), ih fun q hq => hn q (List.mem_cons_of_mem _ hq)]
    rfl
section
variable {m : Int} {h : H} {q : Nat} {G : Nat → Prop} {objs : Int} {np : Nat} {next : Int} {L : List (Int × List UInt8)} {sl : Sl} {items : List S_ref07_Object}
theorem RCore.keep (x : RCore h q G objs np next L sl items) {h' : H} (k : Keeps h h') : RCore h' q G objs np next L sl items :=
  ⟨k _ _ x.cell, x.buf.keep k, x.len, fun i a b e1 e2 => ⟨(x.each i a b e1 e2).1, (x.each i a b e1 e2).2.keep k⟩, x.apart, x.gq, x.gs, x.gb, fun c g e => x.has c g (k.fresh e)⟩
theorem RCore.other (x : RCore h q G objs np next L sl items) {h' : H} {F : Nat → Prop} (k : But F h h') (f : ∀ c, F c → h c ≠ none → ¬ G c) : RCore h' q G objs np next L sl items := by
  have k' : But G h h → But (fun c => F c ∧ h c ≠ none) h h' := fun _ c o e nf => k c o e fun z => nf ⟨z, by rw [e]; simp⟩
  have k' := k' (.refl _ _)
  have no : ∀ c, G c → ¬ (F c ∧ h c ≠ none) := fun c g z => f c z.1 z.2 g
  refine ⟨k' _ _ x.cell (no _ x.gq), x.buf.but k' fun a ha => no _ (x.gs _ ⟨a, ha, rfl⟩), x.len, fun i a b e1 e2 => ⟨(x.each i a b e1 e2).1, (x.each i a b e1 e2).2.but k' fun d hd => no _ (x.gb _ (List.mem_of_getElem? e1) _ ⟨d, hd, rfl⟩)⟩, x.apart, x.gq, x.gs, x.gb, fun c g e => ?_⟩
  cases z : h c with
  | none => exact x.has c g z
  | some o => rw [k' c o z (no c g)] at e; cases e
theorem RAt.keep (x : RAt h q G objs np next L) {h' : H} (k : Keeps h h') : RAt h' q G objs np next L := by
  obtain ⟨a, b, y⟩ := x; exact ⟨a, b, y.keep k⟩
theorem RAt.other (x : RAt h q G objs np next L) {h' : H} {F : Nat → Prop} (k : But F h h') (f : ∀ c, F c → h c ≠ none → ¬ G c) : RAt h' q G objs np next L := by
  obtain ⟨a, b, y⟩ := x; exact ⟨a, b, y.other k f⟩
theorem RAt.has (x : RAt h q G objs np next L) {c : Nat} (g : G c) : h c ≠ none := by
  obtain ⟨a, b, y⟩ := x; exact y.has c g
theorem RCore.f0 (x : RCore h q G objs np next L sl items) : At h ((⟨q, 0, none⟩ : Addr).add 0) (cInt .i64 objs) := At.own (l1 := []) (l3 := (S_ref07_Store.cells ⟨objs, (np : Int), sl, next⟩).drop 1) x.cell rfl
theorem RCore.f1 (x : RCore h q G objs np next L sl items) : At h ((⟨q, 0, none⟩ : Addr).add 1) (cInt .i64 (np : Int)) := At.own (l1 := (S_ref07_Store.cells ⟨objs, (np : Int), sl, next⟩).take 1) (l3 := (S_ref07_Store.cells ⟨objs, (np : Int), sl, next⟩).drop 2) x.cell rfl
theorem RCore.f2 (x : RCore h q G objs np next L sl items) : At h ((⟨q, 0, none⟩ : Addr).add 2) (cSl sl) := At.own (l1 := (S_ref07_Store.cells ⟨objs, (np : Int), sl, next⟩).take 2) (l3 := (S_ref07_Store.cells ⟨objs, (np : Int), sl, next⟩).drop 3) x.cell rfl
theorem RCore.f3 (x : RCore h q G objs np next L sl items) : At h ((⟨q, 0, none⟩ : Addr).add 3) (cInt .i64 next) := At.own (l1 := (S_ref07_Store.cells ⟨objs, (np : Int), sl, next⟩).take 3) (l3 := []) x.cell rfl
theorem RCore.slen (x : RCore h q G objs np next L sl items) : sl.len = L.length := by have := x.buf.len; have := x.len; omega
/-- An item: its number, its bytes. -/
theorem RCore.item (x : RCore h q G objs np next L sl items) {i : Nat} {id : Int} {v : List UInt8} (e : L[i]? = some (id, v)) : ∃ b, items[i]? = some ⟨id, b⟩ ∧ Buf cU8 1 N_u8 h b v := by
  have hlt := lt_of_get e
  rw [← x.len] at hlt
  have e1 : items[i]? = some items[i] := List.getElem?_eq_getElem hlt
  obtain ⟨h1, h2⟩ := x.each i _ _ e1 e
  generalize items[i] = it at e1 h1 h2
  obtain ⟨a, b⟩ := it
  have h1 : a = id := h1
  subst h1
  exact ⟨b, e1, h2⟩
theorem RCore.id_ (x : RCore h q G objs np next L sl items) {i : Nat} {id : Int} {v : List UInt8} (e : L[i]? = some (id, v)) {j : Int} (hj : j = i) {k : Int → H → Prop} (y : k id h) : mIdx sl j 2 (fun a => mLoad (cInt .i64) (a.add 0) k) h := by
  obtain ⟨b, e1, _⟩ := x.item e
  exact w_field ob_len7 x.buf.arr e1 hj (l1 := []) (l3 := [Sl.val b]) rfl rfl y
theorem RCore.b_ (x : RCore h q G objs np next L sl items) {i : Nat} {id : Int} {v : List UInt8} (e : L[i]? = some (id, v)) {j : Int} (hj : j = i) {k : Sl → H → Prop} (y : ∀ b, items[i]? = some ⟨id, b⟩ → Buf cU8 1 N_u8 h b v → k b h) : mIdx sl j 2 (fun a => mLoad cSl (a.add 1) k) h := by
  obtain ⟨b, e1, bu⟩ := x.item e
  exact w_field ob_len7 x.buf.arr e1 hj (l1 := [.int .i64 id]) (l3 := []) rfl rfl (y b e1 bu)
def atN (L : List (Int × List UInt8)) (id : Int) : Int := match aidx L id with
  | none => -1
  | some (i, _) => (i : Int)
theorem t_Rat (x : RCore h q G objs np next L sl items) (hn : L.length ≤ 64) {id : Int} {K : Int → H → Prop} (y : K (atN L id) h) : m_ref07_Store_at (some ⟨q, 0, none⟩) id K h := by
  unfold m_ref07_Store_at
  have hl := x.slen
  refine w_for L.length (fun j z h' => z = (j : Int) ∧ h = h' ∧ ∀ p ∈ L.take j, p.1 ≠ id) ?_ ⟨rfl, rfl, by simp⟩
  rintro rec j _ _ hj ⟨rfl, rfl, hno⟩ more
  refine w_deref (w_load x.f2 (w_if' (fun c => ?_) fun c => ?_))
  · have hjl : j < L.length := by omega
    obtain ⟨i, v, e⟩ : ∃ i v, L[j]? = some (i, v) := ⟨L[j].1, L[j].2, List.getElem?_eq_getElem hjl⟩
    refine w_deref (w_load x.f2 (x.id_ e rfl (w_if' (fun d => ?_) fun d => ?_)))
    · have d : i = id := d
      subst d
      unfold atN at y
      rw [aidx_at hno e] at y
      exact y
    · rw [ia1 j (by omega)]
      refine more _ _ hjl ⟨rfl, rfl, fun p hp => ?_⟩
      rw [List.take_add_one, e, Option.toList_some] at hp
      rcases List.mem_append.1 hp with z | z
      · exact hno p z
      · obtain rfl := List.mem_singleton.1 z
        exact d
  · obtain rfl : j = L.length := by omega
    rw [List.take_length] at hno
    unfold atN at y
    rw [aidx_no hno] at y
    exact y
theorem at_cases (L : List (Int × List UInt8)) (id : Int) : (alook L id = none ∧ atN L id = -1) ∨ ∃ (i : Nat) (v : List UInt8), alook L id = some v ∧ atN L id = (i : Int) ∧ L[i]? = some (id, v) := by
  unfold alook atN
  cases e : aidx L id with
  | none => exact .inl ⟨rfl, rfl⟩
  | some p => exact .inr ⟨p.1, p.2, rfl, rfl, aidx_some e⟩
theorem t_RFree (x : RAt h q G objs np next L) (lw : SLaw m np next L) {K : Int → H → Prop} (y : K ((np - usedS L : Nat) : Int) h) : m_ref07_Store_Free (some ⟨q, 0, none⟩) K h := by
  obtain ⟨sl, items, x⟩ := x
  have hl := x.slen
  have h1 := lw.most
  have h2 := lw.used
  have h3 := lw.np
  unfold m_ref07_Store_Free
  refine w_deref (w_load x.f1 (w_for L.length (fun j z h' => z = (((np - usedS (L.take j) : Nat) : Int), (j : Int)) ∧ h = h') ?_ ⟨by simp [usedS], rfl⟩))
  rintro rec j _ _ hj ⟨rfl, rfl⟩ more
  refine w_deref (w_load x.f2 (w_if' (fun c => ?_) fun c => ?_))
  · have c : (j : Int) < (sl.len : Int) := c
    have hjl : j < L.length := by omega
    have e : L[j]? = some (L[j].1, L[j].2) := List.getElem?_eq_getElem hjl
    refine w_deref (w_load x.f2 (x.b_ e rfl fun b _ bu => ?_))
    have h4 := lw.sizes L[j] (List.getElem_mem hjl)
    have h5 := used_take hjl
    have h6 := used_le L (j + 1)
    have e63 : iAdd .i64 (L[j].2.length : Int) 63 = ((L[j].2.length + 63 : Nat) : Int) := ia _ 63 (by omega)
    rw [bu.len, e63]
    have e2 := iq (L[j].2.length + 63) 64 (by omega)
    rw [show ((64 : Nat) : Int) = 64 from rfl] at e2
    rw [e2]
    show rec (iSub .i64 ((np - usedS (L.take j) : Nat) : Int) _, iAdd .i64 (j : Int) 1) h
    rw [is_ _ _ (by omega) (by omega), ia1 j (by omega)]
    refine more _ _ hjl ⟨?_, rfl⟩
    rw [h5, Nat.sub_add_eq]
  · have c : ¬ (j : Int) < (sl.len : Int) := c
    obtain rfl : j = L.length := by omega
    rw [List.take_length]; exact y
theorem t_RMay (x : RAt h q G objs np next L) (lw : SLaw m np next L) {size : Int} {K : Int → H → Prop} (y : K (mayE objs next L.length (np - usedS L) size) h) : m_ref07_Store_May (some ⟨q, 0, none⟩) size K h := by
  obtain ⟨sl, items, x⟩ := x
  have hl := x.slen
  unfold m_ref07_Store_May
  unfold mayE at y
  refine w_if (fun c => ?_) fun c => ?_
  · have c : size < 0 ∨ 4096 < size := by simpa using c
    rw [if_pos c] at y
    exact y
  have c : ¬ (size < 0 ∨ 4096 < size) := by simpa using c
  rw [if_neg c] at y
  refine w_deref (w_deref (w_load x.f2 (w_load x.f0 (w_joinV (decide (objs ≤ (L.length : Int) ∨ 4611686018427387904 < next)) (fun j hj => ?_) ?_))))
  · rw [hl]
    refine w_if' (fun d => ?_) fun d => w_deref (w_load x.f3 ?_)
    · rw [decide_eq_true (.inl d)] at hj; exact hj
    · have e : (objs ≤ (L.length : Int) ∨ 4611686018427387904 < next) ↔ 4611686018427387904 < next := ⟨fun q => q.resolve_left d, .inr⟩
      rw [decide_eq_decide.2 e] at hj; exact hj
  refine w_if' (fun d => ?_) fun d => ?_
  · rw [if_pos d] at y
    exact y
  rw [if_neg d] at y
  have es : size = ((size.toNat : Nat) : Int) := by omega
  generalize size.toNat = n at es y
  subst es
  refine t_RFree ⟨sl, items, x⟩ lw ?_
  have e63 : iAdd .i64 (n : Int) 63 = ((n + 63 : Nat) : Int) := ia n 63 (by omega)
  rw [e63]
  have e2 := iq (n + 63) 64 (by omega)
  rw [show ((64 : Nat) : Int) = 64 from rfl] at e2
  rw [e2]
  refine w_if' (fun e => ?_) fun e => ?_
  · rw [if_pos (by omega)] at y; exact y
  · rw [if_neg (by omega)] at y; exact y
theorem t_RSize (x : RAt h q G objs np next L) (lw : SLaw m np next L) {id : Int} {K : Int × Bool → H → Prop} (y : K ((((alook L id).map (·.length)).getD 0 : Nat), (alook L id).isSome) h) : m_ref07_Store_Size (some ⟨q, 0, none⟩) id K h := by
  obtain ⟨sl, items, x⟩ := x
  unfold m_ref07_Store_Size
  refine t_Rat x (by have := lw.most; omega) ?_
  rcases at_cases L id with ⟨e1, e2⟩ | ⟨i, v, e1, e2, e3⟩
  · rw [e2]; rw [e1] at y
    exact w_ifT (by decide) y
  · rw [e2]; rw [e1] at y
    refine w_ifF (decide_eq_false (by omega)) (w_deref (w_load x.f2 (x.b_ e3 rfl fun b _ bu => ?_)))
    rw [bu.len]; exact y
theorem w_within {off n : Int} {sz : Nat} (hs : sz ≤ 4096) {k : Bool → H → Prop} (y : k (decide (inR sz off n)) h) : mPure (m_ref07_within off n (sz : Int)) k h := by
  refine w_pure (decide (inR sz off n)) (fun h' k' z => ?_) y
  unfold m_ref07_within
  have e : (((((decide (0 ≤ off)) && (decide (0 ≤ n))) && (decide (n ≤ 1024))) && (decide (off ≤ (sz : Int)))) && (decide (n ≤ (iSub .i64 (sz : Int) off)))) = decide (inR sz off n) := by
    rw [Bool.eq_iff_iff]
    simp only [Bool.and_eq_true, decide_eq_true_eq]
    unfold inR
    constructor
    · rintro ⟨⟨⟨⟨h1, h2⟩, h3⟩, h4⟩, h5⟩
      rw [iSub_eq (by omega) (by omega)] at h5
      exact ⟨h1, h2, h3, h4, h5⟩
    · rintro ⟨h1, h2, h3, h4, h5⟩
      rw [iSub_eq (by omega) (by omega)]
      exact ⟨⟨⟨⟨h1, h2⟩, h3⟩, h4⟩, h5⟩
  rw [e]; exact z
theorem t_RRead (x : RAt h q G objs np next L) (lw : SLaw m np next L) {id off n : Int} {K : Sl × Int → H → Prop} (no : alook L id = none → K (Sl.nil, 20) h) (bad : ∀ bs, alook L id = some bs → ¬ inR bs.length off n → K (Sl.nil, 5) h)
    (good : ∀ bs, alook L id = some bs → inR bs.length off n → ∀ sl h', Buf cU8 1 N_u8 h' sl ((bs.drop off.toNat).take n.toNat) → Keeps h h' → (∀ c, sl.foot c → h c = none) → K (sl, 0) h') : m_ref07_Store_Read (some ⟨q, 0, none⟩) id off n K h := by
  obtain ⟨sl, items, x⟩ := x
  unfold m_ref07_Store_Read
  refine t_Rat x (by have := lw.most; omega) ?_
  rcases at_cases L id with ⟨e1, e2⟩ | ⟨i, v, e1, e2, e3⟩
  · rw [e2]
    exact w_ifT (by decide) (no e1)
  · rw [e2]
    have hv : v.length ≤ 4096 := lw.sizes (id, v) (List.mem_of_getElem? e3)
    refine w_ifF (decide_eq_false (by omega)) (w_deref (w_load x.f2 (x.b_ e3 rfl fun b _ bu => ?_)))
    rw [bu.len]
    refine w_within hv (w_if (fun c => ?_) fun c => ?_)
    · rw [Bool.not_eq_true', decide_eq_false_iff_not] at c
      exact bad v e1 c
    · rw [Bool.not_eq_false', decide_eq_true_eq] at c
      have good' := good v e1 c
      unfold inR at c
      refine w_deref (w_load x.f2 (x.b_ e3 rfl fun b2 _ bu2 => ?_))
      have eo : off = ((off.toNat : Nat) : Int) := by omega
      have en : n = ((n.toNat : Nat) : Int) := by omega
      generalize off.toNat = o' at eo good'
      generalize n.toNat = n' at en good'
      subst eo; subst en
      rw [ia o' n' (by omega)]
      refine w_mid u8_len bu2.arr (lo := o') (hi := o' + n') (by omega) (by omega) rfl rfl fun s1 a1 _ _ _ => ?_
      rw [show o' + n' - o' = n' by omega] at a1
      refine w_append (by_ := 1) u8_len u8_plain rfl Buf.nil a1 (.inl (by rw [List.length_take]; simp only [List.length_nil]; omega)) fun s2 h2 b2 k2 f2 d2 => ?_
      refine good' s2 h2 b2 (fun c o e => k2 c o e fun ⟨a, ha, _⟩ => by cases ha) fun c f => (f2 c f).elim (fun ⟨a, ha, _⟩ => by cases ha) fun z => z
end
end Go.Proofs.Yteeaelemfalkbaa.K
