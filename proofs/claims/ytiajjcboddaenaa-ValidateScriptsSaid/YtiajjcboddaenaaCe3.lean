/- The reference catalogue: its calls. The reference catalogue: entries put, children told in their order, walks. The reference catalogue: walks, drops, tokens of an object. -/
import Derived.Test.YtiajjcboddaenaaCa10
import Derived.Test.YtiajjcboddaenaaFref11
namespace Go.Proofs.Ytiajjcboddaenaa.K
open Go
abbrev cPl := S_ref11_Place.cells
theorem rp_len : ∀ x, (cPl x).length = 7 := fun _ => rfl
theorem rp_plain : ∀ x, (cPl x).all plainVal = true := fun _ => rfl
def PlOk (q : S_ref11_Place) : En → Prop
  | none => q.Live = false
  | some (t, _) => q.Live = true ∧ q.Cap = t.Cap ∧ q.Rights = t.Rights ∧ q.Parent = t.Parent
def whenP (pl : List S_ref11_Place) (z : Int) : Int := ((pl[z.toNat]?).map S_ref11_Place.When).getD 0
structure RefRel (es : List En) (pl : List S_ref11_Place) (ev : Nat) : Prop where
  len : pl.length = es.length
  ent : ∀ (i : Nat) q e, pl[i]? = some q → es[i]? = some e → PlOk q e
  when : ∀ i t ks, Has es i t ks → 0 ≤ whenP pl (i : Int) ∧ whenP pl (i : Int) < ev
  kids : ∀ i t ks, Has es i t ks → ks.Pairwise fun a b => whenP pl a < whenP pl b
structure RefAt (h : H) (p : Nat) (s : Sl) (pl : List S_ref11_Place) (ev : Nat) : Prop where
  cell : h p = some (.cells (S_ref11_Catalogue.cells ⟨s, ev⟩).toArray N_ref11_Catalogue (0, 0))
  buf : Buf cPl 7 N_ref11_Place h s pl
/-- A reference catalogue that holds 'es'; 'G' are its blocks. -/
structure Ref (h : H) (p : Nat) (ev : Nat) (G : Nat → Prop) (es : List En) : Prop where
  ex : ∃ s pl, RefAt h p s pl ev ∧ RefRel es pl ev ∧ ∀ c, G c ↔ c = p ∨ s.foot c
  wf : CWF es
theorem RefRel.place {es : List En} {pl ev} (x : RefRel es pl ev) {i : Nat} (hi : i < es.length) : ∃ (q : S_ref11_Place) (e : En), pl[i]? = some q ∧ es[i]? = some e ∧ PlOk q e := by
  have h1 := List.getElem?_eq_getElem (l := pl) (i := i) (by have := x.len; omega)
  have h2 := List.getElem?_eq_getElem (l := es) (i := i) hi
  exact ⟨_, _, h1, h2, x.ent _ _ _ h1 h2⟩
theorem RefRel.has {es : List En} {pl ev} (x : RefRel es pl ev) {i : Nat} {t ks} (h : Has es i t ks) : ∃ q : S_ref11_Place, pl[i]? = some q ∧ q.Live = true ∧ q.Cap = t.Cap ∧ q.Rights = t.Rights ∧ q.Parent = t.Parent := by
  obtain ⟨q, e, h1, h2, ok⟩ := x.place h.lt
  unfold Has at h
  rw [h2] at h
  cases h
  exact ⟨q, h1, ok⟩
theorem RefRel.live {es : List En} {pl ev} (x : RefRel es pl ev) {i : Nat} {q : S_ref11_Place} (h : pl[i]? = some q) (e : q.Live = true) : ∃ (t : S_api_Token) (ks : List Int), Has es i t ks ∧ q.Cap = t.Cap ∧ q.Rights = t.Rights ∧ q.Parent = t.Parent := by
  obtain ⟨q', o, h1, h2, ok⟩ := x.place (by have := lt_of_get h; have := x.len; omega : i < es.length)
  rw [h] at h1; cases h1
  cases o with
  | none => have : q.Live = false := ok; rw [this] at e; cases e
  | some v => obtain ⟨t, ks⟩ := v; exact ⟨t, ks, h2, ok.2⟩
theorem RefRel.dead {es : List En} {pl ev} (x : RefRel es pl ev) {i : Nat} {q : S_ref11_Place} (h : pl[i]? = some q) (e : q.Live = false) : es[i]? = some none := by
  obtain ⟨q', o, h1, h2, ok⟩ := x.place (by have := lt_of_get h; have := x.len; omega : i < es.length)
  rw [h] at h1; cases h1
  cases o with
  | none => exact h2
  | some v => obtain ⟨t, ks⟩ := v; have := ok.1; rw [e] at this; cases this
theorem capsG_append : ∀ (a b : List En) (k : Nat), capsG k (a ++ b) = capsG k a ++ capsG (k + a.length) b := by
  intro a
  induction a with
  | nil => intro b k; rfl
  | cons e r ih =>
    intro b k
    have := ih b (k + 1)
    rw [List.length_cons, show k + (r.length + 1) = k + 1 + r.length by omega]
    cases e with
    | none => exact this
    | some p =>
      obtain ⟨u, us⟩ := p
      rw [List.cons_append, capsG, capsG, this]; rfl
section
variable {h : H} {p : Nat} {s : Sl} {pl : List S_ref11_Place} {ev : Nat} {es : List En}
theorem RefAt.f0 (x : RefAt h p s pl ev) : At h ((⟨p, 0, none⟩ : Addr).add 0) (cSl s) := by
  rw [pt_add]; exact At.own (l1 := []) (l3 := [Value.int .i64 ev]) x.cell rfl
theorem RefAt.f1 (x : RefAt h p s pl ev) : At h ((⟨p, 0, none⟩ : Addr).add 1) (cInt .i64 (ev : Int)) := by
  rw [pt_add]; exact At.own (l1 := [Sl.val s]) (l3 := []) x.cell rfl
theorem RefAt.apart (x : RefAt h p s pl ev) : ¬ s.foot p := fun f => (x.buf.typed f).ne (Typed.of x.cell) (by decide) rfl
theorem RefAt.keep {h' : H} (x : RefAt h p s pl ev) (k : Keeps h h') : RefAt h' p s pl ev := ⟨k _ _ x.cell, x.buf.keep k⟩
theorem RefAt.but {h' : H} {E : Nat → Prop} (x : RefAt h p s pl ev) (k : But E h h') (f : ∀ c, E c → c ≠ p ∧ ¬ s.foot c) : RefAt h' p s pl ev := ⟨k _ _ x.cell fun q => (f _ q).1 rfl, x.buf.but k fun a ha q => (f _ q).2 ⟨a, ha, rfl⟩⟩
end
section
variable {h : H} {p : Nat} {ev : Nat} {G : Nat → Prop} {es : List En}
theorem Ref.keep {h' : H} (x : Ref h p ev G es) (k : Keeps h h') : Ref h' p ev G es := by
  obtain ⟨s, pl, a, b, c⟩ := x.ex
  exact ⟨⟨s, pl, a.keep k, b, c⟩, x.wf⟩
theorem Ref.but {h' : H} {E : Nat → Prop} (x : Ref h p ev G es) (k : But E h h') (f : ∀ c, E c → ¬ G c) : Ref h' p ev G es := by
  obtain ⟨s, pl, a, b, c⟩ := x.ex
  exact ⟨⟨s, pl, a.but k fun z e => ⟨fun q => f z e ((c z).2 (.inl q)), fun q => f z e ((c z).2 (.inr q))⟩, b, c⟩, x.wf⟩
theorem Ref.has (x : Ref h p ev G es) {c : Nat} (f : G c) : h c ≠ none := by
  obtain ⟨s, pl, a, b, d⟩ := x.ex
  rcases (d c).1 f with q | q
  · rw [q, a.cell]; exact fun z => by cases z
  · exact a.buf.has q
theorem t_RNew {a0 a1 : Int} {K : Option Addr × Int → H → Prop} (bad : (a0 < 1 ∨ 256 < a0 ∨ a1 < 0 ∨ 64 < a1) → K (none, 16) h)
    (good : 0 ≤ a1 → a1 ≤ 64 → ∀ n : Nat, a0 = n → 1 ≤ n → n ≤ 256 → ∀ p G h', Ref h' p 0 G (List.replicate n none) → Keeps h h' → (∀ c, G c → h c = none) → K (some ⟨p, 0, none⟩, 0) h') : m_ref11_New a0 a1 K h := by
  unfold m_ref11_New
  refine w_if (fun c => bad ?_) fun c => ?_
  · simp only [Bool.or_eq_true, decide_eq_true_eq] at c; omega
  simp only [Bool.or_eq_false_iff, decide_eq_false_iff_not] at c
  obtain ⟨n, rfl⟩ : ∃ n : Nat, a0 = n := ⟨a0.toNat, by omega⟩
  refine w_make rp_len ⟨false, ⟨0, ⟨0, 0⟩⟩, 0, 0, 0⟩ rfl rfl rfl (by omega) (by omega) fun s h1 bu k1 f1 _ => w_box fun p h2 f2 c2 k2 => ?_
  have no : ∀ {i t ks}, ¬ Has (List.replicate n none) i t ks := fun h => by
    have := List.eq_of_mem_replicate (List.mem_of_getElem? h)
    cases this
  refine good (by omega) (by omega) n rfl (by omega) (by omega) p _ h2 ⟨⟨s, _, ⟨c2, bu.keep k2⟩, ⟨by simp, fun i q e h1 h2 => ?_, fun i t ks h => (no h).elim, fun i t ks h => (no h).elim⟩, fun _ => Iff.rfl⟩, CWF.empty (by omega) (by omega)⟩ (k1.trans k2) fun c f => ?_
  · obtain rfl := List.eq_of_mem_replicate (List.mem_of_getElem? h1)
    obtain rfl := List.eq_of_mem_replicate (List.mem_of_getElem? h2)
    rfl
  · rcases f with rfl | f
    · exact k1.fresh f2
    · exact f1 c f
theorem w_RValid {r : Int} {k : Bool → H → Prop} (y : k (decide (1 ≤ r ∧ r ≤ 31)) h) : mPure (m_ref11_Valid r) k h := by
  refine w_pure _ (fun _ _ z => ?_) y
  unfold m_ref11_Valid
  rw [Bool.decide_and] at z
  exact z
theorem part_or : ∀ a b : Fin 32, decide (iOr .i64 (a.val : Int) (b.val : Int) = (b.val : Int)) = decide (iAnd .i64 (a.val : Int) (b.val : Int) = (a.val : Int)) := by decide +kernel
theorem w_RPart {r u : Int} (hu : 1 ≤ u ∧ u ≤ 31) {k : Bool → H → Prop} (y : k (partOf r u) h) : mPure (m_ref11_Part r u) k h := by
  refine w_pure _ (fun _ _ z => ?_) y
  unfold m_ref11_Part
  refine w_RValid ?_
  have e : partOf r u = (decide (1 ≤ r ∧ r ≤ 31) && decide (iOr .i64 r u = u)) := by
    unfold partOf
    rw [decide_eq_true hu, Bool.true_and]
    by_cases hr : 1 ≤ r ∧ r ≤ 31
    · have := part_or ⟨r.toNat, by omega⟩ ⟨u.toNat, by omega⟩
      simp only [Int.toNat_of_nonneg (by omega : 0 ≤ r), Int.toNat_of_nonneg (by omega : 0 ≤ u)] at this
      rw [this]
    · rw [decide_eq_false hr, Bool.false_and, Bool.false_and]
  rw [e] at z
  exact z
/-- A run over the places. -/
theorem t_RIn (x : Ref h p ev G es) {o : Int} {K : Int → H → Prop} (y : K (cnt es o : Nat) h) : m_ref11_Catalogue_In (some ⟨p, 0, none⟩) o K h := by
  obtain ⟨s, pl, a, b, _⟩ := x.ex
  have hw := x.wf.len
  have hl := a.buf.len
  have hb := b.len
  unfold m_ref11_Catalogue_In
  refine w_for es.length (fun i (z : Int × Int) h' => h = h' ∧ z = ((cnt (es.take i) o : Int), (i : Int))) ?_ ⟨rfl, rfl⟩
  rintro rec i z h' hi ⟨rfl, rfl⟩ more
  have hcl := cnt_le (es.take i) o
  rw [List.length_take] at hcl
  refine w_deref (w_load a.f0 (w_if' (fun c => ?_) fun c => ?_))
  · have c : (i : Int) < (s.len : Int) := c
    have hil : i < es.length := by omega
    obtain ⟨q, e, h1, h2, ok⟩ := b.place hil
    refine w_deref (w_load a.f0 (w_field rp_len a.buf.arr h1 rfl (v' := q.Live) (cells' := cBool) (l1 := []) (l3 := (cPl q).drop 1) rfl rfl ?_))
    have e1 : cnt (es.take (i + 1)) o = cnt (es.take i) o + if (q.Live && decide (q.Cap.Obj = o)) = true then 1 else 0 := by
      unfold cnt
      rw [List.take_add_one, h2, capsG_append, List.countP_append]
      congr 1
      cases e with
      | none => have : q.Live = false := ok; rw [this]; rfl
      | some v =>
        obtain ⟨t, ks⟩ := v
        rw [ok.1, ok.2.1]
        show List.countP _ [(t.Cap, _)] = _
        rw [List.countP_cons]; simp
    refine w_joinV (q.Live && decide (q.Cap.Obj = o)) (fun j hj => ?_) ?_
    · refine w_if (fun e => ?_) fun e => ?_
      · refine w_deref (w_load a.f0 (w_idx rp_len a.buf.arr h1 rfl fun ad _ ha => w_load (v := q.Cap.Obj) (cells := cInt .i64) (At.head (l2 := ((cPl q).drop 2)) ?_) ?_))
        · rw [show (ad.add 1).add 0 = ad.add 1 from add_zero _]
          exact At.sub (l1 := (cPl q).take 1) (l3 := []) (by rw [List.append_nil]; exact ha) rfl
        · rw [e, Bool.true_and] at hj; exact hj
      · rw [e] at hj; exact hj
    · refine w_if (fun e => ?_) fun e => ?_
      · rw [e, if_pos rfl] at e1
        refine more _ _ hil ⟨rfl, ?_⟩
        show (iAdd .i64 _ 1, iAdd .i64 _ 1) = _
        rw [ia1 _ (by omega), ia1 _ (by omega), e1]
      · rw [e, if_neg (by decide)] at e1
        refine more _ _ hil ⟨rfl, ?_⟩
        show (_, iAdd .i64 _ 1) = _
        rw [ia1 _ (by omega), e1]; rfl
  · have c : ¬ (i : Int) < (s.len : Int) := c
    obtain rfl : i = es.length := by omega
    rw [List.take_length]
    exact y
theorem t_RCount (x : Ref h p ev G es) {K : Int → H → Prop} (y : K ((capsG 0 es).length : Nat) h) : m_ref11_Catalogue_Count (some ⟨p, 0, none⟩) K h := by
  obtain ⟨s, pl, a, b, _⟩ := x.ex
  have hw := x.wf.len
  have hl := a.buf.len
  have hb := b.len
  unfold m_ref11_Catalogue_Count
  refine w_for es.length (fun i (z : Int × Int) h' => h = h' ∧ z = (((capsG 0 (es.take i)).length : Int), (i : Int))) ?_ ⟨rfl, rfl⟩
  rintro rec i z h' hi ⟨rfl, rfl⟩ more
  have hcl := capsG_le (es.take i) 0
  rw [List.length_take] at hcl
  refine w_deref (w_load a.f0 (w_if' (fun c => ?_) fun c => ?_))
  · have c : (i : Int) < (s.len : Int) := c
    have hil : i < es.length := by omega
    obtain ⟨q, e, h1, h2, ok⟩ := b.place hil
    refine w_deref (w_load a.f0 (w_field rp_len a.buf.arr h1 rfl (v' := q.Live) (cells' := cBool) (l1 := []) (l3 := (cPl q).drop 1) rfl rfl ?_))
    have e1 : (capsG 0 (es.take (i + 1))).length = (capsG 0 (es.take i)).length + if q.Live = true then 1 else 0 := by
      rw [List.take_add_one, h2, capsG_append, List.length_append]
      congr 1
      cases e with
      | none => have : q.Live = false := ok; rw [this]; rfl
      | some v =>
        obtain ⟨t, ks⟩ := v
        rw [ok.1]; rfl
    refine w_if (fun e => ?_) fun e => ?_
    · rw [e, if_pos rfl] at e1
      refine more _ _ hil ⟨rfl, ?_⟩
      show (iAdd .i64 _ 1, iAdd .i64 _ 1) = _
      rw [ia1 _ (by omega), ia1 _ (by omega), e1]
    · rw [e, if_neg (by decide)] at e1
      refine more _ _ hil ⟨rfl, ?_⟩
      show (_, iAdd .i64 _ 1) = _
      rw [ia1 _ (by omega), e1]; rfl
  · have c : ¬ (i : Int) < (s.len : Int) := c
    obtain rfl : i = es.length := by omega
    rw [List.take_length]
    exact y
theorem t_RFind (x : Ref h p ev G es) {c : S_api_Cap} {K : Int × Bool → H → Prop} (y : K (((findE es c).map fun n : Nat => (n : Int)).getD 0, (findE es c).isSome) h) : m_ref11_Catalogue_Find (some ⟨p, 0, none⟩) c K h := by
  obtain ⟨s, pl, a, b, _⟩ := x.ex
  have hw := x.wf.len
  have hl := a.buf.len
  have hb := b.len
  unfold m_ref11_Catalogue_Find
  refine w_for es.length (fun i (z : Int) h' => h = h' ∧ z = (i : Int) ∧ ∀ j, j < i → ∀ e, es[j]? = some e → isCap c e = false) ?_ ⟨rfl, rfl, fun j hj => absurd hj (Nat.not_lt_zero _)⟩
  rintro rec i z h' hi ⟨rfl, rfl, hno⟩ more
  refine w_deref (w_load a.f0 (w_if' (fun d => ?_) fun d => ?_))
  · have d : (i : Int) < (s.len : Int) := d
    have hil : i < es.length := by omega
    obtain ⟨q, e, h1, h2, ok⟩ := b.place hil
    refine w_deref (w_load a.f0 (w_field rp_len a.buf.arr h1 rfl (v' := q.Live) (cells' := cBool) (l1 := []) (l3 := (cPl q).drop 1) rfl rfl ?_))
    have e1 : (q.Live && decide (q.Cap = c)) = isCap c e := by
      cases e with
      | none => have : q.Live = false := ok; rw [this]; rfl
      | some v =>
        obtain ⟨t, ks⟩ := v
        rw [ok.1, ok.2.1]; rfl
    refine w_joinV (isCap c e) (fun j hj => ?_) ?_
    · rw [← e1] at hj
      refine w_if (fun e => ?_) fun e => ?_
      · refine w_deref (w_load a.f0 (w_field rp_len a.buf.arr h1 rfl (v' := q.Cap) (cells' := S_api_Cap.cells) (l1 := (cPl q).take 1) (l3 := (cPl q).drop 4) rfl rfl ?_))
        rw [cap_eqB]
        rw [e, Bool.true_and] at hj; exact hj
      · rw [e] at hj; exact hj
    · refine w_if (fun e' => ?_) fun e' => ?_
      · have : findE es c = some i := by
          unfold findE
          rw [List.findIdx?_eq_some_iff_getElem]
          refine ⟨hil, by rw [List.getElem?_eq_getElem hil] at h2; cases h2; exact e', fun j hj => ?_⟩
          rw [hno j hj _ (List.getElem?_eq_getElem (by omega))]; decide
        rw [this] at y
        exact y
      · refine more _ _ hil ⟨rfl, ia1 i (by omega), fun j hj e'' he => ?_⟩
        by_cases z : j = i
        · subst z; rw [h2] at he; cases he; exact e'
        · exact hno j (by omega) _ he
  · have d : ¬ (i : Int) < (s.len : Int) := d
    have : findE es c = none := by
      unfold findE
      rw [List.findIdx?_eq_none_iff]
      intro e he
      obtain ⟨j, hj⟩ := List.mem_iff_getElem?.1 he
      exact hno j (by have := lt_of_get hj; omega) e hj
    rw [this] at y
    exact y
theorem t_Ris (x : Ref h p ev G es) {i : Int} {K : Bool → H → Prop} (y : K (atE es i).isSome h) : m_ref11_Catalogue_is (some ⟨p, 0, none⟩) i K h := by
  obtain ⟨s, pl, a, b, _⟩ := x.ex
  have hw := x.wf.len
  have hl := a.buf.len
  have hb := b.len
  unfold m_ref11_Catalogue_is
  refine w_joinV (decide (0 ≤ i ∧ i < (es.length : Int))) (fun j hj => ?_) ?_
  · refine w_if' (fun q => w_deref (w_load a.f0 ?_)) fun q => ?_
    · have e : decide (i < (s.len : Int)) = decide (0 ≤ i ∧ i < (es.length : Int)) := by rw [decide_eq_decide]; constructor <;> omega
      rw [e]; exact hj
    · rw [decide_eq_false (by omega)] at hj; exact hj
  · refine w_if' (fun q => ?_) fun q => ?_
    · obtain ⟨n, rfl⟩ : ∃ n : Nat, i = n := ⟨i.toNat, by omega⟩
      have hn : n < es.length := by omega
      obtain ⟨q, e, h1, h2, ok⟩ := b.place hn
      refine w_deref (w_load a.f0 (w_field rp_len a.buf.arr h1 rfl (v' := q.Live) (cells' := cBool) (l1 := []) (l3 := (cPl q).drop 1) rfl rfl ?_))
      rw [atE_nat, h2] at y
      cases e with
      | none => have : q.Live = false := ok; rw [this]; exact y
      | some v => rw [ok.1]; exact y
    · have e : atE es i = none := by
        unfold atE
        split
        · rw [List.getElem?_eq_none (by omega)]; rfl
        · rfl
      rw [e] at y; exact y
theorem t_RAt (x : Ref h p ev G es) {i : Int} {K : S_api_Token × Bool → H → Prop} (y : K (atOut es i) h) : m_ref11_Catalogue_At (some ⟨p, 0, none⟩) i K h := by
  unfold m_ref11_Catalogue_At
  refine t_Ris x ?_
  obtain ⟨s, pl, a, b, _⟩ := x.ex
  unfold atOut at y
  cases e : atE es i with
  | none =>
    rw [e] at y
    exact w_ifT rfl y
  | some v =>
    obtain ⟨t, ks⟩ := v
    rw [e] at y
    obtain ⟨n, rfl, hn⟩ := atE_has.1 e
    obtain ⟨q, h1, _, e1, e2, e3⟩ := b.has hn
    refine w_ifF rfl (w_deref (w_deref (w_deref (w_load a.f0 (w_field rp_len a.buf.arr h1 rfl (v' := q.Cap) (cells' := S_api_Cap.cells) (l1 := (cPl q).take 1) (l3 := (cPl q).drop 4) rfl rfl (w_load a.f0 (w_field rp_len a.buf.arr h1 rfl (v' := q.Rights) (cells' := cInt .i64) (l1 := (cPl q).take 4) (l3 := (cPl q).drop 5) rfl rfl (w_load a.f0 (w_field rp_len a.buf.arr h1 rfl (v' := q.Parent) (cells' := cInt .i64) (l1 := (cPl q).take 5) (l3 := (cPl q).drop 6) rfl rfl ?_)))))))))
    rw [e1, e2, e3]
    exact y
end
end Go.Proofs.Ytiajjcboddaenaa.K
namespace Go.Proofs.Ytiajjcboddaenaa.K
open Go
theorem whenP_nat (pl : List S_ref11_Place) (i : Nat) : whenP pl (i : Int) = ((pl[i]?).map S_ref11_Place.When).getD 0 := by
  unfold whenP; rw [Int.toNat_natCast]
theorem whenP_set {pl : List S_ref11_Place} {n : Nat} {X : S_ref11_Place} (hn : n < pl.length) (i : Nat) : whenP (pl.set n X) (i : Int) = if i = n then X.When else whenP pl (i : Int) := by
  rw [whenP_nat, whenP_nat, List.getElem?_set]
  by_cases e : n = i
  · subst e; rw [if_pos rfl, if_pos hn, if_pos rfl]; rfl
  · rw [if_neg e, if_neg (fun z => e z.symm)]
theorem RefRel.root {es : List En} (w : CWF es) {pl ev} (x : RefRel es pl ev) {n : Nat} (hn : es[n]? = some none) {c : S_api_Cap} {r : Int} : RefRel (rootE es n ⟨c, r, -1⟩) (pl.set n ⟨true, c, r, -1, ev⟩) (ev + 1) := by
  have hlt := lt_of_get hn
  have hlp : n < pl.length := by rw [x.len]; exact hlt
  have H := fun {i t ks} => has_set (es := es) (n := n) hlt (e := some (⟨c, r, -1⟩, [])) (i := i) (t := t) (ks := ks)
  have neN : ∀ {i t ks}, Has es i t ks → i ≠ n := fun h e => by subst e; unfold Has at h; rw [hn] at h; cases h
  refine ⟨by unfold rootE; rw [List.length_set, List.length_set]; exact x.len, fun i q e h1 h2 => ?_, fun i t ks h => ?_, fun i t ks h => ?_⟩
  · unfold rootE at h2
    rw [List.getElem?_set] at h1 h2
    by_cases z : n = i
    · rw [if_pos z, if_pos hlp] at h1
      rw [if_pos z, if_pos hlt] at h2
      cases h1; cases h2; exact ⟨rfl, rfl, rfl, rfl⟩
    · rw [if_neg z] at h1 h2
      exact x.ent _ _ _ h1 h2
  · rw [whenP_set hlp]
    rcases H.1 h with ⟨rfl, _⟩ | ⟨z, h⟩
    · rw [if_pos rfl]; show 0 ≤ (ev : Int) ∧ (ev : Int) < ((ev + 1 : Nat) : Int); omega
    · rw [if_neg z]; have := x.when _ _ _ h; omega
  · rcases H.1 h with ⟨rfl, z⟩ | ⟨z, h⟩
    · cases z; exact List.Pairwise.nil
    · refine (x.kids _ _ _ h).imp_of_mem fun {a b} ha hb hab => ?_
      obtain ⟨j, u, us, rfl, hj, _⟩ := w.down _ _ _ h _ ha
      obtain ⟨j', u', us', rfl, hj', _⟩ := w.down _ _ _ h _ hb
      rw [whenP_set hlp, whenP_set hlp, if_neg (neN hj), if_neg (neN hj')]; exact hab
theorem RefRel.child {es : List En} (w : CWF es) {pl ev} (x : RefRel es pl ev) {q n : Nat} {u us} (hq : Has es q u us) (hn : es[n]? = some none) {c : S_api_Cap} {r : Int} : RefRel (childE es q n ⟨c, r, (q : Int)⟩) (pl.set n ⟨true, c, r, (q : Int), ev⟩) (ev + 1) := by
  have hlt := lt_of_get hn
  have hlp : n < pl.length := by rw [x.len]; exact hlt
  have H := fun {i v vs} => has_child (t := ⟨c, r, (q : Int)⟩) (i := i) (v := v) (vs := vs) hq hn
  have neN : ∀ {i t ks}, Has es i t ks → i ≠ n := fun h e => by subst e; unfold Has at h; rw [hn] at h; cases h
  have e1 : (childE es q n ⟨c, r, (q : Int)⟩).length = es.length := by unfold childE; rw [hq]; simp only [List.length_set]
  have pw : ∀ {i t ks}, Has es i t ks → ks.Pairwise fun a b => whenP (pl.set n ⟨true, c, r, (q : Int), ev⟩) a < whenP (pl.set n ⟨true, c, r, (q : Int), ev⟩) b := fun {i t ks} h => by
    refine (x.kids _ _ _ h).imp_of_mem fun {a b} ha hb hab => ?_
    obtain ⟨j, u, us, rfl, hj, _⟩ := w.down _ _ _ h _ ha
    obtain ⟨j', u', us', rfl, hj', _⟩ := w.down _ _ _ h _ hb
    rw [whenP_set hlp, whenP_set hlp, if_neg (neN hj), if_neg (neN hj')]; exact hab
  refine ⟨by rw [e1, List.length_set]; exact x.len, fun i p e h1 h2 => ?_, fun i t ks h => ?_, fun i t ks h => ?_⟩
  · rw [List.getElem?_set] at h1
    cases e with
    | none =>
      have hi : i < es.length := by have := lt_of_get h2; omega
      have hni : i ≠ n := fun z => by
        have := (H (i := i) (v := ⟨c, r, (q : Int)⟩) (vs := [])).2 (.inl ⟨z, rfl, rfl⟩)
        unfold Has at this; rw [h2] at this; cases this
      rw [if_neg (fun z => hni z.symm)] at h1
      have : es[i]? = some none := by
        rw [List.getElem?_eq_getElem hi]
        cases e : es[i] with
        | none => rfl
        | some v =>
          obtain ⟨t, ks⟩ := v
          have hh : Has es i t ks := by unfold Has; rw [List.getElem?_eq_getElem hi, e]
          by_cases z : i = q
          · have := (H (i := i)).2 (.inr (.inl ⟨z, rfl, rfl⟩))
            unfold Has at this; rw [h2] at this; cases this
          · have := (H (i := i)).2 (.inr (.inr ⟨hni, z, hh⟩))
            unfold Has at this; rw [h2] at this; cases this
      exact x.ent _ _ _ h1 this
    | some v =>
      obtain ⟨t, ks⟩ := v
      rcases H.1 h2 with ⟨rfl, rfl, _⟩ | ⟨rfl, rfl, _⟩ | ⟨z1, z2, hh⟩
      · rw [if_pos rfl, if_pos hlp] at h1
        cases h1; exact ⟨rfl, rfl, rfl, rfl⟩
      · rw [if_neg (fun z => neN hq z.symm)] at h1
        exact x.ent _ _ (some (_, us)) h1 hq
      · rw [if_neg (fun z => z1 z.symm)] at h1
        exact x.ent _ _ _ h1 hh
  · rw [whenP_set hlp]
    rcases H.1 h with ⟨rfl, _⟩ | ⟨rfl, rfl, _⟩ | ⟨z, _, h⟩
    · rw [if_pos rfl]; show 0 ≤ (ev : Int) ∧ (ev : Int) < ((ev + 1 : Nat) : Int); omega
    · rw [if_neg (neN hq)]; have := x.when _ _ _ hq; omega
    · rw [if_neg z]; have := x.when _ _ _ h; omega
  · rcases H.1 h with ⟨_, _, rfl⟩ | ⟨rfl, rfl, rfl⟩ | ⟨_, _, h⟩
    · exact List.Pairwise.nil
    · rw [List.pairwise_append]
      refine ⟨pw hq, List.pairwise_singleton _ _, fun a ha b hb => ?_⟩
      obtain rfl := List.mem_singleton.1 hb
      obtain ⟨j, v, vs, rfl, hj, _⟩ := w.down _ _ _ hq _ ha
      rw [whenP_set hlp, whenP_set hlp, if_neg (neN hj), if_pos rfl]
      exact (x.when _ _ _ hj).2
    · exact pw h
section
variable {h : H} {p : Nat} {ev : Nat} {G : Nat → Prop} {es : List En}
theorem t_Rput {s : Sl} {pl : List S_ref11_Place} (a : RefAt h p s pl ev) (b : RefRel es pl ev) (hw : es.length ≤ 256) (he : ev < 9223372036854775807) {c : S_api_Cap} {r q : Int} {K : Int × Int → H → Prop} (no : freeE es = none → K (0, 10) h)
    (y : ∀ n, freeE es = some n → ∀ h', RefAt h' p s (pl.set n ⟨true, c, r, q, ev⟩) (ev + 1) → But (fun z => z = p ∨ s.foot z) h h' → (∀ c, h' c = none → h c = none) → K ((n : Int), 0) h') : m_ref11_Catalogue_put (some ⟨p, 0, none⟩) c r q K h := by
  have hl := a.buf.len
  have hb := b.len
  unfold m_ref11_Catalogue_put
  refine w_for es.length (fun i (z : Int) h' => h = h' ∧ z = (i : Int) ∧ ∀ j, j < i → ∀ e, es[j]? = some e → e ≠ none) ?_ ⟨rfl, rfl, fun j hj => absurd hj (Nat.not_lt_zero _)⟩
  rintro rec i z h' hi ⟨rfl, rfl, hno⟩ more
  refine w_deref (w_load a.f0 (w_if' (fun d => ?_) fun d => ?_))
  · have d : (i : Int) < (s.len : Int) := d
    have hil : i < es.length := by omega
    obtain ⟨P, e, h1, h2, ok⟩ := b.place hil
    refine w_deref (w_load a.f0 (w_field rp_len a.buf.arr h1 rfl (v' := P.Live) (cells' := cBool) (l1 := []) (l3 := (cPl P).drop 1) rfl rfl (w_if (fun e' => ?_) fun e' => ?_)))
    · have hlive : P.Live = false := by simpa using e'
      have hen := b.dead h1 hlive
      have hf : freeE es = some i := by
        unfold freeE freeU
        rw [List.findIdx?_eq_some_iff_getElem]
        refine ⟨by rw [List.length_map]; exact hil, ?_, fun j hj => ?_⟩
        · rw [List.getElem_map]
          rw [List.getElem?_eq_getElem hil] at hen
          cases hen' : es[i] with
          | none => rfl
          | some v => rw [hen'] at hen; cases hen
        · rw [List.getElem_map]
          have := hno j hj _ (List.getElem?_eq_getElem (by omega))
          cases hv : es[j] with
          | none => exact absurd hv this
          | some v => simp
      refine w_deref (w_deref (w_load a.f0 (w_load a.f1 (w_put rp_len a.buf (i := i) (by omega) rfl ⟨true, c, r, q, ev⟩ rfl fun h2 b2 k2 d2 => ?_))))
      have cell2 := k2 _ _ a.cell a.apart
      have a2 : RefAt h2 p s (pl.set i ⟨true, c, r, q, ev⟩) ev := ⟨cell2, b2⟩
      refine w_deref (w_load a2.f1 (w_deref ?_))
      have ev1 : iAdd .i64 (ev : Int) 1 = ((ev + 1 : Nat) : Int) := (iAdd_eq (by omega) (by omega)).trans (by omega)
      rw [ev1]
      refine w_store (b := p) (i := 1) (l1 := [Sl.val s]) (l2 := [Value.int .i64 ev]) (l3 := []) (t := N_ref11_Catalogue) (pt_add p 1) cell2 rfl rfl ?_
      refine y i hf _ ⟨upd_same _ _ _, b2.but (But.upd (F := (· = p)) rfl) fun a' ha z => (b2.typed ⟨a', ha, rfl⟩).ne (Typed.of cell2) (by decide) z⟩ ((k2.mono fun _ f => .inr f).trans (But.upd (F := (· = p)) rfl) fun _ z => .inl (.inl z)) fun z hz => d2 z (upd_none.1 hz).2
    · refine more _ _ hil ⟨rfl, ia1 i (by omega), fun j hj e'' he => ?_⟩
      by_cases z : j = i
      · subst z
        have hlive : P.Live = true := by simpa using e'
        rw [h2] at he; cases he
        intro z
        subst z
        have : P.Live = false := ok
        rw [this] at hlive; cases hlive
      · exact hno j (by omega) _ he
  · have d : ¬ (i : Int) < (s.len : Int) := d
    refine no ?_
    unfold freeE freeU
    rw [List.findIdx?_eq_none_iff]
    intro x hx
    obtain ⟨e, he, rfl⟩ := List.mem_map.1 hx
    obtain ⟨j, hj⟩ := List.mem_iff_getElem?.1 he
    have := hno j (by have := lt_of_get hj; omega) e hj
    cases e with
    | none => exact absurd rfl this
    | some v => rfl
theorem t_RRoot (x : Ref h p ev G es) (he : ev < 9223372036854775807) {c : S_api_Cap} {r : Int} {K : Int × Int → H → Prop} (y : ∀ G' h' ev', ev' ≤ ev + 1 → Ref h' p ev' G' (rootOut es c r).2 → KChg G G' h h' → K (rootOut es c r).1 h') : m_ref11_Catalogue_Root (some ⟨p, 0, none⟩) c r K h := by
  have wf := x.wf.rootOut c r
  have hw := x.wf.len
  unfold rootOut at y wf
  unfold m_ref11_Catalogue_Root
  refine w_RValid ?_
  by_cases hr : 1 ≤ r ∧ r ≤ 31
  · rw [if_pos hr] at y wf
    rw [decide_eq_true hr]
    refine w_ifF rfl (t_RIn x (w_if' (fun h0 => ?_) fun h0 => ?_))
    · rw [if_pos (by omega)] at y
      exact y _ _ ev (by omega) x (.refl _ _)
    · rw [if_neg (by omega)] at y wf
      obtain ⟨s, pl, a, b, g⟩ := x.ex
      refine t_Rput a b hw.2 he (fun hf => ?_) fun n hf h2 a2 k2 d2 => ?_
      · rw [hf] at y
        exact y _ _ ev (by omega) x (.refl _ _)
      · rw [hf] at y wf
        exact y G h2 (ev + 1) (Nat.le_refl _) ⟨⟨s, _, a2, b.root x.wf (freeE_some hf), g⟩, wf⟩ ⟨k2.mono fun c f => (g c).2 f, fun _ f => .inl f, d2⟩
  · rw [if_neg hr] at y
    rw [decide_eq_false hr]
    exact w_ifT rfl (y _ _ ev (by omega) x (.refl _ _))
theorem t_RChild (x : Ref h p ev G es) (he : ev < 9223372036854775807) {qi : Int} {c : S_api_Cap} {r : Int} {K : Int × Int → H → Prop} (y : ∀ G' h' ev', ev' ≤ ev + 1 → Ref h' p ev' G' (childOut es qi c r).2 → KChg G G' h h' → K (childOut es qi c r).1 h') : m_ref11_Catalogue_Child (some ⟨p, 0, none⟩) qi c r K h := by
  have wf := x.wf.childOut qi c r
  have hw := x.wf.len
  unfold childOut at y wf
  unfold m_ref11_Catalogue_Child
  refine t_Ris x ?_
  cases hqi : atE es qi with
  | none =>
    rw [hqi] at y
    exact w_ifT rfl (y _ _ ev (by omega) x (.refl _ _))
  | some v =>
    obtain ⟨u, us⟩ := v
    rw [hqi] at y wf
    obtain ⟨q, rfl, hq⟩ := atE_has.1 hqi
    simp only at y wf
    obtain ⟨s, pl, a, b, g⟩ := x.ex
    obtain ⟨P, h1, _, e1, e2, e3⟩ := b.has hq
    refine w_ifF rfl (w_deref (w_load a.f0 (w_idx rp_len a.buf.arr h1 rfl fun ad _ ha => w_load (v := P.Cap.Obj) (cells := cInt .i64) ?_ ?_)))
    · rw [show (ad.add 1).add 0 = ad.add 1 from add_zero _]
      exact At.head (l2 := (cPl P).drop 2) (At.sub (l1 := (cPl P).take 1) (l3 := []) (by rw [List.append_nil]; exact ha) rfl)
    rw [e1]
    by_cases ho : u.Cap.Obj = c.Obj
    · rw [if_pos ho] at y wf
      refine w_ifF (by simp [ho]) (w_deref (w_load a.f0 (w_field rp_len a.buf.arr h1 rfl (v' := P.Rights) (cells' := cInt .i64) (l1 := (cPl P).take 4) (l3 := (cPl P).drop 5) rfl rfl ?_)))
      rw [e2]
      refine w_RPart (x.wf.right _ _ _ hq) ?_
      cases hp : partOf r u.Rights with
      | false =>
        rw [if_neg (by rw [hp]; decide)] at y
        exact w_ifT rfl (y _ _ ev (by omega) x (.refl _ _))
      | true =>
        rw [if_pos hp] at y wf
        refine w_ifF rfl (t_RFind x ?_)
        cases hf : findE es c with
        | some v =>
          rw [hf] at y
          exact w_ifT rfl (y _ _ ev (by omega) x (.refl _ _))
        | none =>
          rw [hf] at y wf
          simp only [Option.isSome_none, Bool.false_eq_true, if_false] at y wf
          refine w_ifF rfl (t_Rput a b hw.2 he (fun hf => ?_) fun n hf h2 a2 k2 d2 => ?_)
          · rw [hf] at y
            exact y _ _ ev (by omega) x (.refl _ _)
          · rw [hf] at y wf
            dsimp only at y wf
            rw [Int.toNat_natCast] at y wf
            exact y G h2 (ev + 1) (Nat.le_refl _) ⟨⟨s, _, a2, b.child x.wf hq (freeE_some hf), g⟩, wf⟩ ⟨k2.mono fun c f => (g c).2 f, fun _ f => .inl f, d2⟩
    · rw [if_neg ho] at y
      exact w_ifT (by simp [ho]) (y _ _ ev (by omega) x (.refl _ _))
theorem mono_idx {f : Int → Int} {ks : List Int} (x : ks.Pairwise fun a b => f a < f b) {i j : Nat} {a b : Int} (hi : ks[i]? = some a) (hj : ks[j]? = some b) : f a < f b ↔ i < j := by
  obtain ⟨li, ei⟩ := List.getElem?_eq_some_iff.1 hi
  obtain ⟨lj, ej⟩ := List.getElem?_eq_some_iff.1 hj
  rw [List.pairwise_iff_getElem] at x
  constructor
  · intro h
    rcases Nat.lt_trichotomy i j with q | q | q
    · exact q
    · subst q; rw [ei] at ej; subst ej; omega
    · have := x j i lj li q; rw [ei, ej] at this; omega
  · intro h
    have := x i j li lj h; rw [ei, ej] at this; exact this
theorem t_Rchildren (x : Ref h p ev G es) {n : Nat} {t ks} (hn : Has es n t ks) {K : Sl → H → Prop} (y : ∀ s' h', Buf (cInt .i64) 1 N_int h' s' ks → Keeps h h' → (∀ c, s'.foot c → h c = none) → K s' h') : m_ref11_Catalogue_children (some ⟨p, 0, none⟩) (n : Int) K h := by
  have w := x.wf
  obtain ⟨s, pl, a, b, g⟩ := x.ex
  have hw := w.len
  have hl := a.buf.len
  have hb := b.len
  have hkl := w.kids_le hn
  unfold m_ref11_Catalogue_children
  refine w_for ks.length (fun j (z : Sl × Int) h' => Buf (cInt .i64) 1 N_int h' z.1 (ks.take j) ∧ (∀ (i' : Nat) k, ks[i']? = some k → (z.2 < whenP pl k ↔ j ≤ i')) ∧ Keeps h h' ∧ ∀ c, z.1.foot c → h c = none) ?_ ⟨Buf.nil, fun i' k hk => ?_, .refl _, fun c ⟨_, q, _⟩ => by cases q⟩
  rotate_left
  · obtain ⟨i, u, us, rfl, hi, _⟩ := w.down _ _ _ hn _ (List.mem_of_getElem? hk)
    have := (b.when _ _ _ hi).1
    show (-1 : Int) < _ ↔ _
    omega
  rintro rec j ⟨out, last⟩ h1 hj ⟨bu, hlast, kp, fo⟩ more
  have bu : Buf (cInt .i64) 1 N_int h1 out (ks.take j) := bu
  have hlast : ∀ (i' : Nat) k, ks[i']? = some k → (last < whenP pl k ↔ j ≤ i') := hlast
  have a1 := a.keep kp
  -- the ones still to come
  have toK : ∀ {i : Nat} {u us}, Has es i u us → u.Parent = n → last < whenP pl (i : Int) → ∃ i', ks[i']? = some (i : Int) ∧ j ≤ i' := fun {i u us} hi hp hw' => by
    rcases w.up _ _ _ hi with q | ⟨q, v, vs, e, hq, hm, _⟩
    · omega
    · obtain rfl : n = q := by omega
      obtain ⟨_, rfl⟩ := hn.uniq hq
      obtain ⟨i', hi'⟩ := List.mem_iff_getElem?.1 hm
      exact ⟨i', hi', (hlast _ _ hi').1 hw'⟩
  refine w_for es.length (fun i (z : Int × Int) h' => h1 = h' ∧ z.2 = (i : Int) ∧ ((z.1 = -1 ∧ ∀ m, m < i → ∀ u us, Has es m u us → u.Parent = n → ¬ last < whenP pl (m : Int)) ∨ ∃ m : Nat, z.1 = m ∧ (∃ u us, Has es m u us ∧ u.Parent = n ∧ last < whenP pl (m : Int)) ∧ ∀ m', m' < i → ∀ u us, Has es m' u us → u.Parent = n → last < whenP pl (m' : Int) → whenP pl (m : Int) ≤ whenP pl (m' : Int))) ?_ ⟨rfl, rfl, .inl ⟨rfl, fun m hm => absurd hm (Nat.not_lt_zero _)⟩⟩
  rintro rec' i ⟨best, iz⟩ h' hi ⟨rfl, ez, hbest⟩ more'
  have ez : iz = (i : Int) := ez
  subst ez
  have hbest : (best = -1 ∧ ∀ m, m < i → ∀ u us, Has es m u us → u.Parent = n → ¬ last < whenP pl (m : Int)) ∨ ∃ m : Nat, best = m ∧ (∃ u us, Has es m u us ∧ u.Parent = n ∧ last < whenP pl (m : Int)) ∧ ∀ m', m' < i → ∀ u us, Has es m' u us → u.Parent = n → last < whenP pl (m' : Int) → whenP pl (m : Int) ≤ whenP pl (m' : Int) := hbest
  refine w_deref (w_load a1.f0 (w_if' (fun d => ?_) fun d => ?_))
  · have d : (i : Int) < (s.len : Int) := d
    have hil : i < es.length := by omega
    obtain ⟨P, e, h1', h2, ok⟩ := b.place hil
    have hwP : whenP pl (i : Int) = P.When := by rw [whenP_nat, h1']; rfl
    have rdW : ∀ {k : Int → H → Prop}, k P.When h1 → mIdx s (i : Int) 7 (fun ad => mLoad (cInt .i64) (ad.add 6) k) h1 := fun z => w_field rp_len a1.buf.arr h1' rfl (v' := P.When) (cells' := cInt .i64) (l1 := (cPl P).take 6) (l3 := []) rfl rfl z
    refine w_deref (w_load a1.f0 (w_field rp_len a1.buf.arr h1' rfl (v' := P.Live) (cells' := cBool) (l1 := []) (l3 := (cPl P).drop 1) rfl rfl ?_))
    -- is it one of the children still to come?
    refine w_joinV (P.Live && decide (P.Parent = (n : Int))) (fun J hJ => ?_) ?_
    · refine w_if (fun e => ?_) fun e => ?_
      · refine w_deref (w_load a1.f0 (w_field rp_len a1.buf.arr h1' rfl (v' := P.Parent) (cells' := cInt .i64) (l1 := (cPl P).take 5) (l3 := (cPl P).drop 6) rfl rfl ?_))
        rw [e, Bool.true_and] at hJ; exact hJ
      · rw [e] at hJ; exact hJ
    refine w_joinV ((P.Live && decide (P.Parent = (n : Int))) && decide (last < P.When)) (fun J hJ => ?_) ?_
    · refine w_if (fun e => ?_) fun e => ?_
      · refine w_deref (w_load a1.f0 (rdW ?_))
        rw [e, Bool.true_and] at hJ; exact hJ
      · rw [e] at hJ; exact hJ
    by_cases q : ((P.Live && decide (P.Parent = (n : Int))) && decide (last < P.When)) = true
    · rw [q]
      rw [Bool.and_eq_true, Bool.and_eq_true, decide_eq_true_eq, decide_eq_true_eq] at q
      obtain ⟨⟨ql, qp⟩, qw⟩ := q
      obtain ⟨u, us, hu, _, _, ep⟩ := b.live h1' ql
      rw [← hwP] at qw
      have hPi : ∃ u us, Has es i u us ∧ u.Parent = n ∧ last < whenP pl (i : Int) := ⟨u, us, hu, ep.symm.trans qp, qw⟩
      rcases hbest with ⟨rfl, hno⟩ | ⟨m, rfl, hm, hmin⟩
      · refine w_join (w_ifT rfl (w_ifT rfl (w_ifT rfl (more' _ _ hil ⟨rfl, ia1 i (by omega), .inr ⟨i, rfl, hPi, fun m' hm' v vs hv hp hl' => ?_⟩⟩))))
        by_cases z : m' = i
        · subst z; exact Int.le_refl _
        · exact absurd hl' (hno m' (by omega) v vs hv hp)
      · obtain ⟨um, usm, hum, hpm, hwm⟩ := hm
        obtain ⟨Pm, hPm, _⟩ := b.has hum
        have hwPm : whenP pl (m : Int) = Pm.When := by rw [whenP_nat, hPm]; rfl
        refine w_join (w_ifT rfl (w_ifF (decide_eq_false (by omega)) (w_deref (w_deref (w_load a1.f0 (rdW (w_load a1.f0 (w_field rp_len a1.buf.arr hPm rfl (v' := Pm.When) (cells' := cInt .i64) (l1 := (cPl Pm).take 6) (l3 := []) rfl rfl (w_if' (fun lt => ?_) fun lt => ?_)))))))))
        · rw [← hwP, ← hwPm] at lt
          refine more' _ _ hil ⟨rfl, ia1 i (by omega), .inr ⟨i, rfl, hPi, fun m' hm' v vs hv hp hl' => ?_⟩⟩
          by_cases z : m' = i
          · subst z; exact Int.le_refl _
          · have := hmin m' (by omega) v vs hv hp hl'; omega
        · rw [← hwP, ← hwPm] at lt
          refine more' _ _ hil ⟨rfl, ia1 i (by omega), .inr ⟨m, rfl, ⟨um, usm, hum, hpm, hwm⟩, fun m' hm' v vs hv hp hl' => ?_⟩⟩
          by_cases z : m' = i
          · subst z; omega
          · exact hmin m' (by omega) v vs hv hp hl'
    · have q' : ((P.Live && decide (P.Parent = (n : Int))) && decide (last < P.When)) = false := by simpa using q
      rw [q']
      have notP : ∀ u us, Has es i u us → u.Parent = n → ¬ last < whenP pl (i : Int) := fun u us hu hp hl' => by
        obtain ⟨P', hP', e1, _, _, e4⟩ := b.has hu
        rw [h1'] at hP'; cases hP'
        rw [e1, e4, hp, decide_eq_true rfl, ← hwP, decide_eq_true hl'] at q'
        cases q'
      refine w_join (w_ifF rfl (w_ifF rfl (more' _ _ hil ⟨rfl, ia1 i (by omega), ?_⟩)))
      rcases hbest with ⟨e, hno⟩ | ⟨m, e, hm, hmin⟩
      · refine .inl ⟨e, fun m hm u us hu hp => ?_⟩
        by_cases z : m = i
        · subst z; exact notP u us hu hp
        · exact hno m (by omega) u us hu hp
      · refine .inr ⟨m, e, hm, fun m' hm' v vs hv hp hl' => ?_⟩
        by_cases z : m' = i
        · subst z; exact absurd hl' (notP v vs hv hp)
        · exact hmin m' (by omega) v vs hv hp hl'
  · have d : ¬ (i : Int) < (s.len : Int) := d
    obtain rfl : i = es.length := by omega
    rcases hbest with ⟨rfl, hno⟩ | ⟨m, rfl, ⟨um, usm, hum, hpm, hwm⟩, hmin⟩
    · refine w_ifT rfl ?_
      have : j = ks.length := by
        rcases Nat.lt_or_ge j ks.length with q | q
        · obtain ⟨m, u, us, e, hm, hp⟩ := w.down _ _ _ hn _ (List.getElem_mem q)
          exact absurd ((hlast j _ (by rw [List.getElem?_eq_getElem q, e])).2 (Nat.le_refl _)) (hno m hm.lt u us hm hp)
        · omega
      subst this
      rw [List.take_length] at bu
      exact y _ _ bu kp fo
    · refine w_ifF (decide_eq_false (by show ¬ (m : Int) < 0; omega)) ?_
      obtain ⟨i', hi', hji⟩ := toK hum hpm hwm
      have hlt := lt_of_get hi'
      have hjl : j < ks.length := by omega
      have hjk := List.getElem?_eq_getElem hjl
      obtain ⟨m', u', us', e', hm', hp'⟩ := w.down _ _ _ hn _ (List.getElem_mem hjl)
      have hle := hmin m' hm'.lt u' us' hm' hp' (by rw [← e']; exact (hlast j _ hjk).2 (Nat.le_refl _))
      obtain rfl : i' = j := by
        have h3 := mono_idx (b.kids _ _ _ hn) hjk hi'
        rw [e'] at h3
        rcases Nat.lt_or_ge j i' with q | q
        · exact absurd (h3.2 q) (by omega)
        · omega
      refine w_app (by_ := 8) ci_len rfl bu [(m : Int)] rfl rfl (.inl (by rw [List.length_take]; simp only [List.length_singleton]; omega)) fun s2 h2 bu2 k2 f2 d2 => ?_
      obtain ⟨Pm, hPm, _⟩ := b.has hum
      have hwPm : whenP pl (m : Int) = Pm.When := by rw [whenP_nat, hPm]; rfl
      have a2 := a.keep (kp.but k2 fo)
      refine w_deref (w_load a2.f0 (w_field rp_len a2.buf.arr hPm rfl (v' := Pm.When) (cells' := cInt .i64) (l1 := (cPl Pm).take 6) (l3 := []) rfl rfl ?_))
      refine more _ _ hjl ⟨?_, fun i'' k hk => ?_, kp.but k2 fo, fun c f => (f2 c f).elim (fo c) fun q => kp.fresh q⟩
      · rw [List.take_add_one, hi']; exact bu2
      · show Pm.When < _ ↔ _
        rw [← hwPm, mono_idx (b.kids _ _ _ hn) hi' hk]
        omega
end
end Go.Proofs.Ytiajjcboddaenaa.K
namespace Go.Proofs.Ytiajjcboddaenaa.K
open Go
theorem PreL.len1 {ch : Int → List Int} {a l : List Int} (x : PreL ch a l) (h : a ≠ []) : 1 ≤ l.length := by
  have := x.le
  cases a with
  | nil => exact absurd rfl h
  | cons b r => rw [List.length_cons] at this; omega
theorem PreL.one {ch : Int → List Int} {n : Int} {l : List Int} (x : PreL ch [n] l) : ∃ l1, l = n :: l1 ∧ PreL ch (ch n) l1 := by
  cases x with
  | cons a b => cases b; exact ⟨_, by rw [List.append_nil], a⟩
section
variable {h : H} {p : Nat} {ev : Nat} {G : Nat → Prop} {es : List En}
theorem t_RDownN : ∀ (N : Nat) {h : H} (_ : Ref h p ev G es) {n : Nat} {l : List Int} (_ : PreL (chN (nds es)) [(n : Int)] l) (_ : LiveL (nds es) l) (_ : l.length ≤ 256) (_ : l.length ≤ N) {K : Sl → H → Prop} (_ : ∀ s' h', Buf (cInt .i64) 1 N_int h' s' l → Keeps h h' → (∀ c, s'.foot c → h c = none) → K s' h'), m_ref11_Catalogue_Down_n N (some ⟨p, 0, none⟩) (n : Int) K h := by
  intro N
  induction N with
  | zero =>
    intro h x n l hl _ _ hN K y
    have := hl.len1 (by simp)
    omega
  | succ N ih =>
    intro h x n l hl live h256 hN K y
    obtain ⟨l1, rfl, hl1⟩ := hl.one
    obtain ⟨i, t, ks, e, hn⟩ := hasN_nds.1 (live _ (List.mem_cons_self ..))
    obtain rfl : n = i := by omega
    rw [chN_nds hn] at hl1
    show m_ref11_Catalogue_Down_s (m_ref11_Catalogue_Down_n N) _ _ K h
    unfold m_ref11_Catalogue_Down_s
    refine w_box fun b1 h1 f1 c1 k1 => t_Rchildren (x.keep k1) hn fun s2 h2 bu2 k2 f2 => ?_
    have hkl := hl1.le
    have hk256 := x.wf.kids_le hn
    have hw256 := x.wf.len
    rw [List.length_cons] at h256 hN
    refine w_for ks.length (fun j (z : Sl × Int) h' => z.2 = (j : Int) ∧ ∃ D E, l1 = D ++ E ∧ PreL (chN (nds es)) (ks.drop j) E ∧ Buf (cInt .i64) 1 N_int h' z.1 ((n : Int) :: D) ∧ Keeps h h' ∧ (∀ c, z.1.foot c → h c = none) ∧ Buf (cInt .i64) 1 N_int h' s2 ks ∧ ∀ c, z.1.foot c → ¬ s2.foot c) ?_ ?_
    rotate_left
    · refine ⟨rfl, [], l1, rfl, hl1, (Buf.one ci_len (x := (n : Int)) c1).keep k2, k1.trans k2, fun c ⟨a, q, r⟩ => by (cases q; subst r; exact f1), bu2, fun c ⟨a, q, r⟩ f => ?_⟩
      cases q; subst r
      have := f2 _ f
      rw [c1] at this; cases this
    rintro rec j ⟨out, jz⟩ h' hj ⟨ej, D, E, rfl, hE, bu, kp, fo, b2, ap⟩ more
    have ej : jz = (j : Int) := ej
    subst ej
    have bu : Buf (cInt .i64) 1 N_int h' out ((n : Int) :: D) := bu
    have l2 := b2.len
    have lD := bu.len
    rw [List.length_append] at h256 hN
    refine w_if' (fun c => ?_) fun c => ?_
    · have c : (j : Int) < (s2.len : Int) := c
      have hjl : j < ks.length := by omega
      have hk := List.getElem?_eq_getElem hjl
      have ed : ks.drop j = ks[j] :: ks.drop (j + 1) := List.drop_eq_getElem_cons hjl
      rw [ed] at hE
      generalize hz : ks[j] = z at hE hk
      obtain ⟨m1, L1, rfl, p1, p2⟩ : ∃ m1 L1, E = z :: (m1 ++ L1) ∧ PreL (chN (nds es)) (chN (nds es) z) m1 ∧ PreL (chN (nds es)) (ks.drop (j + 1)) L1 := by
        cases hE with
        | cons a b => exact ⟨_, _, rfl, a, b⟩
      obtain ⟨m, u, us, rfl, hm⟩ := hasN_nds.1 (live z (by simp))
      simp only [List.length_cons, List.length_append] at h256 hN
      refine w_get ci_len b2.arr hk rfl (v' := (m : Int)) rfl ?_
      have p1' : PreL (chN (nds es)) [(m : Int)] ((m : Int) :: m1) := by
        have := PreL.cons p1 PreL.nil
        rwa [List.append_nil] at this
      refine ih (x.keep kp) p1' (fun w hw => live w ?_) (by simp only [List.length_cons]; omega) (by simp only [List.length_cons]; omega) fun s3 h3 bu3 k3 f3 => ?_
      · rcases List.mem_cons.1 hw with q | q
        · rw [q]; simp
        · simp [q]
      refine w_append (by_ := 8) ci_len ci_plain rfl (bu.keep k3) bu3.arr (.inl (by simp only [List.length_cons]; omega)) fun s4 h4 bu4 k4 f4 d4 => ?_
      refine more _ _ hjl ⟨ia1 j (by omega), D ++ (m : Int) :: m1, L1, by simp, p2, bu4, (kp.trans k3).but k4 fo, fun c f => (f4 c f).elim (fo c) fun q => kp.fresh (k3.fresh q), (b2.keep k3).but k4 fun a ha f => ap _ f ⟨a, ha, rfl⟩, fun c f g => ?_⟩
      rcases f4 c f with q | q
      · exact ap c q g
      · exact (b2.keep k3).has g q
    · have c : ¬ (j : Int) < (s2.len : Int) := c
      obtain rfl : j = ks.length := by omega
      rw [List.drop_length] at hE
      cases hE
      rw [List.append_nil] at y
      exact y _ _ bu kp fo
theorem t_RDown (x : Ref h p ev G es) {n : Nat} {l : List Int} (b : Below es n l) {K : Sl → H → Prop} (y : ∀ s' h', Buf (cInt .i64) 1 N_int h' s' l → Keeps h h' → (∀ c, s'.foot c → h c = none) → K s' h') : m_ref11_Catalogue_Down (some ⟨p, 0, none⟩) (n : Int) K h :=
  ⟨l.length, t_RDownN l.length x b.pre b.live (by have := b.len; have := x.wf.len; omega) (Nat.le_refl _) y⟩
def plDead : S_ref11_Place := ⟨false, ⟨0, ⟨0, 0⟩⟩, 0, 0, 0⟩
def killP (S : List Int) (pl : List S_ref11_Place) : List S_ref11_Place := pl.mapIdx fun i q => if (i : Int) ∈ S then plDead else q
theorem killP_get (S : List Int) (pl : List S_ref11_Place) (i : Nat) : (killP S pl)[i]? = (pl[i]?).map fun q => if (i : Int) ∈ S then plDead else q := by
  unfold killP; rw [List.getElem?_mapIdx]
theorem killP_len (S : List Int) (pl : List S_ref11_Place) : (killP S pl).length = pl.length := by unfold killP; rw [List.length_mapIdx]
theorem killP_nil (pl : List S_ref11_Place) : killP [] pl = pl := by
  apply List.ext_getElem?
  intro i
  rw [killP_get]
  cases pl[i]? with
  | none => rfl
  | some q => simp
theorem killP_set {S : List Int} {pl : List S_ref11_Place} {m : Nat} : (killP S pl).set m plDead = killP (S ++ [(m : Int)]) pl := by
  apply List.ext_getElem?
  intro i
  rw [List.getElem?_set, killP_get, killP_get, killP_len]
  by_cases e : m = i
  · subst e
    rw [if_pos rfl]
    by_cases q : m < pl.length
    · rw [if_pos q, List.getElem?_eq_getElem q]; simp
    · rw [if_neg q, List.getElem?_eq_none (by omega)]; rfl
  · rw [if_neg e]
    have hi : ((i : Int) ∈ S ++ [(m : Int)]) ↔ (i : Int) ∈ S := by
      rw [List.mem_append, List.mem_singleton]
      constructor
      · rintro (a | a)
        · exact a
        · exact absurd (by omega) e
      · exact .inl
    simp only [hi]
theorem RefRel.cut {pl} (x : RefRel es pl ev) (w : CWF es) (S : List Int) : RefRel (cutE S es) (killP S pl) ev := by
  have wh : ∀ {i : Nat}, (i : Int) ∉ S → whenP (killP S pl) (i : Int) = whenP pl (i : Int) := fun {i} hi => by
    rw [whenP_nat, whenP_nat, killP_get]
    cases pl[i]? with
    | none => rfl
    | some q => rw [Option.map_some, if_neg hi]
  refine ⟨by rw [killP_len, cutE_len]; exact x.len, fun i q e h1 h2 => ?_, fun i t vs h => ?_, fun i t vs h => ?_⟩
  · rw [killP_get] at h1
    rw [cutE_get] at h2
    cases e1 : pl[i]? with
    | none => rw [e1] at h1; cases h1
    | some q' =>
      cases e2 : es[i]? with
      | none => rw [e2] at h2; cases h2
      | some e' =>
        rw [e1] at h1; rw [e2] at h2
        have ok := x.ent _ _ _ e1 e2
        by_cases z : (i : Int) ∈ S
        · rw [Option.map_some, if_pos z] at h1 h2
          cases h1; cases h2; rfl
        · rw [Option.map_some, if_neg z] at h1 h2
          cases h1; cases h2
          cases e' with
          | none => exact ok
          | some v => exact ok
  · obtain ⟨hS, ks, h', rfl⟩ := has_cut.1 h
    rw [wh hS]; exact x.when _ _ _ h'
  · obtain ⟨hS, ks, h', rfl⟩ := has_cut.1 h
    refine (List.Pairwise.sublist List.filter_sublist (x.kids _ _ _ h')).imp_of_mem fun {a b} ha hb hab => ?_
    obtain ⟨ha1, ha2⟩ := List.mem_filter.1 ha
    obtain ⟨hb1, hb2⟩ := List.mem_filter.1 hb
    obtain ⟨j, u, us, rfl, _⟩ := w.down _ _ _ h' _ ha1
    obtain ⟨j', u', us', rfl, _⟩ := w.down _ _ _ h' _ hb1
    rw [wh (by simpa using ha2), wh (by simpa using hb2)]; exact hab
theorem t_RDrop (x : Ref h p ev G es) {i : Int} {K : Sl × Int → H → Prop} (no : atE es i = none → K (Sl.nil, 20) h)
    (y : ∀ n t ks l, i = ((n : Nat) : Int) → Has es n t ks → Below es n l → ∀ s' G' h', Ref h' p ev G' (cutE l es) → KChg G G' h h' → Buf S_api_Cap.cells 3 N_api_Cap h' s' (l.map (capAt es)) → (∀ c, s'.foot c → h c = none) → (∀ c, s'.foot c → ¬ G' c) → K (s', 0) h') : m_ref11_Catalogue_Drop (some ⟨p, 0, none⟩) i K h := by
  unfold m_ref11_Catalogue_Drop
  refine t_Ris x ?_
  cases hi : atE es i with
  | none => exact w_ifT rfl (no hi)
  | some v =>
    obtain ⟨t, ks⟩ := v
    obtain ⟨n, rfl, hn⟩ := atE_has.1 hi
    have wf := x.wf
    have wl := wf.len
    obtain ⟨l, bl⟩ := wf.ex hn
    have ll := bl.len
    refine w_ifF rfl (t_RDown x bl fun s2 h2 bu2 k2 f2 => ?_)
    obtain ⟨s, pl, a, b, g⟩ := x.ex
    have a2 := a.keep k2
    refine w_for l.length (fun j (z : Sl × Int) h' => z.2 = (j : Int) ∧ RefAt h' p s (killP (l.take j) pl) ev ∧ Buf S_api_Cap.cells 3 N_api_Cap h' z.1 ((l.take j).map (capAt es)) ∧ Buf (cInt .i64) 1 N_int h' s2 l ∧ KChg (fun c => c = p ∨ s.foot c) (fun c => c = p ∨ s.foot c) h h' ∧ ∀ c, z.1.foot c → h c = none) ?_ ?_
    rotate_left
    · refine ⟨rfl, ?_, Buf.nil, bu2, ⟨.of k2, fun _ f => .inl f, fun c q => k2.fresh q⟩, fun c ⟨_, q, _⟩ => by cases q⟩
      rw [List.take_zero, killP_nil]; exact a2
    rintro rec j ⟨out, jz⟩ h' hj ⟨ej, a', bu, b2, kc, fo⟩ more
    have ej : jz = (j : Int) := ej
    subst ej
    have bu : Buf S_api_Cap.cells 3 N_api_Cap h' out ((l.take j).map (capAt es)) := bu
    have l2 := b2.len
    refine w_if' (fun c => ?_) fun c => ?_
    · have c : (j : Int) < (s2.len : Int) := c
      have hjl : j < l.length := by omega
      have hz := List.getElem?_eq_getElem hjl
      generalize hzz : l[j] = zm at hz
      obtain ⟨q, u, us, rfl, hu⟩ := hasN_nds.1 (bl.live _ (List.mem_of_getElem? hz))
      have hqS : (q : Int) ∉ l.take j := fun w => by
        have nd := bl.nd
        have take1 : l.take (j + 1) = l.take j ++ [(q : Int)] := by rw [List.take_add_one, hz]; rfl
        rw [← List.take_append_drop (j + 1) l, take1] at nd
        have nd := (List.nodup_append.1 nd).1
        rw [List.nodup_append] at nd
        exact nd.2.2 _ w _ (List.mem_singleton_self _) rfl
      obtain ⟨P, hP, _, eP, _⟩ := b.has hu
      have hP' : (killP (l.take j) pl)[q]? = some P := by rw [killP_get, hP, Option.map_some, if_neg hqS]
      refine w_deref (w_idx ci_len b2.arr hz rfl fun ad _ had => w_load a'.f0 (w_load (v := (q : Int)) had ?_))
      refine w_field rp_len a'.buf.arr hP' rfl (v' := P.Cap) (cells' := S_api_Cap.cells) (l1 := (cPl P).take 1) (l3 := (cPl P).drop 4) rfl rfl ?_
      rw [eP]
      refine w_app (by_ := 24) cap_len rfl bu [u.Cap] rfl rfl (.inl (by simp only [List.length_map, List.length_take, List.length_singleton]; omega)) fun s3 h3 bu3 k3 f3 d3 => ?_
      have oF : ∀ c, out.foot c → c ≠ p ∧ ¬ s.foot c := fun c f => ⟨fun e => by rw [e] at f; exact (bu.typed f).ne (Typed.of a'.cell) (by decide) rfl, fun e => (bu.typed f).ne (a'.buf.typed e) (by decide) rfl⟩
      have a3 := a'.but k3 oF
      have b3 := b2.but k3 fun ad' ha f => (bu.typed f).ne (b2.typed ⟨ad', ha, rfl⟩) (by decide) rfl
      refine w_deref (w_idx ci_len b3.arr hz rfl fun ad2 _ had2 => w_load a3.f0 (w_load (v := (q : Int)) had2 ?_))
      refine w_put rp_len a3.buf (i := q) (by rw [killP_len, b.len]; exact hu.lt) rfl plDead rfl fun h4 bu4 k4 d4 => ?_
      rw [killP_set] at bu4
      have take1 : l.take (j + 1) = l.take j ++ [(q : Int)] := by rw [List.take_add_one, hz]; rfl
      rw [← take1] at bu4
      have offp : ∀ c, s.foot c → c ≠ p := fun c f e => by subst e; exact a3.apart f
      refine more _ _ hjl ⟨ia1 j (by omega), ⟨k4 _ _ a3.cell a3.apart, bu4⟩, ?_, b3.but k4 fun ad' ha f => (b3.typed ⟨ad', ha, rfl⟩).ne (a3.buf.typed f) (by decide) rfl, ?_, fun c f => (f3 c f).elim (fo c) fun q => kc.dom c q⟩
      · have e1 : (l.take (j + 1)).map (capAt es) = (l.take j).map (capAt es) ++ [u.Cap] := by
          rw [take1, List.map_append, ← capAt_has hu]; rfl
        rw [e1]
        exact bu3.but k4 fun ad' ha f => (bu3.typed ⟨ad', ha, rfl⟩).ne (a3.buf.typed f) (by decide) rfl
      · refine ⟨(kc.but.trans k3 fun c f => .inr (fo c f)).trans k4 fun c f => .inl (.inr f), fun _ f => .inl f, fun c q => kc.dom c (d3 c (d4 c q))⟩
    · have c : ¬ (j : Int) < (s2.len : Int) := c
      obtain rfl : j = l.length := by omega
      rw [List.take_length] at a' bu
      have wf' : CWF (cutE l es) := wf.cut fun i u us hi hm k hk => bl.closed hi hm hk
      refine y n t ks l rfl hn bl out _ h' ⟨⟨s, _, a', b.cut wf l, fun _ => Iff.rfl⟩, wf'⟩ ⟨kc.but.mono fun c f => (g c).2 f, fun c f => .inl ((g c).2 f), kc.dom⟩ bu fo fun c f e => ?_
      have := fo c f
      rcases e with e | e
      · rw [e, a.cell] at this; cases this
      · exact a.buf.has e this
theorem t_ROf (x : Ref h p ev G es) {o : Int} {K : Sl → H → Prop} (no : (∀ i t ks, Has es i t ks → t.Cap.Obj ≠ o) → ∀ h', Keeps h h' → K Sl.nil h')
    (y : ∀ n t ks l, Has es n t ks → t.Cap.Obj = o → t.Parent = -1 → Below es n l → ∀ s' h', Buf cTok 5 N_api_Token h' s' (ofE es l) → Keeps h h' → (∀ c, s'.foot c → h c = none) → K s' h') : m_ref11_Catalogue_Of (some ⟨p, 0, none⟩) o K h := by
  have wf := x.wf
  have wl := wf.len
  obtain ⟨s, pl, a, b, g⟩ := x.ex
  have hl := a.buf.len
  have hb := b.len
  unfold m_ref11_Catalogue_Of
  -- either no root has been met, or the one
  refine w_for es.length (fun i (z : Sl × Int) h' => z.2 = (i : Int) ∧ Keeps h h' ∧ ((z.1 = Sl.nil ∧ ∀ j, j < i → ∀ t ks, Has es j t ks → t.Cap.Obj = o → t.Parent ≠ -1) ∨ ∃ n t ks l, n < i ∧ Has es n t ks ∧ t.Cap.Obj = o ∧ t.Parent = -1 ∧ Below es n l ∧ Buf cTok 5 N_api_Token h' z.1 (ofE es l) ∧ ∀ c, z.1.foot c → h c = none)) ?_ ⟨rfl, .refl _, .inl ⟨rfl, fun j hj => absurd hj (Nat.not_lt_zero _)⟩⟩
  rintro rec i ⟨out, iz⟩ h' hi ⟨ei, kp, hst⟩ more
  have ei : iz = (i : Int) := ei
  subst ei
  have hst : (out = Sl.nil ∧ ∀ j, j < i → ∀ t ks, Has es j t ks → t.Cap.Obj = o → t.Parent ≠ -1) ∨ ∃ n t ks l, n < i ∧ Has es n t ks ∧ t.Cap.Obj = o ∧ t.Parent = -1 ∧ Below es n l ∧ Buf cTok 5 N_api_Token h' out (ofE es l) ∧ ∀ c, out.foot c → h c = none := hst
  have a' := a.keep kp
  have x' := x.keep kp
  refine w_deref (w_load a'.f0 (w_if' (fun d => ?_) fun d => ?_))
  · have d : (i : Int) < (s.len : Int) := d
    have hil : i < es.length := by omega
    obtain ⟨P, e, h1, h2, ok⟩ := b.place hil
    refine w_deref (w_load a'.f0 (w_field rp_len a'.buf.arr h1 rfl (v' := P.Live) (cells' := cBool) (l1 := []) (l3 := (cPl P).drop 1) rfl rfl ?_))
    refine w_joinV (!P.Live || !decide (P.Cap.Obj = o)) (fun J hJ => ?_) ?_
    · refine w_if (fun e => ?_) fun e => ?_
      · rw [e, Bool.true_or] at hJ; exact hJ
      · refine w_deref (w_load a'.f0 (w_idx rp_len a'.buf.arr h1 rfl fun ad _ ha => w_load (v := P.Cap.Obj) (cells := cInt .i64) ?_ ?_))
        · rw [show (ad.add 1).add 0 = ad.add 1 from add_zero _]
          exact At.head (l2 := (cPl P).drop 2) (At.sub (l1 := (cPl P).take 1) (l3 := []) (by rw [List.append_nil]; exact ha) rfl)
        · rw [e, Bool.false_or] at hJ; exact hJ
    refine w_joinV ((!P.Live || !decide (P.Cap.Obj = o)) || decide (0 ≤ P.Parent)) (fun J hJ => ?_) ?_
    · refine w_if (fun e => ?_) fun e => ?_
      · rw [e, Bool.true_or] at hJ; exact hJ
      · refine w_deref (w_load a'.f0 (w_field rp_len a'.buf.arr h1 rfl (v' := P.Parent) (cells' := cInt .i64) (l1 := (cPl P).take 5) (l3 := (cPl P).drop 6) rfl rfl ?_))
        rw [e, Bool.false_or] at hJ; exact hJ
    refine w_if (fun e => ?_) fun e => ?_
    · refine more _ _ hil ⟨ia1 i (by omega), kp, ?_⟩
      rcases hst with ⟨rfl, hno⟩ | ⟨n, t, ks, l, hni, r⟩
      · refine .inl ⟨rfl, fun j hj t ks ht ho hp => ?_⟩
        by_cases z : j = i
        · subst z
          obtain ⟨P', hP', e1, e2, _, e4⟩ := b.has ht
          rw [h1] at hP'; cases hP'
          rw [e1, e2, ho, e4, hp] at e
          simp at e
        · exact hno j (by omega) t ks ht ho hp
      · exact .inr ⟨n, t, ks, l, by omega, r⟩
    · -- a root
      rw [Bool.or_eq_false_iff, Bool.or_eq_false_iff] at e
      obtain ⟨⟨e1, e2⟩, e3⟩ := e
      have hlive : P.Live = true := by simpa using e1
      have hobj : P.Cap.Obj = o := by simpa using e2
      have hpar : ¬ 0 ≤ P.Parent := of_decide_eq_false e3
      obtain ⟨t, ks, ht, q1, q2, q3⟩ := b.live h1 hlive
      have hto : t.Cap.Obj = o := by rw [← q1]; exact hobj
      have htp : t.Parent = -1 := by
        rcases wf.up _ _ _ ht with z | ⟨j, _, _, z, _⟩
        · exact z
        · omega
      have hnil : out = Sl.nil := by
        rcases hst with ⟨q, _⟩ | ⟨n, t', ks', l, hni, hn, ho, hp, _⟩
        · exact q
        · have := wf.one _ _ _ _ _ _ hn ht hp htp (ho.trans hto.symm)
          omega
      subst hnil
      obtain ⟨l, bl⟩ := wf.ex ht
      have ll := bl.len
      refine t_RDown x' bl fun s2 hh2 bu2 k2 f2 => ?_
      refine w_for l.length (fun j (z : Sl × Int) h'' => z.2 = (j : Int) ∧ Keeps h h'' ∧ Buf (cInt .i64) 1 N_int h'' s2 l ∧ Buf cTok 5 N_api_Token h'' z.1 ((l.take j).map (tokIn es l)) ∧ ∀ c, z.1.foot c → h c = none) ?_ ⟨rfl, kp.trans k2, bu2, Buf.nil, fun c ⟨_, q, _⟩ => by cases q⟩
      rintro rec2 j ⟨ou, jz⟩ h3 hj ⟨ej, kp3, b2, bu3, fo3⟩ more2
      have ej : jz = (j : Int) := ej
      subst ej
      have bu3 : Buf cTok 5 N_api_Token h3 ou ((l.take j).map (tokIn es l)) := bu3
      have l2 := b2.len
      have a3 := a.keep kp3
      refine w_if' (fun c => ?_) fun c => ?_
      · have c : (j : Int) < (s2.len : Int) := c
        have hjl : j < l.length := by omega
        have hz := List.getElem?_eq_getElem hjl
        generalize hzz : l[j] = zm at hz
        obtain ⟨q, u, us, rfl, hu⟩ := hasN_nds.1 (bl.live _ (List.mem_of_getElem? hz))
        refine w_get ci_len b2.arr hz rfl (v' := (q : Int)) rfl (t_RAt (x.keep kp3) ?_)
        have eat : atOut es (q : Int) = (u, true) := by
          unfold atOut
          rw [(atE_has (i := (q : Int))).2 ⟨q, rfl, hu⟩]
        rw [eat]
        obtain ⟨Pq, hPq, _, _, _, ePq⟩ := b.has hu
        -- the place of the parent in the list
        have hahead := bl.ahead wf ht hz hu
        refine w_for j (fun m (z : Int × Int × Int × Int × Int × Int) h4 => h3 = h4 ∧ z = ((m : Int), u.Cap.Obj, u.Cap.Pass.Hi, u.Cap.Pass.Lo, u.Rights, if u.Parent ∈ l.take m then placeIn l u.Parent else u.Parent)) ?_ ⟨rfl, by rw [List.take_zero, if_neg (by simp)]; rfl⟩
        rintro rec3 m z h4 hm ⟨rfl, rfl⟩ more3
        refine w_if' (fun c => ?_) fun c => ?_
        · have c : (m : Int) < (j : Int) := c
          have hmj : m < j := by omega
          have hml : m < l.length := by omega
          have hzm := List.getElem?_eq_getElem hml
          generalize hzzm : l[m] = zm' at hzm
          refine w_idx ci_len b2.arr hzm rfl fun ad1 _ had1 => w_deref (w_idx ci_len b2.arr hz rfl fun ad2 _ had2 => w_load (v := zm') had1 (w_load a3.f0 (w_load (v := (q : Int)) had2 ?_)))
          refine w_field rp_len a3.buf.arr hPq rfl (v' := Pq.Parent) (cells' := cInt .i64) (l1 := (cPl Pq).take 5) (l3 := (cPl Pq).drop 6) rfl rfl ?_
          rw [ePq]
          obtain ⟨qm, _, _, eqm, _⟩ := hasN_nds.1 (bl.live _ (List.mem_of_getElem? hzm))
          have take1 : l.take (m + 1) = l.take m ++ [zm'] := by rw [List.take_add_one, hzm]; rfl
          refine w_if' (fun e => ?_) fun e => ?_
          · refine more3 _ _ hmj ⟨rfl, ?_⟩
            show (iAdd .i64 (m : Int) 1, _, _, _, _, _) = _
            have hmem : u.Parent ∈ l.take m ++ [zm'] := by rw [← e]; simp
            have hpl : placeIn l u.Parent = (m : Int) := by
              unfold placeIn
              rw [if_neg (by omega), ← e, idx_of bl.nd hzm]
            rw [ia1 m (by omega), take1, if_pos hmem, hpl]
          · refine more3 _ _ hmj ⟨rfl, ?_⟩
            show (iAdd .i64 (m : Int) 1, _, _, _, _, _) = _
            have e' : ¬ u.Parent = zm' := fun z => e z.symm
            rw [ia1 m (by omega), take1]
            simp only [List.mem_append, List.mem_singleton, e', or_false]
        · have c : ¬ (m : Int) < (j : Int) := c
          obtain rfl : m = j := by omega
          have epar : (if u.Parent ∈ l.take m then placeIn l u.Parent else u.Parent) = placeIn l u.Parent := by
            rcases hahead with ⟨rfl, rfl⟩ | ⟨_, q2⟩
            · have : u.Parent = -1 := htp
              rw [this]
              split
              · rfl
              · rfl
            · rw [if_pos q2]
          refine w_app (by_ := 40) tok_len rfl bu3 [tokIn es l (q : Int)] ?_ rfl (.inl (by simp only [List.length_map, List.length_take, List.length_singleton]; omega)) fun s5 h5 bu5 k5 f5 d5 => ?_
          · rw [tokIn_has hu, epar]; rfl
          refine more2 _ _ hjl ⟨ia1 m (by omega), kp3.but k5 fo3, b2.but k5 fun ad' ha f => (bu3.typed f).ne (b2.typed ⟨ad', ha, rfl⟩) (by decide) rfl, ?_, fun c f => (f5 c f).elim (fo3 c) fun q => kp3.fresh q⟩
          rw [List.take_add_one, hz, List.map_append]
          exact bu5
      · have c : ¬ (j : Int) < (s2.len : Int) := c
        obtain rfl : j = l.length := by omega
        rw [List.take_length] at bu3
        exact more _ _ hil ⟨ia1 i (by omega), kp3, .inr ⟨i, t, ks, l, by omega, ht, hto, htp, bl, bu3, fo3⟩⟩
  · have d : ¬ (i : Int) < (s.len : Int) := d
    obtain rfl : i = es.length := by omega
    rcases hst with ⟨rfl, hno⟩ | ⟨n, t, ks, l, hni, hn, ho, hp, bl, bu, fo⟩
    · refine no (fun j t ks ht ho => ?_) h' kp
      obtain ⟨r, v, vs, hr, hp, hob, _⟩ := wf.rootOf ht
      exact hno r hr.lt v vs hr (hob.trans ho) hp
    · exact y n t ks l hn ho hp bl out h' bu kp fo
end
end Go.Proofs.Ytiajjcboddaenaa.K
