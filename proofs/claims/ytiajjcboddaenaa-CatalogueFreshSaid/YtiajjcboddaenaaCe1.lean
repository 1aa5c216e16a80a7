/- The reference catalogue: its calls. -/
import Derived.Test.YtiajjcboddaenaaCa10
import Derived.Test.YtiajjcboddaenaaFref11
namespace Go.Proofs.Ytiajjcboddaenaa.K
open Go
abbrev cPl := S_ref11_Place.cells
theorem rp_len : ∀ x, (cPl x).length = 7 := fun _ => rfl
theorem rp_plain : ∀ x, (cPl x).all plainVal = true := fun _ => rfl
def PlOk (q : S_ref11_Place) : En → Prop
  | none => q.Live = false
  | some (t, _) => q.Live = true ∧ q.Cap = t.Cap ∧ q.Rights = t.Rights ∧ q.Parent = t.Parent
def whenP (pl : List S_ref11_Place) (z : Int) : Int := ((pl[z.toNat]?).map S_ref11_Place.When).getD 0
structure RefRel (es : List En) (pl : List S_ref11_Place) (ev : Nat) : Prop where
  len : pl.length = es.length
  ent : ∀ (i : Nat) q e, pl[i]? = some q → es[i]? = some e → PlOk q e
  when : ∀ i t ks, Has es i t ks → 0 ≤ whenP pl (i : Int) ∧ whenP pl (i : Int) < ev
  kids : ∀ i t ks, Has es i t ks → ks.Pairwise fun a b => whenP pl a < whenP pl b
structure RefAt (h : H) (p : Nat) (s : Sl) (pl : List S_ref11_Place) (ev : Nat) : Prop where
  cell : h p = some (.cells (S_ref11_Catalogue.cells ⟨s, ev⟩).toArray N_ref11_Catalogue (0, 0))
  buf : Buf cPl 7 N_ref11_Place h s pl
/-- A reference catalogue that holds 'es'; 'G' are its blocks. -/
structure Ref (h : H) (p : Nat) (ev : Nat) (G : Nat → Prop) (es : List En) : Prop where
  ex : ∃ s pl, RefAt h p s pl ev ∧ RefRel es pl ev ∧ ∀ c, G c ↔ c = p ∨ s.foot c
  wf : CWF es
theorem RefRel.place {es : List En} {pl ev} (x : RefRel es pl ev) {i : Nat} (hi : i < es.length) : ∃ (q : S_ref11_Place) (e : En), pl[i]? = some q ∧ es[i]? = some e ∧ PlOk q e := by
  have h1 := List.getElem?_eq_getElem (l := pl) (i := i) (by have := x.len; omega)
  have h2 := List.getElem?_eq_getElem (l := es) (i := i) hi
  exact ⟨_, _, h1, h2, x.ent _ _ _ h1 h2⟩
theorem RefRel.has {es : List En} {pl ev} (x : RefRel es pl ev) {i : Nat} {t ks} (h : Has es i t ks) : ∃ q : S_ref11_Place, pl[i]? = some q ∧ q.Live = true ∧ q.Cap = t.Cap ∧ q.Rights = t.Rights ∧ q.Parent = t.Parent := by
  obtain ⟨q, e, h1, h2, ok⟩ := x.place h.lt
  unfold Has at h
  rw [h2] at h
  cases h
  exact ⟨q, h1, ok⟩
theorem RefRel.live {es : List En} {pl ev} (x : RefRel es pl ev) {i : Nat} {q : S_ref11_Place} (h : pl[i]? = some q) (e : q.Live = true) : ∃ (t : S_api_Token) (ks : List Int), Has es i t ks ∧ q.Cap = t.Cap ∧ q.Rights = t.Rights ∧ q.Parent = t.Parent := by
  obtain ⟨q', o, h1, h2, ok⟩ := x.place (by have := lt_of_get h; have := x.len; omega : i < es.length)
  rw [h] at h1; cases h1
  cases o with
  | none => have : q.Live = false := ok; rw [this] at e; cases e
  | some v => obtain ⟨t, ks⟩ := v; exact ⟨t, ks, h2, ok.2⟩
theorem RefRel.dead {es : List En} {pl ev} (x : RefRel es pl ev) {i : Nat} {q : S_ref11_Place} (h : pl[i]? = some q) (e : q.Live = false) : es[i]? = some none := by
  obtain ⟨q', o, h1, h2, ok⟩ := x.place (by have := lt_of_get h; have := x.len; omega : i < es.length)
  rw [h] at h1; cases h1
  cases o with
  | none => exact h2
  | some v => obtain ⟨t, ks⟩ := v; have := ok.1; rw [e] at this; cases this
theorem capsG_append : ∀ (a b : List En) (k : Nat), capsG k (a ++ b) = capsG k a ++ capsG (k + a.length) b := by
  intro a
  induction a with
  | nil => intro b k; rfl
  | cons e r ih =>
    intro b k
    have := ih b (k + 1)
    rw [List.length_cons, show k + (r.length + 1) = k + 1 + r.length by omega]
    cases e with
    | none => exact this
    | some p =>
      obtain ⟨u, us⟩ := p
      rw [List.cons_append, capsG, capsG, this]; rfl
section
variable {h : H} {p : Nat} {s : Sl} {pl : List S_ref11_Place} {ev : Nat} {es : List En}
theorem RefAt.f0 (x : RefAt h p s pl ev) : At h ((⟨p, 0, none⟩ : Addr).add 0) (cSl s) := by
  rw [pt_add]; exact At.own (l1 := []) (l3 := [Value.int .i64 ev]) x.cell rfl
theorem RefAt.f1 (x : RefAt h p s pl ev) : At h ((⟨p, 0, none⟩ : Addr).add 1) (cInt .i64 (ev : Int)) := by
  rw [pt_add]; exact At.own (l1 := [Sl.val s]) (l3 := []) x.cell rfl
theorem RefAt.apart (x : RefAt h p s pl ev) : ¬ s.foot p := fun f => (x.buf.typed f).ne (Typed.of x.cell) (by decide) rfl
theorem RefAt.keep {h' : H} (x : RefAt h p s pl ev) (k : Keeps h h') : RefAt h' p s pl ev := ⟨k _ _ x.cell, x.buf.keep k⟩
theorem RefAt.but {h' : H} {E : Nat → Prop} (x : RefAt h p s pl ev) (k : But E h h') (f : ∀ c, E c → c ≠ p ∧ ¬ s.foot c) : RefAt h' p s pl ev := ⟨k _ _ x.cell fun q => (f _ q).1 rfl, x.buf.but k fun a ha q => (f _ q).2 ⟨a, ha, rfl⟩⟩
end
section
variable {h : H} {p : Nat} {ev : Nat} {G : Nat → Prop} {es : List En}
theorem Ref.keep {h' : H} (x : Ref h p ev G es) (k : Keeps h h') : Ref h' p ev G es := by
  obtain ⟨s, pl, a, b, c⟩ := x.ex
  exact ⟨⟨s, pl, a.keep k, b, c⟩, x.wf⟩
theorem Ref.but {h' : H} {E : Nat → Prop} (x : Ref h p ev G es) (k : But E h h') (f : ∀ c, E c → ¬ G c) : Ref h' p ev G es := by
  obtain ⟨s, pl, a, b, c⟩ := x.ex
  exact ⟨⟨s, pl, a.but k fun z e => ⟨fun q => f z e ((c z).2 (.inl q)), fun q => f z e ((c z).2 (.inr q))⟩, b, c⟩, x.wf⟩
theorem Ref.has (x : Ref h p ev G es) {c : Nat} (f : G c) : h c ≠ none := by
  obtain ⟨s, pl, a, b, d⟩ := x.ex
  rcases (d c).1 f with q | q
  · rw [q, a.cell]; exact fun z => by cases z
  · exact a.buf.has q
theorem t_RNew {a0 a1 : Int} {K : Option Addr × Int → H → Prop} (bad : (a0 < 1 ∨ 256 < a0 ∨ a1 < 0 ∨ 64 < a1) → K (none, 16) h)
    (good : 0 ≤ a1 → a1 ≤ 64 → ∀ n : Nat, a0 = n → 1 ≤ n → n ≤ 256 → ∀ p G h', Ref h' p 0 G (List.replicate n none) → Keeps h h' → (∀ c, G c → h c = none) → K (some ⟨p, 0, none⟩, 0) h') : m_ref11_New a0 a1 K h := by
  unfold m_ref11_New
  refine w_if (fun c => bad ?_) fun c => ?_
  · simp only [Bool.or_eq_true, decide_eq_true_eq] at c; omega
  simp only [Bool.or_eq_false_iff, decide_eq_false_iff_not] at c
  obtain ⟨n, rfl⟩ : ∃ n : Nat, a0 = n := ⟨a0.toNat, by omega⟩
  refine w_make rp_len ⟨false, ⟨0, ⟨0, 0⟩⟩, 0, 0, 0⟩ rfl rfl rfl (by omega) (by omega) fun s h1 bu k1 f1 _ => w_box fun p h2 f2 c2 k2 => ?_
  have no : ∀ {i t ks}, ¬ Has (List.replicate n none) i t ks := fun h => by
    have := List.eq_of_mem_replicate (List.mem_of_getElem? h)
    cases this
  refine good (by omega) (by omega) n rfl (by omega) (by omega) p _ h2 ⟨⟨s, _, ⟨c2, bu.keep k2⟩, ⟨by simp, fun i q e h1 h2 => ?_, fun i t ks h => (no h).elim, fun i t ks h => (no h).elim⟩, fun _ => Iff.rfl⟩, CWF.empty (by omega) (by omega)⟩ (k1.trans k2) fun c f => ?_
  · obtain rfl := List.eq_of_mem_replicate (List.mem_of_getElem? h1)
    obtain rfl := List.eq_of_mem_replicate (List.mem_of_getElem? h2)
    rfl
  · rcases f with rfl | f
    · exact k1.fresh f2
    · exact f1 c f
theorem w_RValid {r : Int} {k : Bool → H → Prop} (y : k (decide (1 ≤ r ∧ r ≤ 31)) h) : mPure (m_ref11_Valid r) k h := by
  refine w_pure _ (fun _ _ z => ?_) y
  unfold m_ref11_Valid
  rw [Bool.decide_and] at z
  exact z
theorem part_or : ∀ a b : Fin 32, decide (iOr .i64 (a.val : Int) (b.val : Int) = (b.val : Int)) = decide (iAnd .i64 (a.val : Int) (b.val : Int) = (a.val : Int)) := by decide +kernel
theorem w_RPart {r u : Int} (hu : 1 ≤ u ∧ u ≤ 31) {k : Bool → H → Prop} (y : k (partOf r u) h) : mPure (m_ref11_Part r u) k h := by
  refine w_pure _ (fun _ _ z => ?_) y
  unfold m_ref11_Part
  refine w_RValid ?_
  have e : partOf r u = (decide (1 ≤ r ∧ r ≤ 31) && decide (iOr .i64 r u = u)) := by
    unfold partOf
    rw [decide_eq_true hu, Bool.true_and]
    by_cases hr : 1 ≤ r ∧ r ≤ 31
    · have := part_or ⟨r.toNat, by omega⟩ ⟨u.toNat, by omega⟩
      simp only [Int.toNat_of_nonneg (by omega : 0 ≤ r), Int.toNat_of_nonneg (by omega : 0 ≤ u)] at this
      rw [this]
    · rw [decide_eq_false hr, Bool.false_and, Bool.false_and]
  rw [e] at z
  exact z
/-- A run over the places. -/
theorem t_RIn (x : Ref h p ev G es) {o : Int} {K : Int → H → Prop} (y : K (cnt es o : Nat) h) : m_ref11_Catalogue_In (some ⟨p, 0, none⟩) o K h := by
  obtain ⟨s, pl, a, b, _⟩ := x.ex
  have hw := x.wf.len
  have hl := a.buf.len
  have hb := b.len
  unfold m_ref11_Catalogue_In
  refine w_for es.length (fun i (z : Int × Int) h' => h = h' ∧ z = ((cnt (es.take i) o : Int), (i : Int))) ?_ ⟨rfl, rfl⟩
  rintro rec i z h' hi ⟨rfl, rfl⟩ more
  have hcl := cnt_le (es.take i) o
  rw [List.length_take] at hcl
  refine w_deref (w_load a.f0 (w_if' (fun c => ?_) fun c => ?_))
  · have c : (i : Int) < (s.len : Int) := c
    have hil : i < es.length := by omega
    obtain ⟨q, e, h1, h2, ok⟩ := b.place hil
    refine w_deref (w_load a.f0 (w_field rp_len a.buf.arr h1 rfl (v' := q.Live) (cells' := cBool) (l1 := []) (l3 := (cPl q).drop 1) rfl rfl ?_))
    have e1 : cnt (es.take (i + 1)) o = cnt (es.take i) o + if (q.Live && decide (q.Cap.Obj = o)) = true then 1 else 0 := by
      unfold cnt
      rw [List.take_add_one, h2, capsG_append, List.countP_append]
      congr 1
      cases e with
      | none => have : q.Live = false := ok; rw [this]; rfl
      | some v =>
        obtain ⟨t, ks⟩ := v
        rw [ok.1, ok.2.1]
        show List.countP _ [(t.Cap, _)] = _
        rw [List.countP_cons]; simp
    refine w_joinV (q.Live && decide (q.Cap.Obj = o)) (fun j hj => ?_) ?_
    · refine w_if (fun e => ?_) fun e => ?_
      · refine w_deref (w_load a.f0 (w_idx rp_len a.buf.arr h1 rfl fun ad _ ha => w_load (v := q.Cap.Obj) (cells := cInt .i64) (At.head (l2 := ((cPl q).drop 2)) ?_) ?_))
        · rw [show (ad.add 1).add 0 = ad.add 1 from add_zero _]
          exact At.sub (l1 := (cPl q).take 1) (l3 := []) (by rw [List.append_nil]; exact ha) rfl
        · rw [e, Bool.true_and] at hj; exact hj
      · rw [e] at hj; exact hj
    · refine w_if (fun e => ?_) fun e => ?_
      · rw [e, if_pos rfl] at e1
        refine more _ _ hil ⟨rfl, ?_⟩
        show (iAdd .i64 _ 1, iAdd .i64 _ 1) = _
        rw [ia1 _ (by omega), ia1 _ (by omega), e1]
      · rw [e, if_neg (by decide)] at e1
        refine more _ _ hil ⟨rfl, ?_⟩
        show (_, iAdd .i64 _ 1) = _
        rw [ia1 _ (by omega), e1]; rfl
  · have c : ¬ (i : Int) < (s.len : Int) := c
    obtain rfl : i = es.length := by omega
    rw [List.take_length]
    exact y
theorem t_RCount (x : Ref h p ev G es) {K : Int → H → Prop} (y : K ((capsG 0 es).length : Nat) h) : m_ref11_Catalogue_Count (some ⟨p, 0, none⟩) K h := by
  obtain ⟨s, pl, a, b, _⟩ := x.ex
  have hw := x.wf.len
  have hl := a.buf.len
  have hb := b.len
  unfold m_ref11_Catalogue_Count
  refine w_for es.length (fun i (z : Int × Int) h' => h = h' ∧ z = (((capsG 0 (es.take i)).length : Int), (i : Int))) ?_ ⟨rfl, rfl⟩
  rintro rec i z h' hi ⟨rfl, rfl⟩ more
  have hcl := capsG_le (es.take i) 0
  rw [List.length_take] at hcl
  refine w_deref (w_load a.f0 (w_if' (fun c => ?_) fun c => ?_))
  · have c : (i : Int) < (s.len : Int) := c
    have hil : i < es.length := by omega
    obtain ⟨q, e, h1, h2, ok⟩ := b.place hil
    refine w_deref (w_load a.f0 (w_field rp_len a.buf.arr h1 rfl (v' := q.Live) (cells' := cBool) (l1 := []) (l3 := (cPl q).drop 1) rfl rfl ?_))
    have e1 : (capsG 0 (es.take (i + 1))).length = (capsG 0 (es.take i)).length + if q.Live = true then 1 else 0 := by
      rw [List.take_add_one, h2, capsG_append, List.length_append]
      congr 1
      cases e with
      | none => have : q.Live = false := ok; rw [this]; rfl
      | some v =>
        obtain ⟨t, ks⟩ := v
        rw [ok.1]; rfl
    refine w_if (fun e => ?_) fun e => ?_
    · rw [e, if_pos rfl] at e1
      refine more _ _ hil ⟨rfl, ?_⟩
      show (iAdd .i64 _ 1, iAdd .i64 _ 1) = _
      rw [ia1 _ (by omega), ia1 _ (by omega), e1]
    · rw [e, if_neg (by decide)] at e1
      refine more _ _ hil ⟨rfl, ?_⟩
      show (_, iAdd .i64 _ 1) = _
      rw [ia1 _ (by omega), e1]; rfl
  · have c : ¬ (i : Int) < (s.len : Int) := c
    obtain rfl : i = es.length := by omega
    rw [List.take_length]
    exact y
theorem t_RFind (x : Ref h p ev G es) {c : S_api_Cap} {K : Int × Bool → H → Prop} (y : K (((findE es c).map fun n : Nat => (n : Int)).getD 0, (findE es c).isSome) h) : m_ref11_Catalogue_Find (some ⟨p, 0, none⟩) c K h := by
  obtain ⟨s, pl, a, b, _⟩ := x.ex
  have hw := x.wf.len
  have hl := a.buf.len
  have hb := b.len
  unfold m_ref11_Catalogue_Find
  refine w_for es.length (fun i (z : Int) h' => h = h' ∧ z = (i : Int) ∧ ∀ j, j < i → ∀ e, es[j]? = some e → isCap c e = false) ?_ ⟨rfl, rfl, fun j hj => absurd hj (Nat.not_lt_zero _)⟩
  rintro rec i z h' hi ⟨rfl, rfl, hno⟩ more
  refine w_deref (w_load a.f0 (w_if' (fun d => ?_) fun d => ?_))
  · have d : (i : Int) < (s.len : Int) := d
    have hil : i < es.length := by omega
    obtain ⟨q, e, h1, h2, ok⟩ := b.place hil
    refine w_deref (w_load a.f0 (w_field rp_len a.buf.arr h1 rfl (v' := q.Live) (cells' := cBool) (l1 := []) (l3 := (cPl q).drop 1) rfl rfl ?_))
    have e1 : (q.Live && decide (q.Cap = c)) = isCap c e := by
      cases e with
      | none => have : q.Live = false := ok; rw [this]; rfl
      | some v =>
        obtain ⟨t, ks⟩ := v
        rw [ok.1, ok.2.1]; rfl
    refine w_joinV (isCap c e) (fun j hj => ?_) ?_
    · rw [← e1] at hj
      refine w_if (fun e => ?_) fun e => ?_
      · refine w_deref (w_load a.f0 (w_field rp_len a.buf.arr h1 rfl (v' := q.Cap) (cells' := S_api_Cap.cells) (l1 := (cPl q).take 1) (l3 := (cPl q).drop 4) rfl rfl ?_))
        rw [cap_eqB]
        rw [e, Bool.true_and] at hj; exact hj
      · rw [e] at hj; exact hj
    · refine w_if (fun e' => ?_) fun e' => ?_
      · have : findE es c = some i := by
          unfold findE
          rw [List.findIdx?_eq_some_iff_getElem]
          refine ⟨hil, by rw [List.getElem?_eq_getElem hil] at h2; cases h2; exact e', fun j hj => ?_⟩
          rw [hno j hj _ (List.getElem?_eq_getElem (by omega))]; decide
        rw [this] at y
        exact y
      · refine more _ _ hil ⟨rfl, ia1 i (by omega), fun j hj e'' he => ?_⟩
        by_cases z : j = i
        · subst z; rw [h2] at he; cases he; exact e'
        · exact hno j (by omega) _ he
  · have d : ¬ (i : Int) < (s.len : Int) := d
    have : findE es c = none := by
      unfold findE
      rw [List.findIdx?_eq_none_iff]
      intro e he
      obtain ⟨j, hj⟩ := List.mem_iff_getElem?.1 he
      exact hno j (by have := lt_of_get hj; omega) e hj
    rw [this] at y
    exact y
theorem t_Ris (x : Ref h p ev G es) {i : Int} {K : Bool → H → Prop} (y : K (atE es i).isSome h) : m_ref11_Catalogue_is (some ⟨p, 0, none⟩) i K h := by
  obtain ⟨s, pl, a, b, _⟩ := x.ex
  have hw := x.wf.len
  have hl := a.buf.len
  have hb := b.len
  unfold m_ref11_Catalogue_is
  refine w_joinV (decide (0 ≤ i ∧ i < (es.length : Int))) (fun j hj => ?_) ?_
  · refine w_if' (fun q => w_deref (w_load a.f0 ?_)) fun q => ?_
    · have e : decide (i < (s.len : Int)) = decide (0 ≤ i ∧ i < (es.length : Int)) := by rw [decide_eq_decide]; constructor <;> omega
      rw [e]; exact hj
    · rw [decide_eq_false (by omega)] at hj; exact hj
  · refine w_if' (fun q => ?_) fun q => ?_
    · obtain ⟨n, rfl⟩ : ∃ n : Nat, i = n := ⟨i.toNat, by omega⟩
      have hn : n < es.length := by omega
      obtain ⟨q, e, h1, h2, ok⟩ := b.place hn
      refine w_deref (w_load a.f0 (w_field rp_len a.buf.arr h1 rfl (v' := q.Live) (cells' := cBool) (l1 := []) (l3 := (cPl q).drop 1) rfl rfl ?_))
      rw [atE_nat, h2] at y
      cases e with
      | none => have : q.Live = false := ok; rw [this]; exact y
      | some v => rw [ok.1]; exact y
    · have e : atE es i = none := by
        unfold atE
        split
        · rw [List.getElem?_eq_none (by omega)]; rfl
        · rfl
      rw [e] at y; exact y
theorem t_RAt (x : Ref h p ev G es) {i : Int} {K : S_api_Token × Bool → H → Prop} (y : K (atOut es i) h) : m_ref11_Catalogue_At (some ⟨p, 0, none⟩) i K h := by
  unfold m_ref11_Catalogue_At
  refine t_Ris x ?_
  obtain ⟨s, pl, a, b, _⟩ := x.ex
  unfold atOut at y
  cases e : atE es i with
  | none =>
    rw [e] at y
    exact w_ifT rfl y
  | some v =>
    obtain ⟨t, ks⟩ := v
    rw [e] at y
    obtain ⟨n, rfl, hn⟩ := atE_has.1 e
    obtain ⟨q, h1, _, e1, e2, e3⟩ := b.has hn
    refine w_ifF rfl (w_deref (w_deref (w_deref (w_load a.f0 (w_field rp_len a.buf.arr h1 rfl (v' := q.Cap) (cells' := S_api_Cap.cells) (l1 := (cPl q).take 1) (l3 := (cPl q).drop 4) rfl rfl (w_load a.f0 (w_field rp_len a.buf.arr h1 rfl (v' := q.Rights) (cells' := cInt .i64) (l1 := (cPl q).take 4) (l3 := (cPl q).drop 5) rfl rfl (w_load a.f0 (w_field rp_len a.buf.arr h1 rfl (v' := q.Parent) (cells' := cInt .i64) (l1 := (cPl q).take 5) (l3 := (cPl q).drop 6) rfl rfl ?_)))))))))
    rw [e1, e2, e3]
    exact y
end
end Go.Proofs.Ytiajjcboddaenaa.K
