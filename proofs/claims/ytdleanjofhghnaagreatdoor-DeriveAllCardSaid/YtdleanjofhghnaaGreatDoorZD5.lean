/- deriveAll: true at every input, the arguments as they were: no condition. Part 5 of 6. -/
import Derived.Test.YtdleanjofhghnaaGreatDoorZD4
namespace Go.Proofs.YtdleanjofhghnaaGreatDoor.K
open Go
abbrev cPl := S_ref11_Place.cells
theorem rp_len : ∀ x, (cPl x).length = 7 := fun _ => rfl
def PlOk (q : S_ref11_Place) : En → Prop
  | none => q.Live = false
  | some (t, _) => q.Live = true ∧ q.Cap = t.Cap ∧ q.Rights = t.Rights ∧ q.Parent = t.Parent
def whenP (pl : List S_ref11_Place) (z : Int) : Int := ((pl[z.toNat]?).map S_ref11_Place.When).getD 0
structure RefRel (es : List En) (pl : List S_ref11_Place) (ev : Nat) : Prop where
  len : pl.length = es.length
  ent : ∀ (i : Nat) q e, pl[i]? = some q → es[i]? = some e → PlOk q e
  when : ∀ i t ks, Has es i t ks → 0 ≤ whenP pl (i : Int) ∧ whenP pl (i : Int) < ev
  kids : ∀ i t ks, Has es i t ks → ks.Pairwise fun a b => whenP pl a < whenP pl b
structure RefAt (h : H) (p : Nat) (s : Sl) (pl : List S_ref11_Place) (ev : Nat) : Prop where
  cell : h p = some (.cells (S_ref11_Catalogue.cells ⟨s, ev⟩).toArray N_ref11_Catalogue (0, 0))
  buf : Buf cPl 7 N_ref11_Place h s pl
structure Ref (h : H) (p : Nat) (ev : Nat) (G : Nat → Prop) (es : List En) : Prop where
  ex : ∃ s pl, RefAt h p s pl ev ∧ RefRel es pl ev ∧ ∀ c, G c ↔ c = p ∨ s.foot c
  wf : CWF es
theorem RefRel.place {es : List En} {pl ev} (x : RefRel es pl ev) {i : Nat} (hi : i < es.length) : ∃ (q : S_ref11_Place) (e : En), pl[i]? = some q ∧ es[i]? = some e ∧ PlOk q e := by
  have h1 := List.getElem?_eq_getElem (l := pl) (i := i) (by have := x.len; omega)
  have h2 := List.getElem?_eq_getElem (l := es) (i := i) hi
  exact ⟨_, _, h1, h2, x.ent _ _ _ h1 h2⟩
theorem RefRel.has {es : List En} {pl ev} (x : RefRel es pl ev) {i : Nat} {t ks} (h : Has es i t ks) : ∃ q : S_ref11_Place, pl[i]? = some q ∧ q.Live = true ∧ q.Cap = t.Cap ∧ q.Rights = t.Rights ∧ q.Parent = t.Parent := by
  obtain ⟨q, e, h1, h2, ok⟩ := x.place h.lt
  unfold Has at h
  rw [h2] at h
  cases h
  exact ⟨q, h1, ok⟩
theorem RefRel.live {es : List En} {pl ev} (x : RefRel es pl ev) {i : Nat} {q : S_ref11_Place} (h : pl[i]? = some q) (e : q.Live = true) : ∃ (t : S_api_Token) (ks : List Int), Has es i t ks ∧ q.Cap = t.Cap ∧ q.Rights = t.Rights ∧ q.Parent = t.Parent := by
  obtain ⟨q', o, h1, h2, ok⟩ := x.place (by have := lt_of_get h; have := x.len; omega : i < es.length)
  rw [h] at h1; cases h1
  cases o with
  | none => have : q.Live = false := ok; rw [this] at e; cases e
  | some v => obtain ⟨t, ks⟩ := v; exact ⟨t, ks, h2, ok.2⟩
theorem RefRel.dead {es : List En} {pl ev} (x : RefRel es pl ev) {i : Nat} {q : S_ref11_Place} (h : pl[i]? = some q) (e : q.Live = false) : es[i]? = some none := by
  obtain ⟨q', o, h1, h2, ok⟩ := x.place (by have := lt_of_get h; have := x.len; omega : i < es.length)
  rw [h] at h1; cases h1
  cases o with
  | none => exact h2
  | some v => obtain ⟨t, ks⟩ := v; have := ok.1; rw [e] at this; cases this
theorem capsG_append : ∀ (a b : List En) (k : Nat), capsG k (a ++ b) = capsG k a ++ capsG (k + a.length) b := by
  intro a
  induction a with
  | nil => intro b k; rfl
  | cons e r ih =>
    intro b k
    have := ih b (k + 1)
    rw [List.length_cons, show k + (r.length + 1) = k + 1 + r.length by omega]
    cases e with
    | none => exact this
    | some p =>
      obtain ⟨u, us⟩ := p
      rw [List.cons_append, capsG, capsG, this]; rfl
section
variable {h : H} {p : Nat} {s : Sl} {pl : List S_ref11_Place} {ev : Nat} {es : List En}
theorem RefAt.f0 (x : RefAt h p s pl ev) : At h ((⟨p, 0, none⟩ : Addr).add 0) (cSl s) := by
  rw [pt_add]; exact At.own (l1 := []) (l3 := [Value.int .i64 ev]) x.cell rfl
theorem RefAt.f1 (x : RefAt h p s pl ev) : At h ((⟨p, 0, none⟩ : Addr).add 1) (cInt .i64 (ev : Int)) := by
  rw [pt_add]; exact At.own (l1 := [Sl.val s]) (l3 := []) x.cell rfl
theorem RefAt.apart (x : RefAt h p s pl ev) : ¬ s.foot p := fun f => (x.buf.typed f).ne (Typed.of x.cell) (by decide) rfl
theorem RefAt.keep {h' : H} (x : RefAt h p s pl ev) (k : Keeps h h') : RefAt h' p s pl ev := ⟨k _ _ x.cell, x.buf.keep k⟩
theorem RefAt.but {h' : H} {E : Nat → Prop} (x : RefAt h p s pl ev) (k : But E h h') (f : ∀ c, E c → c ≠ p ∧ ¬ s.foot c) : RefAt h' p s pl ev := ⟨k _ _ x.cell fun q => (f _ q).1 rfl, x.buf.but k fun a ha q => (f _ q).2 ⟨a, ha, rfl⟩⟩
end
section
variable {h : H} {p : Nat} {ev : Nat} {G : Nat → Prop} {es : List En}
theorem Ref.keep {h' : H} (x : Ref h p ev G es) (k : Keeps h h') : Ref h' p ev G es := by
  obtain ⟨s, pl, a, b, c⟩ := x.ex
  exact ⟨⟨s, pl, a.keep k, b, c⟩, x.wf⟩
theorem Ref.but {h' : H} {E : Nat → Prop} (x : Ref h p ev G es) (k : But E h h') (f : ∀ c, E c → ¬ G c) : Ref h' p ev G es := by
  obtain ⟨s, pl, a, b, c⟩ := x.ex
  exact ⟨⟨s, pl, a.but k fun z e => ⟨fun q => f z e ((c z).2 (.inl q)), fun q => f z e ((c z).2 (.inr q))⟩, b, c⟩, x.wf⟩
theorem Ref.has (x : Ref h p ev G es) {c : Nat} (f : G c) : h c ≠ none := by
  obtain ⟨s, pl, a, b, d⟩ := x.ex
  rcases (d c).1 f with q | q
  · rw [q, a.cell]; exact fun z => by cases z
  · exact a.buf.has q
theorem t_RNew {a0 a1 : Int} {K : Option Addr × Int → H → Prop} (bad : (a0 < 1 ∨ 256 < a0 ∨ a1 < 0 ∨ 64 < a1) → K (none, 16) h)
    (good : 0 ≤ a1 → a1 ≤ 64 → ∀ n : Nat, a0 = n → 1 ≤ n → n ≤ 256 → ∀ p G h', Ref h' p 0 G (List.replicate n none) → Keeps h h' → (∀ c, G c → h c = none) → K (some ⟨p, 0, none⟩, 0) h') : m_ref11_New a0 a1 K h := by
  unfold m_ref11_New
  refine w_if (fun c => bad ?_) fun c => ?_
  · simp only [Bool.or_eq_true, decide_eq_true_eq] at c; omega
  simp only [Bool.or_eq_false_iff, decide_eq_false_iff_not] at c
  obtain ⟨n, rfl⟩ : ∃ n : Nat, a0 = n := ⟨a0.toNat, by omega⟩
  refine w_make rp_len ⟨false, ⟨0, ⟨0, 0⟩⟩, 0, 0, 0⟩ rfl rfl rfl (by omega) (by omega) fun s h1 bu k1 f1 _ => w_box fun p h2 f2 c2 k2 => ?_
  have no : ∀ {i t ks}, ¬ Has (List.replicate n none) i t ks := fun h => by
    have := List.eq_of_mem_replicate (List.mem_of_getElem? h)
    cases this
  refine good (by omega) (by omega) n rfl (by omega) (by omega) p _ h2 ⟨⟨s, _, ⟨c2, bu.keep k2⟩, ⟨by simp, fun i q e h1 h2 => ?_, fun i t ks h => (no h).elim, fun i t ks h => (no h).elim⟩, fun _ => Iff.rfl⟩, CWF.empty (by omega) (by omega)⟩ (k1.trans k2) fun c f => ?_
  · obtain rfl := List.eq_of_mem_replicate (List.mem_of_getElem? h1)
    obtain rfl := List.eq_of_mem_replicate (List.mem_of_getElem? h2)
    rfl
  · rcases f with rfl | f
    · exact k1.fresh f2
    · exact f1 c f
theorem w_RValid {r : Int} {k : Bool → H → Prop} (y : k (decide (1 ≤ r ∧ r ≤ 31)) h) : mPure (m_ref11_Valid r) k h := by
  refine w_pure _ (fun _ _ z => ?_) y
  unfold m_ref11_Valid
  rw [Bool.decide_and] at z
  exact z
theorem part_or : ∀ a b : Fin 32, decide (iOr .i64 (a.val : Int) (b.val : Int) = (b.val : Int)) = decide (iAnd .i64 (a.val : Int) (b.val : Int) = (a.val : Int)) := by decide +kernel
theorem w_RPart {r u : Int} (hu : 1 ≤ u ∧ u ≤ 31) {k : Bool → H → Prop} (y : k (partOf r u) h) : mPure (m_ref11_Part r u) k h := by
  refine w_pure _ (fun _ _ z => ?_) y
  unfold m_ref11_Part
  refine w_RValid ?_
  have e : partOf r u = (decide (1 ≤ r ∧ r ≤ 31) && decide (iOr .i64 r u = u)) := by
    unfold partOf
    rw [decide_eq_true hu, Bool.true_and]
    by_cases hr : 1 ≤ r ∧ r ≤ 31
    · have := part_or ⟨r.toNat, by omega⟩ ⟨u.toNat, by omega⟩
      simp only [Int.toNat_of_nonneg (by omega : 0 ≤ r), Int.toNat_of_nonneg (by omega : 0 ≤ u)] at this
      rw [this]
    · rw [decide_eq_false hr, Bool.false_and, Bool.false_and]
  rw [e] at z
  exact z
theorem t_RIn (x : Ref h p ev G es) {o : Int} {K : Int → H → Prop} (y : K (cnt es o : Nat) h) : m_ref11_Catalogue_In (some ⟨p, 0, none⟩) o K h := by
  obtain ⟨s, pl, a, b, _⟩ := x.ex
  have hw := x.wf.len
  have hl := a.buf.len
  have hb := b.len
  unfold m_ref11_Catalogue_In
  refine w_for es.length (fun i (z : Int × Int) h' => h = h' ∧ z = ((cnt (es.take i) o : Int), (i : Int))) ?_ ⟨rfl, rfl⟩
  rintro rec i z h' hi ⟨rfl, rfl⟩ more
  have hcl := cnt_le (es.take i) o
  rw [List.length_take] at hcl
  refine w_deref (w_load a.f0 (w_if' (fun c => ?_) fun c => ?_))
  · have c : (i : Int) < (s.len : Int) := c
    have hil : i < es.length := by omega
    obtain ⟨q, e, h1, h2, ok⟩ := b.place hil
    refine w_deref (w_load a.f0 (w_field rp_len a.buf.arr h1 rfl (v' := q.Live) (cells' := cBool) (l1 := []) (l3 := (cPl q).drop 1) rfl rfl ?_))
    have e1 : cnt (es.take (i + 1)) o = cnt (es.take i) o + if (q.Live && decide (q.Cap.Obj = o)) = true then 1 else 0 := by
      unfold cnt
      rw [List.take_add_one, h2, capsG_append, List.countP_append]
      congr 1
      cases e with
      | none => have : q.Live = false := ok; rw [this]; rfl
      | some v =>
        obtain ⟨t, ks⟩ := v
        rw [ok.1, ok.2.1]
        show List.countP _ [(t.Cap, _)] = _
        rw [List.countP_cons]; simp
    refine w_joinV (q.Live && decide (q.Cap.Obj = o)) (fun j hj => ?_) ?_
    · refine w_if (fun e => ?_) fun e => ?_
      · refine w_deref (w_load a.f0 (w_idx rp_len a.buf.arr h1 rfl fun ad _ ha => w_load (v := q.Cap.Obj) (cells := cInt .i64) (At.head (l2 := ((cPl q).drop 2)) ?_) ?_))
        · rw [show (ad.add 1).add 0 = ad.add 1 from add_zero _]
          exact At.sub (l1 := (cPl q).take 1) (l3 := []) (by rw [List.append_nil]; exact ha) rfl
        · rw [e, Bool.true_and] at hj; exact hj
      · rw [e] at hj; exact hj
    · refine w_if (fun e => ?_) fun e => ?_
      · rw [e, if_pos rfl] at e1
        refine more _ _ hil ⟨rfl, ?_⟩
        show (iAdd .i64 _ 1, iAdd .i64 _ 1) = _
        rw [ia1 _ (by omega), ia1 _ (by omega), e1]
      · rw [e, if_neg (by decide)] at e1
        refine more _ _ hil ⟨rfl, ?_⟩
        show (_, iAdd .i64 _ 1) = _
        rw [ia1 _ (by omega), e1]; rfl
  · have c : ¬ (i : Int) < (s.len : Int) := c
    obtain rfl : i = es.length := by omega
    rw [List.take_length]
    exact y
theorem t_RCount (x : Ref h p ev G es) {K : Int → H → Prop} (y : K ((capsG 0 es).length : Nat) h) : m_ref11_Catalogue_Count (some ⟨p, 0, none⟩) K h := by
  obtain ⟨s, pl, a, b, _⟩ := x.ex
  have hw := x.wf.len
  have hl := a.buf.len
  have hb := b.len
  unfold m_ref11_Catalogue_Count
  refine w_for es.length (fun i (z : Int × Int) h' => h = h' ∧ z = (((capsG 0 (es.take i)).length : Int), (i : Int))) ?_ ⟨rfl, rfl⟩
  rintro rec i z h' hi ⟨rfl, rfl⟩ more
  have hcl := capsG_le (es.take i) 0
  rw [List.length_take] at hcl
  refine w_deref (w_load a.f0 (w_if' (fun c => ?_) fun c => ?_))
  · have c : (i : Int) < (s.len : Int) := c
    have hil : i < es.length := by omega
    obtain ⟨q, e, h1, h2, ok⟩ := b.place hil
    refine w_deref (w_load a.f0 (w_field rp_len a.buf.arr h1 rfl (v' := q.Live) (cells' := cBool) (l1 := []) (l3 := (cPl q).drop 1) rfl rfl ?_))
    have e1 : (capsG 0 (es.take (i + 1))).length = (capsG 0 (es.take i)).length + if q.Live = true then 1 else 0 := by
      rw [List.take_add_one, h2, capsG_append, List.length_append]
      congr 1
      cases e with
      | none => have : q.Live = false := ok; rw [this]; rfl
      | some v =>
        obtain ⟨t, ks⟩ := v
        rw [ok.1]; rfl
    refine w_if (fun e => ?_) fun e => ?_
    · rw [e, if_pos rfl] at e1
      refine more _ _ hil ⟨rfl, ?_⟩
      show (iAdd .i64 _ 1, iAdd .i64 _ 1) = _
      rw [ia1 _ (by omega), ia1 _ (by omega), e1]
    · rw [e, if_neg (by decide)] at e1
      refine more _ _ hil ⟨rfl, ?_⟩
      show (_, iAdd .i64 _ 1) = _
      rw [ia1 _ (by omega), e1]; rfl
  · have c : ¬ (i : Int) < (s.len : Int) := c
    obtain rfl : i = es.length := by omega
    rw [List.take_length]
    exact y
theorem t_RFind (x : Ref h p ev G es) {c : S_api_Cap} {K : Int × Bool → H → Prop} (y : K (((findE es c).map fun n : Nat => (n : Int)).getD 0, (findE es c).isSome) h) : m_ref11_Catalogue_Find (some ⟨p, 0, none⟩) c K h := by
  obtain ⟨s, pl, a, b, _⟩ := x.ex
  have hw := x.wf.len
  have hl := a.buf.len
  have hb := b.len
  unfold m_ref11_Catalogue_Find
  refine w_for es.length (fun i (z : Int) h' => h = h' ∧ z = (i : Int) ∧ ∀ j, j < i → ∀ e, es[j]? = some e → isCap c e = false) ?_ ⟨rfl, rfl, fun j hj => absurd hj (Nat.not_lt_zero _)⟩
  rintro rec i z h' hi ⟨rfl, rfl, hno⟩ more
  refine w_deref (w_load a.f0 (w_if' (fun d => ?_) fun d => ?_))
  · have d : (i : Int) < (s.len : Int) := d
    have hil : i < es.length := by omega
    obtain ⟨q, e, h1, h2, ok⟩ := b.place hil
    refine w_deref (w_load a.f0 (w_field rp_len a.buf.arr h1 rfl (v' := q.Live) (cells' := cBool) (l1 := []) (l3 := (cPl q).drop 1) rfl rfl ?_))
    have e1 : (q.Live && decide (q.Cap = c)) = isCap c e := by
      cases e with
      | none => have : q.Live = false := ok; rw [this]; rfl
      | some v =>
        obtain ⟨t, ks⟩ := v
        rw [ok.1, ok.2.1]; rfl
    refine w_joinV (isCap c e) (fun j hj => ?_) ?_
    · rw [← e1] at hj
      refine w_if (fun e => ?_) fun e => ?_
      · refine w_deref (w_load a.f0 (w_field rp_len a.buf.arr h1 rfl (v' := q.Cap) (cells' := S_api_Cap.cells) (l1 := (cPl q).take 1) (l3 := (cPl q).drop 4) rfl rfl ?_))
        rw [cap_eqB]
        rw [e, Bool.true_and] at hj; exact hj
      · rw [e] at hj; exact hj
    · refine w_if (fun e' => ?_) fun e' => ?_
      · have : findE es c = some i := by
          unfold findE
          rw [List.findIdx?_eq_some_iff_getElem]
          refine ⟨hil, by rw [List.getElem?_eq_getElem hil] at h2; cases h2; exact e', fun j hj => ?_⟩
          rw [hno j hj _ (List.getElem?_eq_getElem (by omega))]; decide
        rw [this] at y
        exact y
      · refine more _ _ hil ⟨rfl, ia1 i (by omega), fun j hj e'' he => ?_⟩
        by_cases z : j = i
        · subst z; rw [h2] at he; cases he; exact e'
        · exact hno j (by omega) _ he
  · have d : ¬ (i : Int) < (s.len : Int) := d
    have : findE es c = none := by
      unfold findE
      rw [List.findIdx?_eq_none_iff]
      intro e he
      obtain ⟨j, hj⟩ := List.mem_iff_getElem?.1 he
      exact hno j (by have := lt_of_get hj; omega) e hj
    rw [this] at y
    exact y
theorem t_Ris (x : Ref h p ev G es) {i : Int} {K : Bool → H → Prop} (y : K (atE es i).isSome h) : m_ref11_Catalogue_is (some ⟨p, 0, none⟩) i K h := by
  obtain ⟨s, pl, a, b, _⟩ := x.ex
  have hw := x.wf.len
  have hl := a.buf.len
  have hb := b.len
  unfold m_ref11_Catalogue_is
  refine w_joinV (decide (0 ≤ i ∧ i < (es.length : Int))) (fun j hj => ?_) ?_
  · refine w_if' (fun q => w_deref (w_load a.f0 ?_)) fun q => ?_
    · have e : decide (i < (s.len : Int)) = decide (0 ≤ i ∧ i < (es.length : Int)) := by rw [decide_eq_decide]; constructor <;> omega
      rw [e]; exact hj
    · rw [decide_eq_false (by omega)] at hj; exact hj
  · refine w_if' (fun q => ?_) fun q => ?_
    · obtain ⟨n, rfl⟩ : ∃ n : Nat, i = n := ⟨i.toNat, by omega⟩
      have hn : n < es.length := by omega
      obtain ⟨q, e, h1, h2, ok⟩ := b.place hn
      refine w_deref (w_load a.f0 (w_field rp_len a.buf.arr h1 rfl (v' := q.Live) (cells' := cBool) (l1 := []) (l3 := (cPl q).drop 1) rfl rfl ?_))
      rw [atE_nat, h2] at y
      cases e with
      | none => have : q.Live = false := ok; rw [this]; exact y
      | some v => rw [ok.1]; exact y
    · have e : atE es i = none := by
        unfold atE
        split
        · rw [List.getElem?_eq_none (by omega)]; rfl
        · rfl
      rw [e] at y; exact y
theorem t_RAt (x : Ref h p ev G es) {i : Int} {K : S_api_Token × Bool → H → Prop} (y : K (atOut es i) h) : m_ref11_Catalogue_At (some ⟨p, 0, none⟩) i K h := by
  unfold m_ref11_Catalogue_At
  refine t_Ris x ?_
  obtain ⟨s, pl, a, b, _⟩ := x.ex
  unfold atOut at y
  cases e : atE es i with
  | none =>
    rw [e] at y
    exact w_ifT rfl y
  | some v =>
    obtain ⟨t, ks⟩ := v
    rw [e] at y
    obtain ⟨n, rfl, hn⟩ := atE_has.1 e
    obtain ⟨q, h1, _, e1, e2, e3⟩ := b.has hn
    refine w_ifF rfl (w_deref (w_deref (w_deref (w_load a.f0 (w_field rp_len a.buf.arr h1 rfl (v' := q.Cap) (cells' := S_api_Cap.cells) (l1 := (cPl q).take 1) (l3 := (cPl q).drop 4) rfl rfl (w_load a.f0 (w_field rp_len a.buf.arr h1 rfl (v' := q.Rights) (cells' := cInt .i64) (l1 := (cPl q).take 4) (l3 := (cPl q).drop 5) rfl rfl (w_load a.f0 (w_field rp_len a.buf.arr h1 rfl (v' := q.Parent) (cells' := cInt .i64) (l1 := (cPl q).take 5) (l3 := (cPl q).drop 6) rfl rfl ?_)))))))))
    rw [e1, e2, e3]
    exact y
end
theorem whenP_nat (pl : List S_ref11_Place) (i : Nat) : whenP pl (i : Int) = ((pl[i]?).map S_ref11_Place.When).getD 0 := by
  unfold whenP; rw [Int.toNat_natCast]
theorem whenP_set {pl : List S_ref11_Place} {n : Nat} {X : S_ref11_Place} (hn : n < pl.length) (i : Nat) : whenP (pl.set n X) (i : Int) = if i = n then X.When else whenP pl (i : Int) := by
  rw [whenP_nat, whenP_nat, List.getElem?_set]
  by_cases e : n = i
  · subst e; rw [if_pos rfl, if_pos hn, if_pos rfl]; rfl
  · rw [if_neg e, if_neg (fun z => e z.symm)]
theorem RefRel.root {es : List En} (w : CWF es) {pl ev} (x : RefRel es pl ev) {n : Nat} (hn : es[n]? = some none) {c : S_api_Cap} {r : Int} : RefRel (rootE es n ⟨c, r, -1⟩) (pl.set n ⟨true, c, r, -1, ev⟩) (ev + 1) := by
  have hlt := lt_of_get hn
  have hlp : n < pl.length := by rw [x.len]; exact hlt
  have H := fun {i t ks} => has_set (es := es) (n := n) hlt (e := some (⟨c, r, -1⟩, [])) (i := i) (t := t) (ks := ks)
  have neN : ∀ {i t ks}, Has es i t ks → i ≠ n := fun h e => by subst e; unfold Has at h; rw [hn] at h; cases h
  refine ⟨by unfold rootE; rw [List.length_set, List.length_set]; exact x.len, fun i q e h1 h2 => ?_, fun i t ks h => ?_, fun i t ks h => ?_⟩
  · unfold rootE at h2
    rw [List.getElem?_set] at h1 h2
    by_cases z : n = i
    · rw [if_pos z, if_pos hlp] at h1
      rw [if_pos z, if_pos hlt] at h2
      cases h1; cases h2; exact ⟨rfl, rfl, rfl, rfl⟩
    · rw [if_neg z] at h1 h2
      exact x.ent _ _ _ h1 h2
  · rw [whenP_set hlp]
    rcases H.1 h with ⟨rfl, _⟩ | ⟨z, h⟩
    · rw [if_pos rfl]; show 0 ≤ (ev : Int) ∧ (ev : Int) < ((ev + 1 : Nat) : Int); omega
    · rw [if_neg z]; have := x.when _ _ _ h; omega
  · rcases H.1 h with ⟨rfl, z⟩ | ⟨z, h⟩
    · cases z; exact List.Pairwise.nil
    · refine (x.kids _ _ _ h).imp_of_mem fun {a b} ha hb hab => ?_
      obtain ⟨j, u, us, rfl, hj, _⟩ := w.down _ _ _ h _ ha
      obtain ⟨j', u', us', rfl, hj', _⟩ := w.down _ _ _ h _ hb
      rw [whenP_set hlp, whenP_set hlp, if_neg (neN hj), if_neg (neN hj')]; exact hab
theorem RefRel.child {es : List En} (w : CWF es) {pl ev} (x : RefRel es pl ev) {q n : Nat} {u us} (hq : Has es q u us) (hn : es[n]? = some none) {c : S_api_Cap} {r : Int} : RefRel (childE es q n ⟨c, r, (q : Int)⟩) (pl.set n ⟨true, c, r, (q : Int), ev⟩) (ev + 1) := by
  have hlt := lt_of_get hn
  have hlp : n < pl.length := by rw [x.len]; exact hlt
  have H := fun {i v vs} => has_child (t := ⟨c, r, (q : Int)⟩) (i := i) (v := v) (vs := vs) hq hn
  have neN : ∀ {i t ks}, Has es i t ks → i ≠ n := fun h e => by subst e; unfold Has at h; rw [hn] at h; cases h
  have e1 : (childE es q n ⟨c, r, (q : Int)⟩).length = es.length := by unfold childE; rw [hq]; simp only [List.length_set]
  have pw : ∀ {i t ks}, Has es i t ks → ks.Pairwise fun a b => whenP (pl.set n ⟨true, c, r, (q : Int), ev⟩) a < whenP (pl.set n ⟨true, c, r, (q : Int), ev⟩) b := fun {i t ks} h => by
    refine (x.kids _ _ _ h).imp_of_mem fun {a b} ha hb hab => ?_
    obtain ⟨j, u, us, rfl, hj, _⟩ := w.down _ _ _ h _ ha
    obtain ⟨j', u', us', rfl, hj', _⟩ := w.down _ _ _ h _ hb
    rw [whenP_set hlp, whenP_set hlp, if_neg (neN hj), if_neg (neN hj')]; exact hab
  refine ⟨by rw [e1, List.length_set]; exact x.len, fun i p e h1 h2 => ?_, fun i t ks h => ?_, fun i t ks h => ?_⟩
  · rw [List.getElem?_set] at h1
    cases e with
    | none =>
      have hi : i < es.length := by have := lt_of_get h2; omega
      have hni : i ≠ n := fun z => by
        have := (H (i := i) (v := ⟨c, r, (q : Int)⟩) (vs := [])).2 (.inl ⟨z, rfl, rfl⟩)
        unfold Has at this; rw [h2] at this; cases this
      rw [if_neg (fun z => hni z.symm)] at h1
      have : es[i]? = some none := by
        rw [List.getElem?_eq_getElem hi]
        cases e : es[i] with
        | none => rfl
        | some v =>
          obtain ⟨t, ks⟩ := v
          have hh : Has es i t ks := by unfold Has; rw [List.getElem?_eq_getElem hi, e]
          by_cases z : i = q
          · have := (H (i := i)).2 (.inr (.inl ⟨z, rfl, rfl⟩))
            unfold Has at this; rw [h2] at this; cases this
          · have := (H (i := i)).2 (.inr (.inr ⟨hni, z, hh⟩))
            unfold Has at this; rw [h2] at this; cases this
      exact x.ent _ _ _ h1 this
    | some v =>
      obtain ⟨t, ks⟩ := v
      rcases H.1 h2 with ⟨rfl, rfl, _⟩ | ⟨rfl, rfl, _⟩ | ⟨z1, z2, hh⟩
      · rw [if_pos rfl, if_pos hlp] at h1
        cases h1; exact ⟨rfl, rfl, rfl, rfl⟩
      · rw [if_neg (fun z => neN hq z.symm)] at h1
        exact x.ent _ _ (some (_, us)) h1 hq
      · rw [if_neg (fun z => z1 z.symm)] at h1
        exact x.ent _ _ _ h1 hh
  · rw [whenP_set hlp]
    rcases H.1 h with ⟨rfl, _⟩ | ⟨rfl, rfl, _⟩ | ⟨z, _, h⟩
    · rw [if_pos rfl]; show 0 ≤ (ev : Int) ∧ (ev : Int) < ((ev + 1 : Nat) : Int); omega
    · rw [if_neg (neN hq)]; have := x.when _ _ _ hq; omega
    · rw [if_neg z]; have := x.when _ _ _ h; omega
  · rcases H.1 h with ⟨_, _, rfl⟩ | ⟨rfl, rfl, rfl⟩ | ⟨_, _, h⟩
    · exact List.Pairwise.nil
    · rw [List.pairwise_append]
      refine ⟨pw hq, List.pairwise_singleton _ _, fun a ha b hb => ?_⟩
      obtain rfl := List.mem_singleton.1 hb
      obtain ⟨j, v, vs, rfl, hj, _⟩ := w.down _ _ _ hq _ ha
      rw [whenP_set hlp, whenP_set hlp, if_neg (neN hj), if_pos rfl]
      exact (x.when _ _ _ hj).2
    · exact pw h
section
variable {h : H} {p : Nat} {ev : Nat} {G : Nat → Prop} {es : List En}
theorem t_Rput {s : Sl} {pl : List S_ref11_Place} (a : RefAt h p s pl ev) (b : RefRel es pl ev) (hw : es.length ≤ 256) (he : ev < 9223372036854775807) {c : S_api_Cap} {r q : Int} {K : Int × Int → H → Prop} (no : freeE es = none → K (0, 10) h)
    (y : ∀ n, freeE es = some n → ∀ h', RefAt h' p s (pl.set n ⟨true, c, r, q, ev⟩) (ev + 1) → But (fun z => z = p ∨ s.foot z) h h' → (∀ c, h' c = none → h c = none) → K ((n : Int), 0) h') : m_ref11_Catalogue_put (some ⟨p, 0, none⟩) c r q K h := by
  have hl := a.buf.len
  have hb := b.len
  unfold m_ref11_Catalogue_put
  refine w_for es.length (fun i (z : Int) h' => h = h' ∧ z = (i : Int) ∧ ∀ j, j < i → ∀ e, es[j]? = some e → e ≠ none) ?_ ⟨rfl, rfl, fun j hj => absurd hj (Nat.not_lt_zero _)⟩
  rintro rec i z h' hi ⟨rfl, rfl, hno⟩ more
  refine w_deref (w_load a.f0 (w_if' (fun d => ?_) fun d => ?_))
  · have d : (i : Int) < (s.len : Int) := d
    have hil : i < es.length := by omega
    obtain ⟨P, e, h1, h2, ok⟩ := b.place hil
    refine w_deref (w_load a.f0 (w_field rp_len a.buf.arr h1 rfl (v' := P.Live) (cells' := cBool) (l1 := []) (l3 := (cPl P).drop 1) rfl rfl (w_if (fun e' => ?_) fun e' => ?_)))
    · have hlive : P.Live = false := by simpa using e'
      have hen := b.dead h1 hlive
      have hf : freeE es = some i := by
        unfold freeE freeU
        rw [List.findIdx?_eq_some_iff_getElem]
        refine ⟨by rw [List.length_map]; exact hil, ?_, fun j hj => ?_⟩
        · rw [List.getElem_map]
          rw [List.getElem?_eq_getElem hil] at hen
          cases hen' : es[i] with
          | none => rfl
          | some v => rw [hen'] at hen; cases hen
        · rw [List.getElem_map]
          have := hno j hj _ (List.getElem?_eq_getElem (by omega))
          cases hv : es[j] with
          | none => exact absurd hv this
          | some v => simp
      refine w_deref (w_deref (w_load a.f0 (w_load a.f1 (w_put rp_len a.buf (i := i) (by omega) rfl ⟨true, c, r, q, ev⟩ rfl fun h2 b2 k2 d2 => ?_))))
      have cell2 := k2 _ _ a.cell a.apart
      have a2 : RefAt h2 p s (pl.set i ⟨true, c, r, q, ev⟩) ev := ⟨cell2, b2⟩
      refine w_deref (w_load a2.f1 (w_deref ?_))
      have ev1 : iAdd .i64 (ev : Int) 1 = ((ev + 1 : Nat) : Int) := (iAdd_eq (by omega) (by omega)).trans (by omega)
      rw [ev1]
      refine w_store (b := p) (i := 1) (l1 := [Sl.val s]) (l2 := [Value.int .i64 ev]) (l3 := []) (t := N_ref11_Catalogue) (pt_add p 1) cell2 rfl rfl ?_
      refine y i hf _ ⟨upd_same _ _ _, b2.but (But.upd (F := (· = p)) rfl) fun a' ha z => (b2.typed ⟨a', ha, rfl⟩).ne (Typed.of cell2) (by decide) z⟩ ((k2.mono fun _ f => .inr f).trans (But.upd (F := (· = p)) rfl) fun _ z => .inl (.inl z)) fun z hz => d2 z (upd_none.1 hz).2
    · refine more _ _ hil ⟨rfl, ia1 i (by omega), fun j hj e'' he => ?_⟩
      by_cases z : j = i
      · subst z
        have hlive : P.Live = true := by simpa using e'
        rw [h2] at he; cases he
        intro z
        subst z
        have : P.Live = false := ok
        rw [this] at hlive; cases hlive
      · exact hno j (by omega) _ he
  · have d : ¬ (i : Int) < (s.len : Int) := d
    refine no ?_
    unfold freeE freeU
    rw [List.findIdx?_eq_none_iff]
    intro x hx
    obtain ⟨e, he, rfl⟩ := List.mem_map.1 hx
    obtain ⟨j, hj⟩ := List.mem_iff_getElem?.1 he
    have := hno j (by have := lt_of_get hj; omega) e hj
    cases e with
    | none => exact absurd rfl this
    | some v => rfl
theorem t_RRoot (x : Ref h p ev G es) (he : ev < 9223372036854775807) {c : S_api_Cap} {r : Int} {K : Int × Int → H → Prop} (y : ∀ G' h' ev', ev' ≤ ev + 1 → Ref h' p ev' G' (rootOut es c r).2 → KChg G G' h h' → K (rootOut es c r).1 h') : m_ref11_Catalogue_Root (some ⟨p, 0, none⟩) c r K h := by
  have wf := x.wf.rootOut c r
  have hw := x.wf.len
  unfold rootOut at y wf
  unfold m_ref11_Catalogue_Root
  refine w_RValid ?_
  by_cases hr : 1 ≤ r ∧ r ≤ 31
  · rw [if_pos hr] at y wf
    rw [decide_eq_true hr]
    refine w_ifF rfl (t_RIn x (w_if' (fun h0 => ?_) fun h0 => ?_))
    · rw [if_pos (by omega)] at y
      exact y _ _ ev (by omega) x (.refl _ _)
    · rw [if_neg (by omega)] at y wf
      obtain ⟨s, pl, a, b, g⟩ := x.ex
      refine t_Rput a b hw.2 he (fun hf => ?_) fun n hf h2 a2 k2 d2 => ?_
      · rw [hf] at y
        exact y _ _ ev (by omega) x (.refl _ _)
      · rw [hf] at y wf
        exact y G h2 (ev + 1) (Nat.le_refl _) ⟨⟨s, _, a2, b.root x.wf (freeE_some hf), g⟩, wf⟩ ⟨k2.mono fun c f => (g c).2 f, fun _ f => .inl f, d2⟩
  · rw [if_neg hr] at y
    rw [decide_eq_false hr]
    exact w_ifT rfl (y _ _ ev (by omega) x (.refl _ _))
theorem t_RChild (x : Ref h p ev G es) (he : ev < 9223372036854775807) {qi : Int} {c : S_api_Cap} {r : Int} {K : Int × Int → H → Prop} (y : ∀ G' h' ev', ev' ≤ ev + 1 → Ref h' p ev' G' (childOut es qi c r).2 → KChg G G' h h' → K (childOut es qi c r).1 h') : m_ref11_Catalogue_Child (some ⟨p, 0, none⟩) qi c r K h := by
  have wf := x.wf.childOut qi c r
  have hw := x.wf.len
  unfold childOut at y wf
  unfold m_ref11_Catalogue_Child
  refine t_Ris x ?_
  cases hqi : atE es qi with
  | none =>
    rw [hqi] at y
    exact w_ifT rfl (y _ _ ev (by omega) x (.refl _ _))
  | some v =>
    obtain ⟨u, us⟩ := v
    rw [hqi] at y wf
    obtain ⟨q, rfl, hq⟩ := atE_has.1 hqi
    simp only at y wf
    obtain ⟨s, pl, a, b, g⟩ := x.ex
    obtain ⟨P, h1, _, e1, e2, e3⟩ := b.has hq
    refine w_ifF rfl (w_deref (w_load a.f0 (w_idx rp_len a.buf.arr h1 rfl fun ad _ ha => w_load (v := P.Cap.Obj) (cells := cInt .i64) ?_ ?_)))
    · rw [show (ad.add 1).add 0 = ad.add 1 from add_zero _]
      exact At.head (l2 := (cPl P).drop 2) (At.sub (l1 := (cPl P).take 1) (l3 := []) (by rw [List.append_nil]; exact ha) rfl)
    rw [e1]
    by_cases ho : u.Cap.Obj = c.Obj
    · rw [if_pos ho] at y wf
      refine w_ifF (by simp [ho]) (w_deref (w_load a.f0 (w_field rp_len a.buf.arr h1 rfl (v' := P.Rights) (cells' := cInt .i64) (l1 := (cPl P).take 4) (l3 := (cPl P).drop 5) rfl rfl ?_)))
      rw [e2]
      refine w_RPart (x.wf.right _ _ _ hq) ?_
      cases hp : partOf r u.Rights with
      | false =>
        rw [if_neg (by rw [hp]; decide)] at y
        exact w_ifT rfl (y _ _ ev (by omega) x (.refl _ _))
      | true =>
        rw [if_pos hp] at y wf
        refine w_ifF rfl (t_RFind x ?_)
        cases hf : findE es c with
        | some v =>
          rw [hf] at y
          exact w_ifT rfl (y _ _ ev (by omega) x (.refl _ _))
        | none =>
          rw [hf] at y wf
          simp only [Option.isSome_none, Bool.false_eq_true, if_false] at y wf
          refine w_ifF rfl (t_Rput a b hw.2 he (fun hf => ?_) fun n hf h2 a2 k2 d2 => ?_)
          · rw [hf] at y
            exact y _ _ ev (by omega) x (.refl _ _)
          · rw [hf] at y wf
            dsimp only at y wf
            rw [Int.toNat_natCast] at y wf
            exact y G h2 (ev + 1) (Nat.le_refl _) ⟨⟨s, _, a2, b.child x.wf hq (freeE_some hf), g⟩, wf⟩ ⟨k2.mono fun c f => (g c).2 f, fun _ f => .inl f, d2⟩
    · rw [if_neg ho] at y
      exact w_ifT (by simp [ho]) (y _ _ ev (by omega) x (.refl _ _))
theorem mono_idx {f : Int → Int} {ks : List Int} (x : ks.Pairwise fun a b => f a < f b) {i j : Nat} {a b : Int} (hi : ks[i]? = some a) (hj : ks[j]? = some b) : f a < f b ↔ i < j := by
  obtain ⟨li, ei⟩ := List.getElem?_eq_some_iff.1 hi
  obtain ⟨lj, ej⟩ := List.getElem?_eq_some_iff.1 hj
  rw [List.pairwise_iff_getElem] at x
  constructor
  · intro h
    rcases Nat.lt_trichotomy i j with q | q | q
    · exact q
    · subst q; rw [ei] at ej; subst ej; omega
    · have := x j i lj li q; rw [ei, ej] at this; omega
  · intro h
    have := x i j li lj h; rw [ei, ej] at this; exact this
theorem t_Rchildren (x : Ref h p ev G es) {n : Nat} {t ks} (hn : Has es n t ks) {K : Sl → H → Prop} (y : ∀ s' h', Buf (cInt .i64) 1 N_int h' s' ks → Keeps h h' → (∀ c, s'.foot c → h c = none) → K s' h') : m_ref11_Catalogue_children (some ⟨p, 0, none⟩) (n : Int) K h := by
  have w := x.wf
  obtain ⟨s, pl, a, b, g⟩ := x.ex
  have hw := w.len
  have hl := a.buf.len
  have hb := b.len
  have hkl := w.kids_le hn
  unfold m_ref11_Catalogue_children
  refine w_for ks.length (fun j (z : Sl × Int) h' => Buf (cInt .i64) 1 N_int h' z.1 (ks.take j) ∧ (∀ (i' : Nat) k, ks[i']? = some k → (z.2 < whenP pl k ↔ j ≤ i')) ∧ Keeps h h' ∧ ∀ c, z.1.foot c → h c = none) ?_ ⟨Buf.nil, fun i' k hk => ?_, .refl _, fun c ⟨_, q, _⟩ => by cases q⟩
  rotate_left
  · obtain ⟨i, u, us, rfl, hi, _⟩ := w.down _ _ _ hn _ (List.mem_of_getElem? hk)
    have := (b.when _ _ _ hi).1
    show (-1 : Int) < _ ↔ _
    omega
  rintro rec j ⟨out, last⟩ h1 hj ⟨bu, hlast, kp, fo⟩ more
  have bu : Buf (cInt .i64) 1 N_int h1 out (ks.take j) := bu
  have hlast : ∀ (i' : Nat) k, ks[i']? = some k → (last < whenP pl k ↔ j ≤ i') := hlast
  have a1 := a.keep kp
  have toK : ∀ {i : Nat} {u us}, Has es i u us → u.Parent = n → last < whenP pl (i : Int) → ∃ i', ks[i']? = some (i : Int) ∧ j ≤ i' := fun {i u us} hi hp hw' => by
    rcases w.up _ _ _ hi with q | ⟨q, v, vs, e, hq, hm, _⟩
    · omega
    · obtain rfl : n = q := by omega
      obtain ⟨_, rfl⟩ := hn.uniq hq
      obtain ⟨i', hi'⟩ := List.mem_iff_getElem?.1 hm
      exact ⟨i', hi', (hlast _ _ hi').1 hw'⟩
  refine w_for es.length (fun i (z : Int × Int) h' => h1 = h' ∧ z.2 = (i : Int) ∧ ((z.1 = -1 ∧ ∀ m, m < i → ∀ u us, Has es m u us → u.Parent = n → ¬ last < whenP pl (m : Int)) ∨ ∃ m : Nat, z.1 = m ∧ (∃ u us, Has es m u us ∧ u.Parent = n ∧ last < whenP pl (m : Int)) ∧ ∀ m', m' < i → ∀ u us, Has es m' u us → u.Parent = n → last < whenP pl (m' : Int) → whenP pl (m : Int) ≤ whenP pl (m' : Int))) ?_ ⟨rfl, rfl, .inl ⟨rfl, fun m hm => absurd hm (Nat.not_lt_zero _)⟩⟩
  rintro rec' i ⟨best, iz⟩ h' hi ⟨rfl, ez, hbest⟩ more'
  have ez : iz = (i : Int) := ez
  subst ez
  have hbest : (best = -1 ∧ ∀ m, m < i → ∀ u us, Has es m u us → u.Parent = n → ¬ last < whenP pl (m : Int)) ∨ ∃ m : Nat, best = m ∧ (∃ u us, Has es m u us ∧ u.Parent = n ∧ last < whenP pl (m : Int)) ∧ ∀ m', m' < i → ∀ u us, Has es m' u us → u.Parent = n → last < whenP pl (m' : Int) → whenP pl (m : Int) ≤ whenP pl (m' : Int) := hbest
  refine w_deref (w_load a1.f0 (w_if' (fun d => ?_) fun d => ?_))
  · have d : (i : Int) < (s.len : Int) := d
    have hil : i < es.length := by omega
    obtain ⟨P, e, h1', h2, ok⟩ := b.place hil
    have hwP : whenP pl (i : Int) = P.When := by rw [whenP_nat, h1']; rfl
    have rdW : ∀ {k : Int → H → Prop}, k P.When h1 → mIdx s (i : Int) 7 (fun ad => mLoad (cInt .i64) (ad.add 6) k) h1 := fun z => w_field rp_len a1.buf.arr h1' rfl (v' := P.When) (cells' := cInt .i64) (l1 := (cPl P).take 6) (l3 := []) rfl rfl z
    refine w_deref (w_load a1.f0 (w_field rp_len a1.buf.arr h1' rfl (v' := P.Live) (cells' := cBool) (l1 := []) (l3 := (cPl P).drop 1) rfl rfl ?_))
    refine w_joinV (P.Live && decide (P.Parent = (n : Int))) (fun J hJ => ?_) ?_
    · refine w_if (fun e => ?_) fun e => ?_
      · refine w_deref (w_load a1.f0 (w_field rp_len a1.buf.arr h1' rfl (v' := P.Parent) (cells' := cInt .i64) (l1 := (cPl P).take 5) (l3 := (cPl P).drop 6) rfl rfl ?_))
        rw [e, Bool.true_and] at hJ; exact hJ
      · rw [e] at hJ; exact hJ
    refine w_joinV ((P.Live && decide (P.Parent = (n : Int))) && decide (last < P.When)) (fun J hJ => ?_) ?_
    · refine w_if (fun e => ?_) fun e => ?_
      · refine w_deref (w_load a1.f0 (rdW ?_))
        rw [e, Bool.true_and] at hJ; exact hJ
      · rw [e] at hJ; exact hJ
    by_cases q : ((P.Live && decide (P.Parent = (n : Int))) && decide (last < P.When)) = true
    · rw [q]
      rw [Bool.and_eq_true, Bool.and_eq_true, decide_eq_true_eq, decide_eq_true_eq] at q
      obtain ⟨⟨ql, qp⟩, qw⟩ := q
      obtain ⟨u, us, hu, _, _, ep⟩ := b.live h1' ql
      rw [← hwP] at qw
      have hPi : ∃ u us, Has es i u us ∧ u.Parent = n ∧ last < whenP pl (i : Int) := ⟨u, us, hu, ep.symm.trans qp, qw⟩
      rcases hbest with ⟨rfl, hno⟩ | ⟨m, rfl, hm, hmin⟩
      · refine w_join (w_ifT rfl (w_ifT rfl (w_ifT rfl (more' _ _ hil ⟨rfl, ia1 i (by omega), .inr ⟨i, rfl, hPi, fun m' hm' v vs hv hp hl' => ?_⟩⟩))))
        by_cases z : m' = i
        · subst z; exact Int.le_refl _
        · exact absurd hl' (hno m' (by omega) v vs hv hp)
      · obtain ⟨um, usm, hum, hpm, hwm⟩ := hm
        obtain ⟨Pm, hPm, _⟩ := b.has hum
        have hwPm : whenP pl (m : Int) = Pm.When := by rw [whenP_nat, hPm]; rfl
        refine w_join (w_ifT rfl (w_ifF (decide_eq_false (by omega)) (w_deref (w_deref (w_load a1.f0 (rdW (w_load a1.f0 (w_field rp_len a1.buf.arr hPm rfl (v' := Pm.When) (cells' := cInt .i64) (l1 := (cPl Pm).take 6) (l3 := []) rfl rfl (w_if' (fun lt => ?_) fun lt => ?_)))))))))
        · rw [← hwP, ← hwPm] at lt
          refine more' _ _ hil ⟨rfl, ia1 i (by omega), .inr ⟨i, rfl, hPi, fun m' hm' v vs hv hp hl' => ?_⟩⟩
          by_cases z : m' = i
          · subst z; exact Int.le_refl _
          · have := hmin m' (by omega) v vs hv hp hl'; omega
        · rw [← hwP, ← hwPm] at lt
          refine more' _ _ hil ⟨rfl, ia1 i (by omega), .inr ⟨m, rfl, ⟨um, usm, hum, hpm, hwm⟩, fun m' hm' v vs hv hp hl' => ?_⟩⟩
          by_cases z : m' = i
          · subst z; omega
          · exact hmin m' (by omega) v vs hv hp hl'
    · have q' : ((P.Live && decide (P.Parent = (n : Int))) && decide (last < P.When)) = false := by simpa using q
      rw [q']
      have notP : ∀ u us, Has es i u us → u.Parent = n → ¬ last < whenP pl (i : Int) := fun u us hu hp hl' => by
        obtain ⟨P', hP', e1, _, _, e4⟩ := b.has hu
        rw [h1'] at hP'; cases hP'
        rw [e1, e4, hp, decide_eq_true rfl, ← hwP, decide_eq_true hl'] at q'
        cases q'
      refine w_join (w_ifF rfl (w_ifF rfl (more' _ _ hil ⟨rfl, ia1 i (by omega), ?_⟩)))
      rcases hbest with ⟨e, hno⟩ | ⟨m, e, hm, hmin⟩
      · refine .inl ⟨e, fun m hm u us hu hp => ?_⟩
        by_cases z : m = i
        · subst z; exact notP u us hu hp
        · exact hno m (by omega) u us hu hp
      · refine .inr ⟨m, e, hm, fun m' hm' v vs hv hp hl' => ?_⟩
        by_cases z : m' = i
        · subst z; exact absurd hl' (notP v vs hv hp)
        · exact hmin m' (by omega) v vs hv hp hl'
  · have d : ¬ (i : Int) < (s.len : Int) := d
    obtain rfl : i = es.length := by omega
    rcases hbest with ⟨rfl, hno⟩ | ⟨m, rfl, ⟨um, usm, hum, hpm, hwm⟩, hmin⟩
    · refine w_ifT rfl ?_
      have : j = ks.length := by
        rcases Nat.lt_or_ge j ks.length with q | q
        · obtain ⟨m, u, us, e, hm, hp⟩ := w.down _ _ _ hn _ (List.getElem_mem q)
          exact absurd ((hlast j _ (by rw [List.getElem?_eq_getElem q, e])).2 (Nat.le_refl _)) (hno m hm.lt u us hm hp)
        · omega
      subst this
      rw [List.take_length] at bu
      exact y _ _ bu kp fo
    · refine w_ifF (decide_eq_false (by show ¬ (m : Int) < 0; omega)) ?_
      obtain ⟨i', hi', hji⟩ := toK hum hpm hwm
      have hlt := lt_of_get hi'
      have hjl : j < ks.length := by omega
      have hjk := List.getElem?_eq_getElem hjl
      obtain ⟨m', u', us', e', hm', hp'⟩ := w.down _ _ _ hn _ (List.getElem_mem hjl)
      have hle := hmin m' hm'.lt u' us' hm' hp' (by rw [← e']; exact (hlast j _ hjk).2 (Nat.le_refl _))
      obtain rfl : i' = j := by
        have h3 := mono_idx (b.kids _ _ _ hn) hjk hi'
        rw [e'] at h3
        rcases Nat.lt_or_ge j i' with q | q
        · exact absurd (h3.2 q) (by omega)
        · omega
      refine w_app (by_ := 8) ci_len rfl bu [(m : Int)] rfl rfl (.inl (by rw [List.length_take]; simp only [List.length_singleton]; omega)) fun s2 h2 bu2 k2 f2 d2 => ?_
      obtain ⟨Pm, hPm, _⟩ := b.has hum
      have hwPm : whenP pl (m : Int) = Pm.When := by rw [whenP_nat, hPm]; rfl
      have a2 := a.keep (kp.but k2 fo)
      refine w_deref (w_load a2.f0 (w_field rp_len a2.buf.arr hPm rfl (v' := Pm.When) (cells' := cInt .i64) (l1 := (cPl Pm).take 6) (l3 := []) rfl rfl ?_))
      refine more _ _ hjl ⟨?_, fun i'' k hk => ?_, kp.but k2 fo, fun c f => (f2 c f).elim (fo c) fun q => kp.fresh q⟩
      · rw [List.take_add_one, hi']; exact bu2
      · show Pm.When < _ ↔ _
        rw [← hwPm, mono_idx (b.kids _ _ _ hn) hi' hk]
        omega
end
theorem PreL.len1 {ch : Int → List Int} {a l : List Int} (x : PreL ch a l) (h : a ≠ []) : 1 ≤ l.length := by
  have := x.le
  cases a with
  | nil => exact absurd rfl h
  | cons b r => rw [List.length_cons] at this; omega
theorem PreL.one {ch : Int → List Int} {n : Int} {l : List Int} (x : PreL ch [n] l) : ∃ l1, l = n :: l1 ∧ PreL ch (ch n) l1 := by
  cases x with
  | cons a b => cases b; exact ⟨_, by rw [List.append_nil], a⟩
section
variable {h : H} {p : Nat} {ev : Nat} {G : Nat → Prop} {es : List En}
theorem t_RDownN : ∀ (N : Nat) {h : H} (_ : Ref h p ev G es) {n : Nat} {l : List Int} (_ : PreL (chN (nds es)) [(n : Int)] l) (_ : LiveL (nds es) l) (_ : l.length ≤ 256) (_ : l.length ≤ N) {K : Sl → H → Prop} (_ : ∀ s' h', Buf (cInt .i64) 1 N_int h' s' l → Keeps h h' → (∀ c, s'.foot c → h c = none) → K s' h'), m_ref11_Catalogue_Down_n N (some ⟨p, 0, none⟩) (n : Int) K h := by
  intro N
  induction N with
  | zero =>
    intro h x n l hl _ _ hN K y
    have := hl.len1 (by simp)
    omega
  | succ N ih =>
    intro h x n l hl live h256 hN K y
    obtain ⟨l1, rfl, hl1⟩ := hl.one
    obtain ⟨i, t, ks, e, hn⟩ := hasN_nds.1 (live _ (List.mem_cons_self ..))
    obtain rfl : n = i := by omega
    rw [chN_nds hn] at hl1
    show m_ref11_Catalogue_Down_s (m_ref11_Catalogue_Down_n N) _ _ K h
    unfold m_ref11_Catalogue_Down_s
    refine w_box fun b1 h1 f1 c1 k1 => t_Rchildren (x.keep k1) hn fun s2 h2 bu2 k2 f2 => ?_
    have hkl := hl1.le
    have hk256 := x.wf.kids_le hn
    have hw256 := x.wf.len
    rw [List.length_cons] at h256 hN
    refine w_for ks.length (fun j (z : Sl × Int) h' => z.2 = (j : Int) ∧ ∃ D E, l1 = D ++ E ∧ PreL (chN (nds es)) (ks.drop j) E ∧ Buf (cInt .i64) 1 N_int h' z.1 ((n : Int) :: D) ∧ Keeps h h' ∧ (∀ c, z.1.foot c → h c = none) ∧ Buf (cInt .i64) 1 N_int h' s2 ks ∧ ∀ c, z.1.foot c → ¬ s2.foot c) ?_ ?_
    rotate_left
    · refine ⟨rfl, [], l1, rfl, hl1, (Buf.one ci_len (x := (n : Int)) c1).keep k2, k1.trans k2, fun c ⟨a, q, r⟩ => by (cases q; subst r; exact f1), bu2, fun c ⟨a, q, r⟩ f => ?_⟩
      cases q; subst r
      have := f2 _ f
      rw [c1] at this; cases this
    rintro rec j ⟨out, jz⟩ h' hj ⟨ej, D, E, rfl, hE, bu, kp, fo, b2, ap⟩ more
    have ej : jz = (j : Int) := ej
    subst ej
    have bu : Buf (cInt .i64) 1 N_int h' out ((n : Int) :: D) := bu
    have l2 := b2.len
    have lD := bu.len
    rw [List.length_append] at h256 hN
    refine w_if' (fun c => ?_) fun c => ?_
    · have c : (j : Int) < (s2.len : Int) := c
      have hjl : j < ks.length := by omega
      have hk := List.getElem?_eq_getElem hjl
      have ed : ks.drop j = ks[j] :: ks.drop (j + 1) := List.drop_eq_getElem_cons hjl
      rw [ed] at hE
      generalize hz : ks[j] = z at hE hk
      obtain ⟨m1, L1, rfl, p1, p2⟩ : ∃ m1 L1, E = z :: (m1 ++ L1) ∧ PreL (chN (nds es)) (chN (nds es) z) m1 ∧ PreL (chN (nds es)) (ks.drop (j + 1)) L1 := by
        cases hE with
        | cons a b => exact ⟨_, _, rfl, a, b⟩
      obtain ⟨m, u, us, rfl, hm⟩ := hasN_nds.1 (live z (by simp))
      simp only [List.length_cons, List.length_append] at h256 hN
      refine w_get ci_len b2.arr hk rfl (v' := (m : Int)) rfl ?_
      have p1' : PreL (chN (nds es)) [(m : Int)] ((m : Int) :: m1) := by
        have := PreL.cons p1 PreL.nil
        rwa [List.append_nil] at this
      refine ih (x.keep kp) p1' (fun w hw => live w ?_) (by simp only [List.length_cons]; omega) (by simp only [List.length_cons]; omega) fun s3 h3 bu3 k3 f3 => ?_
      · rcases List.mem_cons.1 hw with q | q
        · rw [q]; simp
        · simp [q]
      refine w_append (by_ := 8) ci_len ci_plain rfl (bu.keep k3) bu3.arr (.inl (by simp only [List.length_cons]; omega)) fun s4 h4 bu4 k4 f4 d4 => ?_
      refine more _ _ hjl ⟨ia1 j (by omega), D ++ (m : Int) :: m1, L1, by simp, p2, bu4, (kp.trans k3).but k4 fo, fun c f => (f4 c f).elim (fo c) fun q => kp.fresh (k3.fresh q), (b2.keep k3).but k4 fun a ha f => ap _ f ⟨a, ha, rfl⟩, fun c f g => ?_⟩
      rcases f4 c f with q | q
      · exact ap c q g
      · exact (b2.keep k3).has g q
    · have c : ¬ (j : Int) < (s2.len : Int) := c
      obtain rfl : j = ks.length := by omega
      rw [List.drop_length] at hE
      cases hE
      rw [List.append_nil] at y
      exact y _ _ bu kp fo
theorem t_RDown (x : Ref h p ev G es) {n : Nat} {l : List Int} (b : Below es n l) {K : Sl → H → Prop} (y : ∀ s' h', Buf (cInt .i64) 1 N_int h' s' l → Keeps h h' → (∀ c, s'.foot c → h c = none) → K s' h') : m_ref11_Catalogue_Down (some ⟨p, 0, none⟩) (n : Int) K h :=
  ⟨l.length, t_RDownN l.length x b.pre b.live (by have := b.len; have := x.wf.len; omega) (Nat.le_refl _) y⟩
def plDead : S_ref11_Place := ⟨false, ⟨0, ⟨0, 0⟩⟩, 0, 0, 0⟩
def killP (S : List Int) (pl : List S_ref11_Place) : List S_ref11_Place := pl.mapIdx fun i q => if (i : Int) ∈ S then plDead else q
theorem killP_get (S : List Int) (pl : List S_ref11_Place) (i : Nat) : (killP S pl)[i]? = (pl[i]?).map fun q => if (i : Int) ∈ S then plDead else q := by
  unfold killP; rw [List.getElem?_mapIdx]
theorem killP_len (S : List Int) (pl : List S_ref11_Place) : (killP S pl).length = pl.length := by unfold killP; rw [List.length_mapIdx]
theorem killP_nil (pl : List S_ref11_Place) : killP [] pl = pl := by
  apply List.ext_getElem?
  intro i
  rw [killP_get]
  cases pl[i]? with
  | none => rfl
  | some q => simp
theorem killP_set {S : List Int} {pl : List S_ref11_Place} {m : Nat} : (killP S pl).set m plDead = killP (S ++ [(m : Int)]) pl := by
  apply List.ext_getElem?
  intro i
  rw [List.getElem?_set, killP_get, killP_get, killP_len]
  by_cases e : m = i
  · subst e
    rw [if_pos rfl]
    by_cases q : m < pl.length
    · rw [if_pos q, List.getElem?_eq_getElem q]; simp
    · rw [if_neg q, List.getElem?_eq_none (by omega)]; rfl
  · rw [if_neg e]
    have hi : ((i : Int) ∈ S ++ [(m : Int)]) ↔ (i : Int) ∈ S := by
      rw [List.mem_append, List.mem_singleton]
      constructor
      · rintro (a | a)
        · exact a
        · exact absurd (by omega) e
      · exact .inl
    simp only [hi]
theorem RefRel.cut {pl} (x : RefRel es pl ev) (w : CWF es) (S : List Int) : RefRel (cutE S es) (killP S pl) ev := by
  have wh : ∀ {i : Nat}, (i : Int) ∉ S → whenP (killP S pl) (i : Int) = whenP pl (i : Int) := fun {i} hi => by
    rw [whenP_nat, whenP_nat, killP_get]
    cases pl[i]? with
    | none => rfl
    | some q => rw [Option.map_some, if_neg hi]
  refine ⟨by rw [killP_len, cutE_len]; exact x.len, fun i q e h1 h2 => ?_, fun i t vs h => ?_, fun i t vs h => ?_⟩
  · rw [killP_get] at h1
    rw [cutE_get] at h2
    cases e1 : pl[i]? with
    | none => rw [e1] at h1; cases h1
    | some q' =>
      cases e2 : es[i]? with
      | none => rw [e2] at h2; cases h2
      | some e' =>
        rw [e1] at h1; rw [e2] at h2
        have ok := x.ent _ _ _ e1 e2
        by_cases z : (i : Int) ∈ S
        · rw [Option.map_some, if_pos z] at h1 h2
          cases h1; cases h2; rfl
        · rw [Option.map_some, if_neg z] at h1 h2
          cases h1; cases h2
          cases e' with
          | none => exact ok
          | some v => exact ok
  · obtain ⟨hS, ks, h', rfl⟩ := has_cut.1 h
    rw [wh hS]; exact x.when _ _ _ h'
  · obtain ⟨hS, ks, h', rfl⟩ := has_cut.1 h
    refine (List.Pairwise.sublist List.filter_sublist (x.kids _ _ _ h')).imp_of_mem fun {a b} ha hb hab => ?_
    obtain ⟨ha1, ha2⟩ := List.mem_filter.1 ha
    obtain ⟨hb1, hb2⟩ := List.mem_filter.1 hb
    obtain ⟨j, u, us, rfl, _⟩ := w.down _ _ _ h' _ ha1
    obtain ⟨j', u', us', rfl, _⟩ := w.down _ _ _ h' _ hb1
    rw [wh (by simpa using ha2), wh (by simpa using hb2)]; exact hab
theorem t_RDrop (x : Ref h p ev G es) {i : Int} {K : Sl × Int → H → Prop} (no : atE es i = none → K (Sl.nil, 20) h)
    (y : ∀ n t ks l, i = ((n : Nat) : Int) → Has es n t ks → Below es n l → ∀ s' G' h', Ref h' p ev G' (cutE l es) → KChg G G' h h' → Buf S_api_Cap.cells 3 N_api_Cap h' s' (l.map (capAt es)) → (∀ c, s'.foot c → h c = none) → (∀ c, s'.foot c → ¬ G' c) → K (s', 0) h') : m_ref11_Catalogue_Drop (some ⟨p, 0, none⟩) i K h := by
  unfold m_ref11_Catalogue_Drop
  refine t_Ris x ?_
  cases hi : atE es i with
  | none => exact w_ifT rfl (no hi)
  | some v =>
    obtain ⟨t, ks⟩ := v
    obtain ⟨n, rfl, hn⟩ := atE_has.1 hi
    have wf := x.wf
    have wl := wf.len
    obtain ⟨l, bl⟩ := wf.ex hn
    have ll := bl.len
    refine w_ifF rfl (t_RDown x bl fun s2 h2 bu2 k2 f2 => ?_)
    obtain ⟨s, pl, a, b, g⟩ := x.ex
    have a2 := a.keep k2
    refine w_for l.length (fun j (z : Sl × Int) h' => z.2 = (j : Int) ∧ RefAt h' p s (killP (l.take j) pl) ev ∧ Buf S_api_Cap.cells 3 N_api_Cap h' z.1 ((l.take j).map (capAt es)) ∧ Buf (cInt .i64) 1 N_int h' s2 l ∧ KChg (fun c => c = p ∨ s.foot c) (fun c => c = p ∨ s.foot c) h h' ∧ ∀ c, z.1.foot c → h c = none) ?_ ?_
    rotate_left
    · refine ⟨rfl, ?_, Buf.nil, bu2, ⟨.of k2, fun _ f => .inl f, fun c q => k2.fresh q⟩, fun c ⟨_, q, _⟩ => by cases q⟩
      rw [List.take_zero, killP_nil]; exact a2
    rintro rec j ⟨out, jz⟩ h' hj ⟨ej, a', bu, b2, kc, fo⟩ more
    have ej : jz = (j : Int) := ej
    subst ej
    have bu : Buf S_api_Cap.cells 3 N_api_Cap h' out ((l.take j).map (capAt es)) := bu
    have l2 := b2.len
    refine w_if' (fun c => ?_) fun c => ?_
    · have c : (j : Int) < (s2.len : Int) := c
      have hjl : j < l.length := by omega
      have hz := List.getElem?_eq_getElem hjl
      generalize hzz : l[j] = zm at hz
      obtain ⟨q, u, us, rfl, hu⟩ := hasN_nds.1 (bl.live _ (List.mem_of_getElem? hz))
      have hqS : (q : Int) ∉ l.take j := fun w => by
        have nd := bl.nd
        have take1 : l.take (j + 1) = l.take j ++ [(q : Int)] := by rw [List.take_add_one, hz]; rfl
        rw [← List.take_append_drop (j + 1) l, take1] at nd
        have nd := (List.nodup_append.1 nd).1
        rw [List.nodup_append] at nd
        exact nd.2.2 _ w _ (List.mem_singleton_self _) rfl
      obtain ⟨P, hP, _, eP, _⟩ := b.has hu
      have hP' : (killP (l.take j) pl)[q]? = some P := by rw [killP_get, hP, Option.map_some, if_neg hqS]
      refine w_deref (w_idx ci_len b2.arr hz rfl fun ad _ had => w_load a'.f0 (w_load (v := (q : Int)) had ?_))
      refine w_field rp_len a'.buf.arr hP' rfl (v' := P.Cap) (cells' := S_api_Cap.cells) (l1 := (cPl P).take 1) (l3 := (cPl P).drop 4) rfl rfl ?_
      rw [eP]
      refine w_app (by_ := 24) cap_len rfl bu [u.Cap] rfl rfl (.inl (by simp only [List.length_map, List.length_take, List.length_singleton]; omega)) fun s3 h3 bu3 k3 f3 d3 => ?_
      have oF : ∀ c, out.foot c → c ≠ p ∧ ¬ s.foot c := fun c f => ⟨fun e => by rw [e] at f; exact (bu.typed f).ne (Typed.of a'.cell) (by decide) rfl, fun e => (bu.typed f).ne (a'.buf.typed e) (by decide) rfl⟩
      have a3 := a'.but k3 oF
      have b3 := b2.but k3 fun ad' ha f => (bu.typed f).ne (b2.typed ⟨ad', ha, rfl⟩) (by decide) rfl
      refine w_deref (w_idx ci_len b3.arr hz rfl fun ad2 _ had2 => w_load a3.f0 (w_load (v := (q : Int)) had2 ?_))
      refine w_put rp_len a3.buf (i := q) (by rw [killP_len, b.len]; exact hu.lt) rfl plDead rfl fun h4 bu4 k4 d4 => ?_
      rw [killP_set] at bu4
      have take1 : l.take (j + 1) = l.take j ++ [(q : Int)] := by rw [List.take_add_one, hz]; rfl
      rw [← take1] at bu4
      have offp : ∀ c, s.foot c → c ≠ p := fun c f e => by subst e; exact a3.apart f
      refine more _ _ hjl ⟨ia1 j (by omega), ⟨k4 _ _ a3.cell a3.apart, bu4⟩, ?_, b3.but k4 fun ad' ha f => (b3.typed ⟨ad', ha, rfl⟩).ne (a3.buf.typed f) (by decide) rfl, ?_, fun c f => (f3 c f).elim (fo c) fun q => kc.dom c q⟩
      · have e1 : (l.take (j + 1)).map (capAt es) = (l.take j).map (capAt es) ++ [u.Cap] := by
          rw [take1, List.map_append, ← capAt_has hu]; rfl
        rw [e1]
        exact bu3.but k4 fun ad' ha f => (bu3.typed ⟨ad', ha, rfl⟩).ne (a3.buf.typed f) (by decide) rfl
      · refine ⟨(kc.but.trans k3 fun c f => .inr (fo c f)).trans k4 fun c f => .inl (.inr f), fun _ f => .inl f, fun c q => kc.dom c (d3 c (d4 c q))⟩
    · have c : ¬ (j : Int) < (s2.len : Int) := c
      obtain rfl : j = l.length := by omega
      rw [List.take_length] at a' bu
      have wf' : CWF (cutE l es) := wf.cut fun i u us hi hm k hk => bl.closed hi hm hk
      refine y n t ks l rfl hn bl out _ h' ⟨⟨s, _, a', b.cut wf l, fun _ => Iff.rfl⟩, wf'⟩ ⟨kc.but.mono fun c f => (g c).2 f, fun c f => .inl ((g c).2 f), kc.dom⟩ bu fo fun c f e => ?_
      have := fo c f
      rcases e with e | e
      · rw [e, a.cell] at this; cases this
      · exact a.buf.has e this
theorem t_ROf (x : Ref h p ev G es) {o : Int} {K : Sl → H → Prop} (no : (∀ i t ks, Has es i t ks → t.Cap.Obj ≠ o) → ∀ h', Keeps h h' → K Sl.nil h')
    (y : ∀ n t ks l, Has es n t ks → t.Cap.Obj = o → t.Parent = -1 → Below es n l → ∀ s' h', Buf cTok 5 N_api_Token h' s' (ofE es l) → Keeps h h' → (∀ c, s'.foot c → h c = none) → K s' h') : m_ref11_Catalogue_Of (some ⟨p, 0, none⟩) o K h := by
  have wf := x.wf
  have wl := wf.len
  obtain ⟨s, pl, a, b, g⟩ := x.ex
  have hl := a.buf.len
  have hb := b.len
  unfold m_ref11_Catalogue_Of
  refine w_for es.length (fun i (z : Sl × Int) h' => z.2 = (i : Int) ∧ Keeps h h' ∧ ((z.1 = Sl.nil ∧ ∀ j, j < i → ∀ t ks, Has es j t ks → t.Cap.Obj = o → t.Parent ≠ -1) ∨ ∃ n t ks l, n < i ∧ Has es n t ks ∧ t.Cap.Obj = o ∧ t.Parent = -1 ∧ Below es n l ∧ Buf cTok 5 N_api_Token h' z.1 (ofE es l) ∧ ∀ c, z.1.foot c → h c = none)) ?_ ⟨rfl, .refl _, .inl ⟨rfl, fun j hj => absurd hj (Nat.not_lt_zero _)⟩⟩
  rintro rec i ⟨out, iz⟩ h' hi ⟨ei, kp, hst⟩ more
  have ei : iz = (i : Int) := ei
  subst ei
  have hst : (out = Sl.nil ∧ ∀ j, j < i → ∀ t ks, Has es j t ks → t.Cap.Obj = o → t.Parent ≠ -1) ∨ ∃ n t ks l, n < i ∧ Has es n t ks ∧ t.Cap.Obj = o ∧ t.Parent = -1 ∧ Below es n l ∧ Buf cTok 5 N_api_Token h' out (ofE es l) ∧ ∀ c, out.foot c → h c = none := hst
  have a' := a.keep kp
  have x' := x.keep kp
  refine w_deref (w_load a'.f0 (w_if' (fun d => ?_) fun d => ?_))
  · have d : (i : Int) < (s.len : Int) := d
    have hil : i < es.length := by omega
    obtain ⟨P, e, h1, h2, ok⟩ := b.place hil
    refine w_deref (w_load a'.f0 (w_field rp_len a'.buf.arr h1 rfl (v' := P.Live) (cells' := cBool) (l1 := []) (l3 := (cPl P).drop 1) rfl rfl ?_))
    refine w_joinV (!P.Live || !decide (P.Cap.Obj = o)) (fun J hJ => ?_) ?_
    · refine w_if (fun e => ?_) fun e => ?_
      · rw [e, Bool.true_or] at hJ; exact hJ
      · refine w_deref (w_load a'.f0 (w_idx rp_len a'.buf.arr h1 rfl fun ad _ ha => w_load (v := P.Cap.Obj) (cells := cInt .i64) ?_ ?_))
        · rw [show (ad.add 1).add 0 = ad.add 1 from add_zero _]
          exact At.head (l2 := (cPl P).drop 2) (At.sub (l1 := (cPl P).take 1) (l3 := []) (by rw [List.append_nil]; exact ha) rfl)
        · rw [e, Bool.false_or] at hJ; exact hJ
    refine w_joinV ((!P.Live || !decide (P.Cap.Obj = o)) || decide (0 ≤ P.Parent)) (fun J hJ => ?_) ?_
    · refine w_if (fun e => ?_) fun e => ?_
      · rw [e, Bool.true_or] at hJ; exact hJ
      · refine w_deref (w_load a'.f0 (w_field rp_len a'.buf.arr h1 rfl (v' := P.Parent) (cells' := cInt .i64) (l1 := (cPl P).take 5) (l3 := (cPl P).drop 6) rfl rfl ?_))
        rw [e, Bool.false_or] at hJ; exact hJ
    refine w_if (fun e => ?_) fun e => ?_
    · refine more _ _ hil ⟨ia1 i (by omega), kp, ?_⟩
      rcases hst with ⟨rfl, hno⟩ | ⟨n, t, ks, l, hni, r⟩
      · refine .inl ⟨rfl, fun j hj t ks ht ho hp => ?_⟩
        by_cases z : j = i
        · subst z
          obtain ⟨P', hP', e1, e2, _, e4⟩ := b.has ht
          rw [h1] at hP'; cases hP'
          rw [e1, e2, ho, e4, hp] at e
          simp at e
        · exact hno j (by omega) t ks ht ho hp
      · exact .inr ⟨n, t, ks, l, by omega, r⟩
    · -- a root
      rw [Bool.or_eq_false_iff, Bool.or_eq_false_iff] at e
      obtain ⟨⟨e1, e2⟩, e3⟩ := e
      have hlive : P.Live = true := by simpa using e1
      have hobj : P.Cap.Obj = o := by simpa using e2
      have hpar : ¬ 0 ≤ P.Parent := of_decide_eq_false e3
      obtain ⟨t, ks, ht, q1, q2, q3⟩ := b.live h1 hlive
      have hto : t.Cap.Obj = o := by rw [← q1]; exact hobj
      have htp : t.Parent = -1 := by
        rcases wf.up _ _ _ ht with z | ⟨j, _, _, z, _⟩
        · exact z
        · omega
      have hnil : out = Sl.nil := by
        rcases hst with ⟨q, _⟩ | ⟨n, t', ks', l, hni, hn, ho, hp, _⟩
        · exact q
        · have := wf.one _ _ _ _ _ _ hn ht hp htp (ho.trans hto.symm)
          omega
      subst hnil
      obtain ⟨l, bl⟩ := wf.ex ht
      have ll := bl.len
      refine t_RDown x' bl fun s2 hh2 bu2 k2 f2 => ?_
      refine w_for l.length (fun j (z : Sl × Int) h'' => z.2 = (j : Int) ∧ Keeps h h'' ∧ Buf (cInt .i64) 1 N_int h'' s2 l ∧ Buf cTok 5 N_api_Token h'' z.1 ((l.take j).map (tokIn es l)) ∧ ∀ c, z.1.foot c → h c = none) ?_ ⟨rfl, kp.trans k2, bu2, Buf.nil, fun c ⟨_, q, _⟩ => by cases q⟩
      rintro rec2 j ⟨ou, jz⟩ h3 hj ⟨ej, kp3, b2, bu3, fo3⟩ more2
      have ej : jz = (j : Int) := ej
      subst ej
      have bu3 : Buf cTok 5 N_api_Token h3 ou ((l.take j).map (tokIn es l)) := bu3
      have l2 := b2.len
      have a3 := a.keep kp3
      refine w_if' (fun c => ?_) fun c => ?_
      · have c : (j : Int) < (s2.len : Int) := c
        have hjl : j < l.length := by omega
        have hz := List.getElem?_eq_getElem hjl
        generalize hzz : l[j] = zm at hz
        obtain ⟨q, u, us, rfl, hu⟩ := hasN_nds.1 (bl.live _ (List.mem_of_getElem? hz))
        refine w_get ci_len b2.arr hz rfl (v' := (q : Int)) rfl (t_RAt (x.keep kp3) ?_)
        have eat : atOut es (q : Int) = (u, true) := by
          unfold atOut
          rw [(atE_has (i := (q : Int))).2 ⟨q, rfl, hu⟩]
        rw [eat]
        obtain ⟨Pq, hPq, _, _, _, ePq⟩ := b.has hu
        have hahead := bl.ahead wf ht hz hu
        refine w_for j (fun m (z : Int × Int × Int × Int × Int × Int) h4 => h3 = h4 ∧ z = ((m : Int), u.Cap.Obj, u.Cap.Pass.Hi, u.Cap.Pass.Lo, u.Rights, if u.Parent ∈ l.take m then placeIn l u.Parent else u.Parent)) ?_ ⟨rfl, by rw [List.take_zero, if_neg (by simp)]; rfl⟩
        rintro rec3 m z h4 hm ⟨rfl, rfl⟩ more3
        refine w_if' (fun c => ?_) fun c => ?_
        · have c : (m : Int) < (j : Int) := c
          have hmj : m < j := by omega
          have hml : m < l.length := by omega
          have hzm := List.getElem?_eq_getElem hml
          generalize hzzm : l[m] = zm' at hzm
          refine w_idx ci_len b2.arr hzm rfl fun ad1 _ had1 => w_deref (w_idx ci_len b2.arr hz rfl fun ad2 _ had2 => w_load (v := zm') had1 (w_load a3.f0 (w_load (v := (q : Int)) had2 ?_)))
          refine w_field rp_len a3.buf.arr hPq rfl (v' := Pq.Parent) (cells' := cInt .i64) (l1 := (cPl Pq).take 5) (l3 := (cPl Pq).drop 6) rfl rfl ?_
          rw [ePq]
          obtain ⟨qm, _, _, eqm, _⟩ := hasN_nds.1 (bl.live _ (List.mem_of_getElem? hzm))
          have take1 : l.take (m + 1) = l.take m ++ [zm'] := by rw [List.take_add_one, hzm]; rfl
          refine w_if' (fun e => ?_) fun e => ?_
          · refine more3 _ _ hmj ⟨rfl, ?_⟩
            show (iAdd .i64 (m : Int) 1, _, _, _, _, _) = _
            have hmem : u.Parent ∈ l.take m ++ [zm'] := by rw [← e]; simp
            have hpl : placeIn l u.Parent = (m : Int) := by
              unfold placeIn
              rw [if_neg (by omega), ← e, idx_of bl.nd hzm]
            rw [ia1 m (by omega), take1, if_pos hmem, hpl]
          · refine more3 _ _ hmj ⟨rfl, ?_⟩
            show (iAdd .i64 (m : Int) 1, _, _, _, _, _) = _
            have e' : ¬ u.Parent = zm' := fun z => e z.symm
            rw [ia1 m (by omega), take1]
            simp only [List.mem_append, List.mem_singleton, e', or_false]
        · have c : ¬ (m : Int) < (j : Int) := c
          obtain rfl : m = j := by omega
          have epar : (if u.Parent ∈ l.take m then placeIn l u.Parent else u.Parent) = placeIn l u.Parent := by
            rcases hahead with ⟨rfl, rfl⟩ | ⟨_, q2⟩
            · have : u.Parent = -1 := htp
              rw [this]
              split
              · rfl
              · rfl
            · rw [if_pos q2]
          refine w_app (by_ := 40) tok_len rfl bu3 [tokIn es l (q : Int)] ?_ rfl (.inl (by simp only [List.length_map, List.length_take, List.length_singleton]; omega)) fun s5 h5 bu5 k5 f5 d5 => ?_
          · rw [tokIn_has hu, epar]; rfl
          refine more2 _ _ hjl ⟨ia1 m (by omega), kp3.but k5 fo3, b2.but k5 fun ad' ha f => (bu3.typed f).ne (b2.typed ⟨ad', ha, rfl⟩) (by decide) rfl, ?_, fun c f => (f5 c f).elim (fo3 c) fun q => kp3.fresh q⟩
          rw [List.take_add_one, hz, List.map_append]
          exact bu5
      · have c : ¬ (j : Int) < (s2.len : Int) := c
        obtain rfl : j = l.length := by omega
        rw [List.take_length] at bu3
        exact more _ _ hil ⟨ia1 i (by omega), kp3, .inr ⟨i, t, ks, l, by omega, ht, hto, htp, bl, bu3, fo3⟩⟩
  · have d : ¬ (i : Int) < (s.len : Int) := d
    obtain rfl : i = es.length := by omega
    rcases hst with ⟨rfl, hno⟩ | ⟨n, t, ks, l, hni, hn, ho, hp, bl, bu, fo⟩
    · refine no (fun j t ks ht ho => ?_) h' kp
      obtain ⟨r, v, vs, hr, hp, hob, _⟩ := wf.rootOf ht
      exact hno r hr.lt v vs hr (hob.trans ho) hp
    · exact y n t ks l hn ho hp bl out h' bu kp fo
end
deriving instance DecidableEq for S_api_Token
section
variable {h : H}
theorem tok_eqB (x y : S_api_Token) : (((decide (x.Cap.Obj = y.Cap.Obj)) && (((decide (x.Cap.Pass.Hi = y.Cap.Pass.Hi)) && ((decide (x.Cap.Pass.Lo = y.Cap.Pass.Lo)) && true)) && true)) && ((decide (x.Rights = y.Rights)) && ((decide (x.Parent = y.Parent)) && true))) = decide (x = y) := by
  rw [cap_eqB]
  obtain ⟨c, r, p⟩ := x
  obtain ⟨c', r', p'⟩ := y
  rw [Bool.eq_iff_iff]
  simp only [Bool.and_eq_true, Bool.and_true, decide_eq_true_eq, S_api_Token.mk.injEq]
end
def intoV (a b : Int) : Int := if a.tmod b < 0 then a.tmod b + b else a.tmod b
theorem intoV_rng (a : Int) {b : Int} (h : 0 < b) : 0 ≤ intoV a b ∧ intoV a b < b := by
  unfold intoV
  have h1 := Int.tmod_lt_of_pos a h
  have h2 := Int.lt_tmod_of_pos a h
  split <;> omega
theorem Below.uniq {es : List En} {n : Nat} {l l' : List Int} (a : Below es n l) (b : Below es n l') : l = l' := a.pre.inj b.pre
open Classical in
noncomputable def belowOf (es : List En) (n : Nat) : List Int := if h : ∃ l, Below es n l then h.choose else []
theorem Below.eq {es : List En} {n : Nat} {l : List Int} (b : Below es n l) : belowOf es n = l := by
  unfold belowOf
  rw [dif_pos ⟨l, b⟩]
  exact (Exists.choose_spec (⟨l, b⟩ : ∃ l, Below es n l)).uniq b
theorem Below.cnt {es : List En} (w : CWF es) {n : Nat} {t ks} (hn : Has es n t ks) {l : List Int} (bl : Below es n l) : (∀ o, cnt es o = cnt (cutE l es) o + if o = t.Cap.Obj then l.length else 0) ∧ (capsG 0 es).length = (capsG 0 (cutE l es)).length + l.length := by
  obtain ⟨m, hm, hpost, hperm⟩ := bl.pre.post w.forest
  have hmem : ∀ z, z ∈ m.reverse ↔ z ∈ l := fun z => hperm.mem_iff
  have hmlen := hperm.length_eq
  have hmnd : m.reverse.Nodup := hperm.nodup_iff.2 bl.nd
  have main : ∀ j, j ≤ m.reverse.length → (∀ o, K.cnt es o = K.cnt (cutE (m.reverse.take j) es) o + if o = t.Cap.Obj then j else 0) ∧ (capsG 0 es).length = (capsG 0 (cutE (m.reverse.take j) es)).length + j := by
    intro j
    induction j with
    | zero => intro _; rw [List.take_zero, cutE_nil]; exact ⟨fun o => by simp, rfl⟩
    | succ j ih =>
      intro hj
      have hjl : j < m.reverse.length := by omega
      obtain ⟨i1, i2⟩ := ih (by omega)
      have hz := List.getElem?_eq_getElem hjl
      generalize hzz : m.reverse[j] = zm at hz
      obtain ⟨q, u, us, rfl, hu⟩ := hasN_nds.1 (bl.live _ ((hmem _).1 (List.mem_of_getElem? hz)))
      have take1 : m.reverse.take (j + 1) = m.reverse.take j ++ [(q : Int)] := by rw [List.take_add_one, hz]; rfl
      have hqS : (q : Int) ∉ m.reverse.take j := fun w => by
        have nd := hmnd
        rw [← List.take_append_drop (j + 1) m.reverse, take1] at nd
        have nd := (List.nodup_append.1 nd).1
        rw [List.nodup_append] at nd
        exact nd.2.2 _ w _ (List.mem_singleton_self _) rfl
      have hkS : ∀ k ∈ us, k ∈ m.reverse.take j := fun k hk => hpost.behind hz k (by rw [chN_nds hu]; exact hk)
      have hpS : ∀ q' : Nat, u.Parent = q' → (q' : Int) ∉ m.reverse.take j := fun q' e w' => by
        rcases w.up _ _ _ hu with z | ⟨i', v, vs, z, hi', hm', _⟩
        · omega
        · obtain rfl : q' = i' := by omega
          obtain ⟨j', hj', w''⟩ := List.mem_take_iff_getElem.1 w'
          have w3 : m.reverse[j']? = some (q' : Int) := by rw [List.getElem?_eq_getElem (by omega), w'']
          have := hpost.behind w3 (q : Int) (by rw [chN_nds hi']; exact hm')
          exact hqS (List.take_subset_take_left _ (by omega) this)
      have st := w.cutStep hu hqS hkS hpS
      have sc := st.caps
      have hob := bl.obj w hn ((hmem _).1 (List.mem_of_getElem? hz)) hu
      rw [take1]
      refine ⟨fun o => ?_, ?_⟩
      · rw [i1 o, cnt_cons sc o, hob]
        by_cases z : o = t.Cap.Obj
        · subst z; simp only [if_pos]; omega
        · have z' : ¬ t.Cap.Obj = o := fun w => z w.symm
          simp only [if_neg z, if_neg z']
      · have := sc.length_eq
        rw [List.length_cons] at this
        omega
  have := main m.reverse.length (Nat.le_refl _)
  rw [List.take_length, cutE_congr hmem es, hmlen] at this
  exact this
theorem atOut_has {es : List En} {i : Nat} {t ks} (h : Has es i t ks) : atOut es (i : Int) = (t, true) := by
  unfold atOut
  rw [(atE_has (i := (i : Int))).2 ⟨i, rfl, h⟩]
theorem t_CDropU {h : H} {p : Nat} {knob : Int} {G : Nat → Prop} {es : List En} (x : Cat h p knob G es) {j : Nat} {S : List Int} (hS : (∀ t ks, ¬ Has es j t ks) ∧ S = [] ∨ ∃ t ks, Has es j t ks ∧ Below es j S) {K : Sl × Int → H → Prop}
    (y : ∀ s' e' G' h', Cat h' p knob G' (cutE S es) → KChg G G' h h' → s'.len = S.length → (e' = 20 ∧ (∀ t ks, ¬ Has es j t ks) ∨ e' = 0 ∧ ∃ t ks, Has es j t ks ∧ Below es j S) → Buf S_api_Cap.cells 3 N_api_Cap h' s' (S.map (capAt es)) → (∀ c, s'.foot c → h c = none) → (∀ c, s'.foot c → ¬ G' c) → K (s', e') h') : m_catalogue_Catalogue_Drop (some ⟨p, 0, none⟩) (j : Int) K h := by
  refine t_CDrop x (fun hno h' k' => ?_) fun n t ks l e hn bl s' G' h' c' k' bu f ap => ?_
  · rcases hS with ⟨hd, rfl⟩ | ⟨t, ks, hh, _⟩
    · exact y Sl.nil 20 G h' (by rw [cutE_nil]; exact x.keep k') ⟨.of k', fun c q => .inl q, fun c q => k'.fresh q⟩ rfl (.inl ⟨rfl, hd⟩) Buf.nil (fun c ⟨_, q, _⟩ => by cases q) fun c ⟨_, q, _⟩ => by cases q
    · rw [(atE_has (i := (j : Int))).2 ⟨j, rfl, hh⟩] at hno; cases hno
  · obtain rfl : j = n := by omega
    rcases hS with ⟨hd, rfl⟩ | ⟨t', ks', hh, bl'⟩
    · exact absurd hn (hd t ks)
    · obtain rfl := bl.uniq bl'
      have := bu.len
      rw [List.length_map] at this
      exact y s' 0 G' h' c' k' this (.inr ⟨rfl, t', ks', hh, bl⟩) bu f ap
open Classical in
noncomputable def ofO (es : List En) (o : Int) : List S_api_Token := if h : ∃ n t ks, Has es n t ks ∧ t.Cap.Obj = o ∧ t.Parent = -1 then ofE es (belowOf es h.choose) else []
theorem ofO_some {es : List En} (w : CWF es) {o : Int} {n t ks l} (hn : Has es n t ks) (ho : t.Cap.Obj = o) (hp : t.Parent = -1) (bl : Below es n l) : ofO es o = ofE es l := by
  have hex : ∃ n t ks, Has es n t ks ∧ t.Cap.Obj = o ∧ t.Parent = -1 := ⟨n, t, ks, hn, ho, hp⟩
  unfold ofO
  rw [dif_pos hex]
  obtain ⟨t', ks', h1, h2, h3⟩ := hex.choose_spec
  have : hex.choose = n := w.one _ _ _ _ _ _ h1 hn h3 hp (h2.trans ho.symm)
  rw [this, bl.eq]
theorem ofO_none {es : List En} {o : Int} (hno : ∀ i t ks, Has es i t ks → t.Cap.Obj ≠ o) : ofO es o = [] := by
  unfold ofO
  rw [dif_neg]
  rintro ⟨n, t, ks, h1, h2, _⟩
  exact hno n t ks h1 h2
theorem ofO_len {es : List En} (w : CWF es) (o : Int) : (ofO es o).length ≤ es.length := by
  unfold ofO
  split
  · rename_i hex
    obtain ⟨t, ks, h1, _⟩ := hex.choose_spec
    obtain ⟨l, bl⟩ := w.ex h1
    rw [bl.eq]
    unfold ofE
    rw [List.length_map]
    exact bl.len
  · exact Nat.zero_le _
section
variable {h : H} {p : Nat} {knob : Int} {G : Nat → Prop} {es : List En}
theorem t_COfU (x : Cat h p knob G es) {o : Int} {K : Sl → H → Prop} (y : ∀ s' h', Buf cTok 5 N_api_Token h' s' (ofO es o) → Keeps h h' → (∀ c, s'.foot c → h c = none) → K s' h') : m_catalogue_Catalogue_Of (some ⟨p, 0, none⟩) o K h :=
  t_COf x (fun hno h' k => y _ h' (by rw [ofO_none hno]; exact Buf.nil) k fun c ⟨_, q, _⟩ => by cases q) fun n t ks l hn ho hp bl s' h' bu k f => y s' h' (by rw [ofO_some x.wf hn ho hp bl]; exact bu) k f
end
end Go.Proofs.YtdleanjofhghnaaGreatDoor.K
namespace Go.Proofs.YtdleanjofhghnaaGreatDoor.K
open Go Go.Proofs
def m_quota_New (a0 : Int) (a1 : Int) (K : (Option Addr × Int) → H → Prop) : H → Prop :=
 mIf ((((decide (a0 < 1)) || (decide (256 < a0))) || (decide (a1 < 1))) || (decide (256 < a1))) (
 K (none, 16)
 ) (
 mMakeMap fun m1 =>
 mNew 102 #[(Value.int .i64 a0), (Value.int .i64 a1), (Value.map m1)] fun ad2 =>
 K ((some ad2), 0)
 )
def x_quota_New : Cx Tryz.prog := ⟨tys, [], [], [], mixed⟩
def h_quota_New : Hint := (.seq .d (.seq (.seq (.reg (.run [3, 7, 11] (.sel 8 11 3584 (.run [15, 19, 23] .nil) (.run [15, 19, 23] .nil) (.run [27] (.sel 12 15 57344 (.run [31, 35, 39] .nil) (.run [31, 35, 39] .nil) (.run [43] (.sel 16 19 917504 (.run [47, 51, 55] .nil) (.run [47, 51, 55] .nil) .nil))))))) .d) .d))
def s_quota_New : Spec Tryz.prog := mkSpec x_quota_New 15 Tryz.f15 [(tInt .i64), (tInt .i64)] [tPtr, (tInt .i64)] false h_quota_New (fun a => m_quota_New a.1 a.2) (fun a K h => by kernel_rfl) callee15 rfl
def m_quota_Quota_Of (a0 : Option Addr) (a1 : Int) (K : (Int) → H → Prop) : H → Prop :=
 mDeref a0 fun ad1 =>
 mLoad cMap (ad1.add 2) fun x2 =>
 mLookup (eqV Tryz.prog 40 3) (Value.int .i64) 0 x2 (Value.int .i64 a1) fun r3 =>
 K r3.1
def x_quota_Quota_Of : Cx Tryz.prog := ⟨tys, [], [], [], mixed⟩
def h_quota_Quota_Of : Hint := .d
def s_quota_Quota_Of : Spec Tryz.prog := mkSpec x_quota_Quota_Of 12 Tryz.f12 [tPtr, (tInt .i64)] [(tInt .i64)] false h_quota_Quota_Of (fun a => m_quota_Quota_Of a.1 a.2) (fun a K h => by kernel_rfl) callee12 rfl
def m_quota_Quota_All (a0 : Option Addr) (K : (Int) → H → Prop) : H → Prop :=
 mDeref a0 fun ad1 =>
 mLoad cMap (ad1.add 2) fun x2 =>
 mRange x2 fun it3 =>
 mLoop (fun (rec5 : Int → H → Prop) (s4 : Int) =>
 mNext it3 fun n6 =>
 mIf n6.1 (
 mEntry (Value.int .i64) (Value.int .i64) it3 fun e7 =>
 rec5 (iAdd .i64 s4 e7.2)
 ) (
 K s4
 )
 ) 0
def x_quota_Quota_All : Cx Tryz.prog := ⟨tys, [], [], [(13, 3, 3)], mixed⟩
def h_quota_Quota_All : Hint := (.seq .d (.seq .d (.seq (.seq .d (.blk (.loop [.slot 3 (tInt .i64)] 260136 [] .d))) .d)))
def s_quota_Quota_All : Spec Tryz.prog := mkSpec x_quota_Quota_All 33 Tryz.f33 [tPtr] [(tInt .i64)] false h_quota_Quota_All (fun a => m_quota_Quota_All a) (fun a K h => by kernel_rfl) callee33 rfl
def m_quota_Quota_May (a0 : Option Addr) (a1 : Int) (K : (Int) → H → Prop) : H → Prop :=
 mDeref a0 fun ad1 =>
 mJoin (fun (s2 : Int × Int) =>
 mIf (decide (s2.2 ≤ s2.1)) (
 K 9
 ) (
 mDeref a0 fun ad8 =>
 mJoin (fun (s9 : Int × Int) =>
 mIf (decide (s9.2 ≤ s9.1)) (
 K 10
 ) (
 K 0
 )
 ) (fun j10 =>
 mBoth (
 m_quota_Quota_All a0 fun r11 =>
 mLoad (cInt .i64) (ad8.add 1) fun x12 =>
 j10 (r11, x12)
 ) (
 mLoad (cInt .i64) (ad8.add 1) fun x13 =>
 m_quota_Quota_All a0 fun r14 =>
 j10 (r14, x13)
 ))
 )
 ) (fun j3 =>
 mBoth (
 m_quota_Quota_Of a0 a1 fun r4 =>
 mLoad (cInt .i64) (ad1.add 0) fun x5 =>
 j3 (r4, x5)
 ) (
 mLoad (cInt .i64) (ad1.add 0) fun x6 =>
 m_quota_Quota_Of a0 a1 fun r7 =>
 j3 (r7, x6)
 ))
def x_quota_Quota_May : Cx Tryz.prog := ⟨tys, [s_quota_Quota_Of, s_quota_Quota_All], [], [], mixed⟩
def h_quota_Quota_May : Hint := (.seq .d (.seq (.blk (.seq (.reg (.run [0, 4, 12, 16, 20] (.join [.slot 8 (tInt .i64), .slot 12 (tInt .i64)] 4352 [] (.both 2 6 (.run [26] .nil) (.run [11] .nil)) (.run [28, 32] .nil)))) (.cond .d (.seq (.reg (.run [0, 8, 12, 16] (.join [.slot 16 (tInt .i64), .slot 20 (tInt .i64)] 1114112 [] (.both 1 5 (.run [22] .nil) (.run [7] .nil)) (.run [24, 28] .nil)))) .d)))) .d))
def s_quota_Quota_May : Spec Tryz.prog := mkSpec x_quota_Quota_May 63 Tryz.f63 [tPtr, (tInt .i64)] [(tInt .i64)] false h_quota_Quota_May (fun a => m_quota_Quota_May a.1 a.2) (fun a K h => by kernel_rfl) callee63 rfl
def m_quota_Quota_Add (a0 : Option Addr) (a1 : Int) (K : (Int) → H → Prop) : H → Prop :=
 m_quota_Quota_May a0 a1 fun r1 =>
 mIf (decide (r1 = 0)) (
 mDeref a0 fun ad2 =>
 mLoad cMap (ad2.add 2) fun x3 =>
 mLookup (eqV Tryz.prog 40 3) (Value.int .i64) 0 x3 (Value.int .i64 a1) fun r4 =>
 mMapSet (eqV Tryz.prog 40 3) x3 (Value.int .i64 a1) (Value.int .i64 (iAdd .i64 r4.1 1)) <|
 K r1
 ) (
 K r1
 )
def x_quota_Quota_Add : Cx Tryz.prog := ⟨tys, [s_quota_Quota_May], [], [], mixed⟩
def h_quota_Quota_Add : Hint := .d
def s_quota_Quota_Add : Spec Tryz.prog := mkSpec x_quota_Quota_Add 66 Tryz.f66 [tPtr, (tInt .i64)] [(tInt .i64)] false h_quota_Quota_Add (fun a => m_quota_Quota_Add a.1 a.2) (fun a K h => by kernel_rfl) callee66 rfl
def m_quota_Quota_Sub (a0 : Option Addr) (a1 : Int) (a2 : Int) (K : (Int) → H → Prop) : H → Prop :=
 mJoin (fun (s2 : Bool) =>
 mIf s2 (
 K 20
 ) (
 mDeref a0 fun ad4 =>
 mLoad cMap (ad4.add 2) fun x5 =>
 mLookup (eqV Tryz.prog 40 3) (Value.int .i64) 0 x5 (Value.int .i64 a1) fun r6 =>
 mMapSet (eqV Tryz.prog 40 3) x5 (Value.int .i64 a1) (Value.int .i64 (iSub .i64 r6.1 a2)) <|
 mDeref a0 fun ad7 =>
 mLoad cMap (ad7.add 2) fun x8 =>
 mLookup (eqV Tryz.prog 40 3) (Value.int .i64) 0 x8 (Value.int .i64 a1) fun r9 =>
 mIf (decide (r9.1 = 0)) (
 mDeref a0 fun ad10 =>
 mLoad cMap (ad10.add 2) fun x11 =>
 mMapDel (eqV Tryz.prog 40 3) x11 (Value.int .i64 a1) <|
 K 0
 ) (
 K 0
 )
 )
 ) (fun j3 =>
 mIf (decide (a2 < 0)) (
 j3 true
 ) (
 m_quota_Quota_Of a0 a1 fun r12 =>
 j3 (decide (r12 < a2))
 ))
def x_quota_Quota_Sub : Cx Tryz.prog := ⟨tys, [s_quota_Quota_Of], [], [], mixed⟩
def h_quota_Quota_Sub : Hint := (.seq .d (.seq (.seq (.reg (.run [3, 7, 11] (.join [.slot 15 tBool] 64512 [] (.split 9 (.run [15, 19, 23, 27, 31, 35] .nil) (.run [15, 19, 23, 27, 31, 35] .nil)) .nil))) .d) .d))
def s_quota_Quota_Sub : Spec Tryz.prog := mkSpec x_quota_Quota_Sub 27 Tryz.f27 [tPtr, (tInt .i64), (tInt .i64)] [(tInt .i64)] false h_quota_Quota_Sub (fun a => m_quota_Quota_Sub a.1 a.2.1 a.2.2) (fun a K h => by kernel_rfl) callee27 rfl
end Go.Proofs.YtdleanjofhghnaaGreatDoor.K
namespace Go.Proofs.YtdleanjofhghnaaGreatDoor.K
open Go
theorem keyI {t : TypeId} (hu : Tryz.prog.underlying t = some (.int .i64)) : KeyEq (eqV Tryz.prog 40 t) (Value.int .i64) := fun a b => by
  show eqV Tryz.prog (39 + 1) t _ _ = _
  rw [eqV.eq_2, hu]
  rfl
structure QuotaAt (h : H) (p b : Nat) (each all : Int) (l : List (Int × Int)) : Prop where
  cell : h p = some (.cells (S_quota_Quota.cells ⟨each, all, some b⟩).toArray N_quota_Quota (0, 0))
  map : MapOf (Value.int .i64) (Value.int .i64) h b l
  ne : p ≠ b
  once : Once l
  pos : ∀ q ∈ l, 1 ≤ q.2
  bnd : asum l ≤ 256
theorem QuotaAt.keep {h h' : H} {p b : Nat} {each all : Int} {l : List (Int × Int)} (x : QuotaAt h p b each all l) (k : Keeps h h') : QuotaAt h' p b each all l := ⟨k _ _ x.cell, x.map.keep k, x.ne, x.once, x.pos, x.bnd⟩
theorem QuotaAt.but {h h' : H} {F : Nat → Prop} {p b : Nat} {each all : Int} {l : List (Int × Int)} (x : QuotaAt h p b each all l) (k : But F h h') (f1 : ¬ F p) (f2 : ¬ F b) : QuotaAt h' p b each all l := ⟨k _ _ x.cell f1, x.map.but k f2, x.ne, x.once, x.pos, x.bnd⟩
def qcnt (l : List (Int × Int)) (k : Int) : Int := (alook l k).getD 0
section
variable {h : H} {p b : Nat} {each all : Int} {l : List (Int × Int)}
theorem QuotaAt.f0 (x : QuotaAt h p b each all l) : At h ((⟨p, 0, none⟩ : Addr).add 0) (cInt .i64 each) := At.own (l1 := []) (l3 := (S_quota_Quota.cells ⟨each, all, some b⟩).drop 1) x.cell rfl
theorem QuotaAt.f1 (x : QuotaAt h p b each all l) : At h ((⟨p, 0, none⟩ : Addr).add 1) (cInt .i64 all) := At.own (l1 := (S_quota_Quota.cells ⟨each, all, some b⟩).take 1) (l3 := (S_quota_Quota.cells ⟨each, all, some b⟩).drop 2) x.cell rfl
theorem QuotaAt.f2 (x : QuotaAt h p b each all l) : At h ((⟨p, 0, none⟩ : Addr).add 2) (cMap (some b)) := At.own (l1 := (S_quota_Quota.cells ⟨each, all, some b⟩).take 2) (l3 := []) x.cell rfl
theorem qcnt_nonneg (x : ∀ q ∈ l, 1 ≤ q.2) (k : Int) : 0 ≤ qcnt l k := by
  unfold qcnt
  cases e : alook l k with
  | none => exact Int.le_refl _
  | some v => have h : (1 : Int) ≤ v := x _ (alook_mem e); show (0 : Int) ≤ v; omega
theorem qcnt_le (x : ∀ q ∈ l, 1 ≤ q.2) (k : Int) : qcnt l k ≤ asum l := by
  have := asum_del k l
  have h2 := asum_nonneg (l := adel l k) fun q hq => x q (adel_sub k l q hq)
  unfold qcnt
  omega
theorem t_QNew {each all : Int} {K : Option Addr × Int → H → Prop} (bad : (each < 1 ∨ 256 < each ∨ all < 1 ∨ 256 < all) → K (none, 16) h)
    (good : 1 ≤ each → each ≤ 256 → 1 ≤ all → all ≤ 256 → ∀ p b h', QuotaAt h' p b each all [] → Keeps h h' → h p = none → h b = none → K (some ⟨p, 0, none⟩, 0) h') : m_quota_New each all K h := by
  unfold m_quota_New
  refine w_if (fun c => bad ?_) fun c => ?_
  · simp only [Bool.or_eq_true, decide_eq_true_eq] at c; omega
  · simp only [Bool.or_eq_false_iff, decide_eq_false_iff_not] at c
    refine w_makeMap (Value.int .i64) (Value.int .i64) fun b h1 f1 x1 k1 => w_new fun p fp => ?_
    have hb : ∃ o, h1 b = some o := by obtain ⟨_, _, e, _⟩ := x1.ex; exact ⟨_, e⟩
    refine good (by omega) (by omega) (by omega) (by omega) p b _ ⟨upd_same _ _ _, x1.keep (.new fp), fun e => ?_, List.nodup_nil, fun q hq => (by cases hq), by decide⟩ (k1.trans (.new fp)) (k1.fresh fp) f1
    subst e; obtain ⟨o, e⟩ := hb; rw [fp] at e; cases e
theorem t_QOf (x : QuotaAt h p b each all l) {k : Int} {K : Int → H → Prop} (y : K (qcnt l k) h) : m_quota_Quota_Of (some ⟨p, 0, none⟩) k K h := by
  unfold m_quota_Quota_Of
  exact w_deref (w_load x.f2 (w_lookup (keyI (by kernel_rfl)) x.map y))
theorem t_QAll (x : QuotaAt h p b each all l) {K : Int → H → Prop} (y : ∀ h', Keeps h h' → K (asum l) h') : m_quota_Quota_All (some ⟨p, 0, none⟩) K h := by
  unfold m_quota_Quota_All
  refine w_deref (w_load x.f2 (w_range x.map fun it h1 f1 it1 k1 => ?_))
  have hne : it.block ≠ b := fun e => by
    obtain ⟨_, _, z, _⟩ := x.map.ex
    rw [e, z] at f1; cases f1
  refine w_for l.length (fun j s h' => ∃ rest at_, IterOf (Value.int .i64) (Value.int .i64) h' it b l rest at_ ∧ rest.length + j = l.length ∧ s + asum rest = asum l ∧ 0 ≤ s ∧ (∀ q ∈ rest, 1 ≤ q.2) ∧ But (· = it.block) h1 h') ?_ ⟨l, none, it1, rfl, by omega, Int.le_refl _, x.pos, .refl _ _⟩
  rintro rec j s h2 hj ⟨rest, at_, it2, hl, hs, hs0, hp, b2⟩ more
  refine w_next it2 hne (fun e => w_ifF rfl ?_) fun q rest' h3 pm it3 b3 d3 => w_ifT rfl (w_entry it3 ?_)
  · subst e
    have : s = asum l := by simpa [asum] using hs
    subst this
    exact y h2 (k1.but b2 fun n e => by subst e; exact f1)
  · have e1 := asum_perm pm
    have e2 := pm.length_eq
    have hp' : ∀ z ∈ q :: rest', 1 ≤ z.2 := fun z hz => hp z (pm.symm.subset hz)
    have h0 := asum_nonneg fun z hz => hp' z (List.mem_cons_of_mem _ hz)
    have h1q := hp' q (List.mem_cons_self ..)
    have hb := x.bnd
    simp only [asum, List.length_cons] at e1 e2
    refine more _ _ (by omega) ⟨rest', some q, it3, by omega, ?_, ?_, fun z hz => hp' z (List.mem_cons_of_mem _ hz), b2.trans b3 fun _ f => .inl f⟩
    · rw [iAdd_eq (by omega) (by omega)]; omega
    · rw [iAdd_eq (by omega) (by omega)]; omega
def mayOf (each all : Int) (l : List (Int × Int)) (k : Int) : Int := if each ≤ qcnt l k then 9 else if all ≤ asum l then 10 else 0
theorem t_QMay (x : QuotaAt h p b each all l) {k : Int} {K : Int → H → Prop} (y : ∀ h', Keeps h h' → K (mayOf each all l k) h') : m_quota_Quota_May (some ⟨p, 0, none⟩) k K h := by
  unfold m_quota_Quota_May
  unfold mayOf at y
  refine w_deref (w_joinV (qcnt l k, each) (fun j hj => w_both (t_QOf x (w_load x.f0 hj)) (w_load x.f0 (t_QOf x hj))) ?_)
  refine w_if' (fun c => ?_) fun c => ?_
  · have c : each ≤ qcnt l k := c
    simp only [if_pos c] at y
    exact y h (.refl _)
  have c : ¬ each ≤ qcnt l k := c
  simp only [if_neg c] at y
  refine w_deref (w_joinP (fun z h' => z = (asum l, all) ∧ Keeps h h') (fun j hj => w_both (t_QAll x fun h' k' => w_load (x.keep k').f1 (hj _ _ ⟨rfl, k'⟩)) (w_load x.f1 (t_QAll x fun h' k' => hj _ _ ⟨rfl, k'⟩))) ?_)
  rintro _ h' ⟨rfl, k'⟩
  refine w_if' (fun c2 => ?_) fun c2 => ?_
  · have c2 : all ≤ asum l := c2
    simp only [if_pos c2] at y
    exact y h' k'
  · have c2 : ¬ all ≤ asum l := c2
    simp only [if_neg c2] at y
    exact y h' k'
def addL (each all : Int) (l : List (Int × Int)) (k : Int) : List (Int × Int) := if mayOf each all l k = 0 then aset l k (qcnt l k + 1) else l
theorem may_zero {each all : Int} {l : List (Int × Int)} {k : Int} (h : mayOf each all l k = 0) : qcnt l k < each ∧ asum l < all := by
  unfold mayOf at h
  split at h
  · cases h
  · split at h
    · cases h
    · omega
structure Chg (b : Nat) (h h' : H) : Prop where
  but : But (· = b) h h'
  dom : ∀ c, h' c = none → h c = none
theorem Chg.refl (b : Nat) (h : H) : Chg b h h := ⟨.refl _ _, fun _ e => e⟩
theorem Chg.keeps {b : Nat} {h h' : H} (k : Keeps h h') : Chg b h h' := ⟨.of k, fun _ e => k.fresh e⟩
theorem Chg.trans {b : Nat} {h h1 h2 : H} (x : Chg b h h1) (y : Chg b h1 h2) : Chg b h h2 := ⟨x.but.trans y.but fun _ f => .inl f, fun c e => x.dom c (y.dom c e)⟩
theorem QuotaAt.set (x : QuotaAt h p b each all l) {h' : H} {k v : Int} (m : MapOf (Value.int .i64) (Value.int .i64) h' b (aset l k v)) (bt : But (· = b) h h') (hv : 1 ≤ v) (hs : asum l - qcnt l k + v ≤ 256) : QuotaAt h' p b each all (aset l k v) :=
  ⟨bt _ _ x.cell x.ne, m, x.ne, x.once.set _ _, fun q hq => (aset_mem k v l q hq).elim (fun e => by rw [e]; exact hv) (x.pos q), by rw [asum_set]; exact hs⟩
theorem t_QAdd (x : QuotaAt h p b each all l) (ha : all ≤ 256) {k : Int} {K : Int → H → Prop} (y : ∀ h', QuotaAt h' p b each all (addL each all l k) → Chg b h h' → K (mayOf each all l k) h') : m_quota_Quota_Add (some ⟨p, 0, none⟩) k K h := by
  unfold m_quota_Quota_Add
  refine t_QMay x fun h1 k1 => ?_
  have x1 := x.keep k1
  unfold addL at y
  refine w_if' (fun c => ?_) fun c => ?_
  · simp only [if_pos c] at y
    obtain ⟨m1, m2⟩ := may_zero c
    have c0 := qcnt_nonneg x.pos k
    have c1 := qcnt_le x.pos k
    have hb := x.bnd
    refine w_deref (w_load x1.f2 (w_lookup (keyI (by kernel_rfl)) x1.map ?_))
    show mMapSet _ _ _ (Value.int .i64 (iAdd .i64 (qcnt l k) 1)) _ h1
    rw [iAdd_eq (by omega) (by omega)]
    refine w_mapSet (keyI (by kernel_rfl)) x1.map rfl rfl fun h2 mp b2 d2 => ?_
    exact y h2 (x1.set mp b2 (by omega) (by omega)) ((Chg.keeps k1).trans ⟨b2, d2⟩)
  · simp only [if_neg c] at y
    exact y h1 x1 (.keeps k1)
def subOk (l : List (Int × Int)) (k n : Int) : Bool := decide (0 ≤ n) && decide (n ≤ qcnt l k)
def subL (l : List (Int × Int)) (k n : Int) : List (Int × Int) := if subOk l k n = true then (if qcnt l k - n = 0 then adel l k else aset l k (qcnt l k - n)) else l
theorem adel_aset {k v : Int} : ∀ l : List (Int × Int), adel (aset l k v) k = adel l k := by
  intro l
  induction l with
  | nil => simp [aset, aidx, adel]
  | cons p r ih =>
    obtain ⟨a, w⟩ := p
    rw [aset_cons, adel_cons]
    by_cases e : k = a
    · rw [if_pos e, if_pos e, adel_cons, if_pos rfl]
    · rw [if_neg e, if_neg e, adel_cons, if_neg e, ih]
theorem t_QSub (x : QuotaAt h p b each all l) {k n : Int} {K : Int → H → Prop} (y : ∀ h', QuotaAt h' p b each all (subL l k n) → Chg b h h' → K (if subOk l k n = true then 0 else 20) h') : m_quota_Quota_Sub (some ⟨p, 0, none⟩) k n K h := by
  unfold m_quota_Quota_Sub
  unfold subL at y
  have c0 := qcnt_nonneg x.pos k
  have c1 := qcnt_le x.pos k
  have hb := x.bnd
  refine w_joinV (!subOk l k n) (fun j hj => w_if' (fun c => ?_) fun c => ?_) ?_
  · unfold subOk at hj
    rw [decide_eq_false (by omega : ¬ 0 ≤ n)] at hj
    exact hj
  · refine t_QOf x ?_
    have e : decide (qcnt l k < n) = !subOk l k n := by
      unfold subOk
      rw [decide_eq_true (by omega : 0 ≤ n), Bool.true_and]
      rw [Bool.eq_iff_iff]; simp
    rw [e]; exact hj
  refine w_if (fun c => ?_) fun c => ?_
  · rw [Bool.not_eq_true'] at c
    rw [c] at y
    exact y h x (.refl _ _)
  rw [Bool.not_eq_false'] at c
  rw [c] at y
  simp only [if_true] at y
  have c' := c
  unfold subOk at c'
  rw [Bool.and_eq_true, decide_eq_true_eq, decide_eq_true_eq] at c'
  refine w_deref (w_load x.f2 (w_lookup (keyI (by kernel_rfl)) x.map ?_))
  show mMapSet _ _ _ (Value.int .i64 (iSub .i64 (qcnt l k) n)) _ h
  rw [iSub_eq (by omega) (by omega)]
  refine w_mapSet (keyI (by kernel_rfl)) x.map rfl rfl fun h2 mp b2 d2 => ?_
  have g2 : At h2 ((⟨p, 0, none⟩ : Addr).add 2) (cMap (some b)) := x.f2.but b2 fun e => x.ne (by rw [add_block] at e; exact e)
  refine w_deref (w_load g2 (w_lookup (keyI (by kernel_rfl)) mp ?_))
  have hlk : (alook (aset l k (qcnt l k - n)) k).getD 0 = qcnt l k - n := by rw [alook_set, if_pos rfl]; rfl
  show mIf (decide ((alook (aset l k (qcnt l k - n)) k).getD 0 = 0)) _ _ h2
  rw [hlk]
  refine w_if' (fun c2 => ?_) fun c2 => ?_
  · simp only [if_pos c2] at y
    refine w_deref (w_load g2 (w_mapDel (keyI (by kernel_rfl)) mp rfl fun h3 mp3 b3 d3 => ?_))
    rw [adel_aset] at mp3
    refine y h3 ⟨b3 _ _ (b2 _ _ x.cell x.ne) x.ne, mp3, x.ne, x.once.del k, fun q hq => x.pos q (adel_sub k l q hq), ?_⟩ ((⟨b2, d2⟩ : Chg b h h2).trans ⟨b3, d3⟩)
    rw [asum_del]
    show asum l - qcnt l k ≤ 256
    omega
  · simp only [if_neg c2] at y
    exact y h2 (x.set mp b2 (by omega) (by omega)) ⟨b2, d2⟩
end
section
variable {h : H} {p b : Nat} {each all : Int} {l : List (Int × Int)}
theorem cnt_set (k v k' : Int) (l : List (Int × Int)) : qcnt (aset l k v) k' = if k' = k then v else qcnt l k' := by
  unfold qcnt
  rw [alook_set]
  split <;> rfl
theorem cnt_del (k k' : Int) {l : List (Int × Int)} (x : Once l) : qcnt (adel l k) k' = if k' = k then 0 else qcnt l k' := by
  unfold qcnt
  rw [alook_del k k' l x]
  split <;> rfl
theorem subL_eq {l : List (Int × Int)} {k n : Int} (ho : Once l) (e : subOk l k n = true) : asum (subL l k n) = asum l - n ∧ ∀ k', qcnt (subL l k n) k' = if k' = k then qcnt l k - n else qcnt l k' := by
  unfold subL
  rw [if_pos e]
  split
  · rename_i z
    refine ⟨by rw [asum_del]; show asum l - qcnt l k = _; omega, fun k' => ?_⟩
    rw [cnt_del k k' ho, z]
  · refine ⟨by rw [asum_set]; show asum l - qcnt l k + (qcnt l k - n) = _; omega, fun k' => cnt_set _ _ _ _⟩
end
end Go.Proofs.YtdleanjofhghnaaGreatDoor.K
namespace Go.Proofs.YtdleanjofhghnaaGreatDoor.K
open Go Go.Proofs
def m_ref12_New (a0 : Int) (a1 : Int) (K : (Option Addr × Int) → H → Prop) : H → Prop :=
 mIf ((((decide (a0 < 1)) || (decide (256 < a0))) || (decide (a1 < 1))) || (decide (256 < a1))) (
 K (none, 16)
 ) (
 mNew 88 #[(Value.int .i64 a0), (Value.int .i64 a1), (Sl.val Sl.nil)] fun ad1 =>
 K ((some ad1), 0)
 )
def x_ref12_New : Cx Tryz.prog := ⟨tys, [], [], [], mixed⟩
def h_ref12_New : Hint := (.seq .d (.seq (.seq (.reg (.run [3, 7, 11] (.sel 8 11 3584 (.run [15, 19, 23] .nil) (.run [15, 19, 23] .nil) (.run [27] (.sel 12 15 57344 (.run [31, 35, 39] .nil) (.run [31, 35, 39] .nil) (.run [43] (.sel 16 19 917504 (.run [47, 51, 55] .nil) (.run [47, 51, 55] .nil) .nil))))))) .d) .d))
def s_ref12_New : Spec Tryz.prog := mkSpec x_ref12_New 18 Tryz.f18 [(tInt .i64), (tInt .i64)] [tPtr, (tInt .i64)] false h_ref12_New (fun a => m_ref12_New a.1 a.2) (fun a K h => by kernel_rfl) callee18 rfl
def m_ref12_Quota_Of (a0 : Option Addr) (a1 : Int) (K : (Int) → H → Prop) : H → Prop :=
 mLoop (fun (rec2 : (Int × Int) → H → Prop) (s1 : Int × Int) =>
 mDeref a0 fun ad3 =>
 mLoad cSl (ad3.add 2) fun x4 =>
 mIf (decide (s1.2 < (x4.len : Int))) (
 mDeref a0 fun ad5 =>
 mLoad cSl (ad5.add 2) fun x6 =>
 mIdx x6 s1.2 1 fun ad7 =>
 mLoad (cInt .i64) ad7 fun x8 =>
 mIf (decide (x8 = a1)) (
 rec2 ((iAdd .i64 s1.1 1), (iAdd .i64 s1.2 1))
 ) (
 rec2 (s1.1, (iAdd .i64 s1.2 1))
 )
 ) (
 K s1.1
 )
 ) (0, 0)
def x_ref12_Quota_Of : Cx Tryz.prog := ⟨tys, [], [], [], mixed⟩
def h_ref12_Quota_Of : Hint := (.seq .d (.seq .d (.seq (.seq .d (.blk (.loop [.slot 5 (tInt .i64), .slot 6 (tInt .i64)] 134217696 [] .d))) .d)))
def s_ref12_Quota_Of : Spec Tryz.prog := mkSpec x_ref12_Quota_Of 32 Tryz.f32 [tPtr, (tInt .i64)] [(tInt .i64)] false h_ref12_Quota_Of (fun a => m_ref12_Quota_Of a.1 a.2) (fun a K h => by kernel_rfl) callee32 rfl
def m_ref12_Quota_May (a0 : Option Addr) (a1 : Int) (K : (Int) → H → Prop) : H → Prop :=
 mDeref a0 fun ad1 =>
 mJoin (fun (s2 : Int × Int) =>
 mIf (decide (s2.2 ≤ s2.1)) (
 K 9
 ) (
 mDeref a0 fun ad8 =>
 mDeref a0 fun ad9 =>
 mLoad cSl (ad8.add 2) fun x10 =>
 mLoad (cInt .i64) (ad9.add 1) fun x11 =>
 mIf (decide (x11 ≤ (x10.len : Int))) (
 K 10
 ) (
 K 0
 )
 )
 ) (fun j3 =>
 mBoth (
 m_ref12_Quota_Of a0 a1 fun r4 =>
 mLoad (cInt .i64) (ad1.add 0) fun x5 =>
 j3 (r4, x5)
 ) (
 mLoad (cInt .i64) (ad1.add 0) fun x6 =>
 m_ref12_Quota_Of a0 a1 fun r7 =>
 j3 (r7, x6)
 ))
def x_ref12_Quota_May : Cx Tryz.prog := ⟨tys, [s_ref12_Quota_Of], [], [], mixed⟩
def h_ref12_Quota_May : Hint := (.seq .d (.seq (.seq (.reg (.run [0, 4, 12, 16, 20] (.join [.slot 7 (tInt .i64), .slot 11 (tInt .i64)] 2176 [] (.both 2 6 (.run [26] .nil) (.run [11] .nil)) (.run [28] .nil)))) .d) (.seq (.seq (.reg (.run [0, 4, 8, 20, 24, 28, 14, 16, 34, 36] .nil)) .d) .d)))
def s_ref12_Quota_May : Spec Tryz.prog := mkSpec x_ref12_Quota_May 43 Tryz.f43 [tPtr, (tInt .i64)] [(tInt .i64)] false h_ref12_Quota_May (fun a => m_ref12_Quota_May a.1 a.2) (fun a K h => by kernel_rfl) callee43 rfl
def m_ref12_Quota_Add (a0 : Option Addr) (a1 : Int) (K : (Int) → H → Prop) : H → Prop :=
 m_ref12_Quota_May a0 a1 fun r1 =>
 mIf (decide (r1 = 0)) (
 mDeref a0 fun ad2 =>
 mLoad cSl (ad2.add 2) fun x3 =>
 mApp 3 1 8 #[(Value.int .i64 0)] 1 [(Value.int .i64 a1)] x3 fun s4 =>
 mDeref a0 fun ad5 =>
 mStore (ad5.add 2) [(Sl.val s4)] <|
 K r1
 ) (
 K r1
 )
def x_ref12_Quota_Add : Cx Tryz.prog := ⟨tys, [s_ref12_Quota_May], [17], [], mixed⟩
def h_ref12_Quota_Add : Hint := .d
def s_ref12_Quota_Add : Spec Tryz.prog := mkSpec x_ref12_Quota_Add 46 Tryz.f46 [tPtr, (tInt .i64)] [(tInt .i64)] false h_ref12_Quota_Add (fun a => m_ref12_Quota_Add a.1 a.2) (fun a K h => by kernel_rfl) callee46 rfl
def m_ref12_Quota_Sub (a0 : Option Addr) (a1 : Int) (a2 : Int) (K : (Int) → H → Prop) : H → Prop :=
 mJoin (fun (s2 : Bool) =>
 mIf s2 (
 K 20
 ) (
 mLoop (fun (rec5 : (Int × Sl × Int) → H → Prop) (s4 : Int × Sl × Int) =>
 mDeref a0 fun ad6 =>
 mLoad cSl (ad6.add 2) fun x7 =>
 mIf (decide (s4.2.2 < (x7.len : Int))) (
 mDeref a0 fun ad8 =>
 mLoad cSl (ad8.add 2) fun x9 =>
 mIdx x9 s4.2.2 1 fun ad10 =>
 mLoad (cInt .i64) ad10 fun x11 =>
 mIf ((decide (x11 = a1)) && (decide (0 < s4.1))) (
 rec5 ((iSub .i64 s4.1 1), s4.2.1, (iAdd .i64 s4.2.2 1))
 ) (
 mDeref a0 fun ad12 =>
 mLoad cSl (ad12.add 2) fun x13 =>
 mIdx x13 s4.2.2 1 fun ad14 =>
 mLoad (cInt .i64) ad14 fun x15 =>
 mApp 3 1 8 #[(Value.int .i64 0)] 1 [(Value.int .i64 x15)] s4.2.1 fun s16 =>
 rec5 (s4.1, s16, (iAdd .i64 s4.2.2 1))
 )
 ) (
 mDeref a0 fun ad17 =>
 mStore (ad17.add 2) [(Sl.val s4.2.1)] <|
 K 0
 )
 ) (a2, Sl.nil, 0)
 )
 ) (fun j3 =>
 mIf (decide (a2 < 0)) (
 j3 true
 ) (
 m_ref12_Quota_Of a0 a1 fun r18 =>
 j3 (decide (r18 < a2))
 ))
def x_ref12_Quota_Sub : Cx Tryz.prog := ⟨tys, [s_ref12_Quota_Of], [50], [], mixed⟩
def h_ref12_Quota_Sub : Hint := (.seq .d (.seq (.seq (.reg (.run [3, 7, 11] (.join [.slot 17 tBool] 258048 [] (.split 11 (.run [15, 19, 23, 27, 31, 35] .nil) (.run [15, 19, 23, 27, 31, 35] .nil)) .nil))) .d) (.seq .d (.seq (.seq .d (.blk (.loop [.slot 2 (tInt .i64), .slot 7 tSl, .slot 8 (tInt .i64)] 4503599627108740 [] (.seq .d (.seq (.blk (.seq (.reg (.run [3, 7, 11, 15, 19, 23, 27, 31, 35, 39] (.sel 36 39 962072674304 (.run [43, 47, 51] .nil) (.run [43, 47, 51] .nil) .nil))) .d)) .d))))) .d))))
def s_ref12_Quota_Sub : Spec Tryz.prog := mkSpec x_ref12_Quota_Sub 28 Tryz.f28 [tPtr, (tInt .i64), (tInt .i64)] [(tInt .i64)] false h_ref12_Quota_Sub (fun a => m_ref12_Quota_Sub a.1 a.2.1 a.2.2) (fun a K h => by kernel_rfl) callee28 rfl
end Go.Proofs.YtdleanjofhghnaaGreatDoor.K
namespace Go.Proofs.YtdleanjofhghnaaGreatDoor.K
open Go
structure RefQ (h : H) (r : Nat) (each most : Int) (s : Sl) (L : List Int) : Prop where
  cell : h r = some (.cells (S_ref12_Quota.cells ⟨each, most, s⟩).toArray N_ref12_Quota (0, 0))
  buf : Buf (cInt .i64) 1 N_int h s L
  ne : ¬ s.foot r
  len : L.length ≤ 256
def rmayOf (each most : Int) (L : List Int) (k : Int) : Int := if each ≤ (L.count k : Int) then 9 else if most ≤ (L.length : Int) then 10 else 0
section
variable {h : H} {r : Nat} {each most : Int} {s : Sl} {L : List Int}
theorem RefQ.but {h' : H} {F : Nat → Prop} (x : RefQ h r each most s L) (k : But F h h') (f1 : ¬ F r) (f2 : ∀ c, s.foot c → ¬ F c) : RefQ h' r each most s L :=
  ⟨k _ _ x.cell f1, x.buf.but k fun a ha => f2 _ ⟨a, ha, rfl⟩, x.ne, x.len⟩
theorem RefQ.keep {h' : H} (x : RefQ h r each most s L) (k : Keeps h h') : RefQ h' r each most s L := ⟨k _ _ x.cell, x.buf.keep k, x.ne, x.len⟩
theorem RefQ.f0 (x : RefQ h r each most s L) : At h ((⟨r, 0, none⟩ : Addr).add 0) (cInt .i64 each) := At.own (l1 := []) (l3 := (S_ref12_Quota.cells ⟨each, most, s⟩).drop 1) x.cell rfl
theorem RefQ.f1 (x : RefQ h r each most s L) : At h ((⟨r, 0, none⟩ : Addr).add 1) (cInt .i64 most) := At.own (l1 := (S_ref12_Quota.cells ⟨each, most, s⟩).take 1) (l3 := (S_ref12_Quota.cells ⟨each, most, s⟩).drop 2) x.cell rfl
theorem RefQ.f2 (x : RefQ h r each most s L) : At h ((⟨r, 0, none⟩ : Addr).add 2) (cSl s) := At.own (l1 := (S_ref12_Quota.cells ⟨each, most, s⟩).take 2) (l3 := []) x.cell rfl
theorem t_QRNew {each most : Int} {K : Option Addr × Int → H → Prop} (bad : (each < 1 ∨ 256 < each ∨ most < 1 ∨ 256 < most) → K (none, 16) h)
    (good : 1 ≤ each → each ≤ 256 → 1 ≤ most → most ≤ 256 → ∀ r h', RefQ h' r each most Sl.nil [] → Keeps h h' → h r = none → K (some ⟨r, 0, none⟩, 0) h') : m_ref12_New each most K h := by
  unfold m_ref12_New
  refine w_if (fun c => bad ?_) fun c => ?_
  · simp only [Bool.or_eq_true, decide_eq_true_eq] at c; omega
  · simp only [Bool.or_eq_false_iff, decide_eq_false_iff_not] at c
    exact w_new fun r fr => good (by omega) (by omega) (by omega) (by omega) r _ ⟨upd_same _ _ _, Buf.nil, (fun ⟨a, ha, _⟩ => by cases ha), by decide⟩ (.new fr) fr
theorem t_QROf (x : RefQ h r each most s L) {k : Int} {K : Int → H → Prop} (y : K (L.count k : Int) h) : m_ref12_Quota_Of (some ⟨r, 0, none⟩) k K h := by
  unfold m_ref12_Quota_Of
  have hl := x.buf.len
  have hL := x.len
  refine w_for L.length (fun j z h' => z = ((((L.take j).count k : Nat) : Int), (j : Int)) ∧ h = h') ?_ ⟨rfl, rfl⟩
  rintro rec j _ _ hj ⟨rfl, rfl⟩ more
  refine w_deref (w_load x.f2 (w_if' (fun c => ?_) fun c => ?_))
  · have c : (j : Int) < (s.len : Int) := c
    have e : L[j]? = some L[j] := List.getElem?_eq_getElem (by omega)
    have hct : ((L.take j).count k) ≤ j := by
      have h1 := List.count_le_length (a := k) (l := L.take j)
      rw [List.length_take] at h1; omega
    refine w_deref (w_load x.f2 (w_get ci_len x.buf.arr e rfl (v' := L[j]) rfl ?_))
    have et : (L.take (j + 1)).count k = (L.take j).count k + if L[j] = k then 1 else 0 := by
      rw [List.take_add_one, e, Option.toList_some, List.count_append, List.count_singleton]
      by_cases q : L[j] = k
      · rw [if_pos q, if_pos (by simpa using q)]
      · rw [if_neg q, if_neg (by simpa using q)]
    show mIf (decide (L[j] = k)) (rec (iAdd .i64 (((L.take j).count k : Nat) : Int) 1, iAdd .i64 (j : Int) 1)) (rec ((((L.take j).count k : Nat) : Int), iAdd .i64 (j : Int) 1)) h
    rw [ia1 j (by omega), ia1 ((L.take j).count k) (by omega)]
    refine w_if' (fun c2 => ?_) fun c2 => ?_
    · rw [if_pos c2] at et
      exact more _ _ (by omega) ⟨by rw [et], rfl⟩
    · rw [if_neg c2] at et
      exact more _ _ (by omega) ⟨by rw [et]; rfl, rfl⟩
  · have c : ¬ (j : Int) < (s.len : Int) := c
    obtain rfl : j = L.length := by omega
    rw [List.take_length]
    exact y
theorem t_QRMay (x : RefQ h r each most s L) {k : Int} {K : Int → H → Prop} (y : K (rmayOf each most L k) h) : m_ref12_Quota_May (some ⟨r, 0, none⟩) k K h := by
  unfold m_ref12_Quota_May
  unfold rmayOf at y
  have hl := x.buf.len
  refine w_deref (w_joinV ((L.count k : Int), each) (fun j hj => w_both (t_QROf x (w_load x.f0 hj)) (w_load x.f0 (t_QROf x hj))) ?_)
  refine w_if' (fun c => ?_) fun c => ?_
  · have c : each ≤ (L.count k : Int) := c
    rw [if_pos c] at y; exact y
  have c : ¬ each ≤ (L.count k : Int) := c
  rw [if_neg c] at y
  refine w_deref (w_deref (w_load x.f2 (w_load x.f1 (w_if' (fun c2 => ?_) fun c2 => ?_))))
  · rw [if_pos (by omega)] at y; exact y
  · rw [if_neg (by omega)] at y; exact y
theorem t_RAdd (x : RefQ h r each most s L) (hm : most ≤ 256) {k : Int} {K : Int → H → Prop}
    (y : ∀ s' L' h', (L' = if rmayOf each most L k = 0 then L ++ [k] else L) → RefQ h' r each most s' L' → But (fun c => c = r ∨ s.foot c) h h' → (∀ c, s'.foot c → s.foot c ∨ h c = none) → (∀ c, h' c = none → h c = none) → K (rmayOf each most L k) h') : m_ref12_Quota_Add (some ⟨r, 0, none⟩) k K h := by
  unfold m_ref12_Quota_Add
  have hL := x.len
  refine t_QRMay x (w_if' (fun c => ?_) fun c => ?_)
  · refine w_deref (w_load x.f2 ?_)
    refine w_app (by_ := 8) ci_len rfl x.buf [k] rfl rfl (.inl (by simp only [List.length_singleton]; omega)) fun s2 h2 bu2 b2 f2 d2 => ?_
    have c2 : h2 r = some (.cells (S_ref12_Quota.cells ⟨each, most, s⟩).toArray N_ref12_Quota (0, 0)) := b2 _ _ x.cell x.ne
    have nr : ¬ s2.foot r := fun f => (f2 r f).elim x.ne fun e => by rw [x.cell] at e; cases e
    have hlt : (L.length : Int) < most := by
      unfold rmayOf at c
      split at c
      · cases c
      · split at c
        · cases c
        · omega
    refine w_deref (w_store (l1 := (S_ref12_Quota.cells ⟨each, most, s⟩).take 2) (l2 := cSl s) (l3 := []) rfl c2 rfl rfl ?_)
    refine y s2 (L ++ [k]) _ (by rw [if_pos c]) ⟨upd_same _ _ _, bu2.but (But.upd (F := (· = r)) rfl) fun a ha e => nr ⟨a, ha, e⟩, nr, by simp; omega⟩ ?_ f2 fun c e => d2 c (upd_none.1 e).2
    exact (b2.mono fun n f => .inr f).trans (But.upd (F := (· = r)) rfl) fun n e => .inl (.inl e)
  · exact y s L h (by rw [if_neg c]) x (.refl _ _) (fun c f => .inl f) fun _ e => e
end
def RelQ (l : List (Int × Int)) (L : List Int) : Prop := (∀ k, qcnt l k = (L.count k : Int)) ∧ asum l = (L.length : Int)
theorem RelQ.code {each all : Int} {l : List (Int × Int)} {L : List Int} (x : RelQ l L) (k : Int) : mayOf each all l k = rmayOf each all L k := by
  unfold mayOf rmayOf
  rw [x.1 k, x.2]
theorem RelQ.add {each all : Int} {l : List (Int × Int)} {L : List Int} (x : RelQ l L) (k : Int) : RelQ (addL each all l k) (if rmayOf each all L k = 0 then L ++ [k] else L) := by
  unfold addL
  rw [x.code k]
  split
  · refine ⟨fun k' => ?_, ?_⟩
    · rw [cnt_set, List.count_append, x.1 k, List.count_singleton]
      by_cases e : k' = k
      · subst e; simp
      · rw [if_neg e, x.1 k', if_neg (by simpa using fun z => e z.symm)]; simp
    · rw [asum_set, List.length_append, x.2]
      show (L.length : Int) - qcnt l k + (qcnt l k + 1) = _
      simp; omega
  · exact x
def dropN (k : Int) : List Int → Int → List Int
  | [], _ => []
  | x :: r, n => if x = k ∧ 0 < n then dropN k r (n - 1) else x :: dropN k r n
theorem dropN_len (k : Int) : ∀ (L : List Int) (n : Int), (dropN k L n).length ≤ L.length := by
  intro L
  induction L with
  | nil => intro n; exact Nat.le_refl _
  | cons x r ih =>
    intro n
    unfold dropN
    split
    · have := ih (n - 1); simp; omega
    · have := ih n; simp; omega
theorem qcnt_cons (x : Int) (t : List Int) (k : Int) : (((x :: t).count k : Nat) : Int) = (t.count k : Int) + (if x = k then 1 else 0) := by
  rw [List.count_cons]
  by_cases q : x = k
  · rw [if_pos q, if_pos (by simpa using q)]; simp
  · rw [if_neg q, if_neg (by simpa using q)]; simp
theorem dropN_count (k : Int) : ∀ (L : List Int) (n : Int), 0 ≤ n → n ≤ (L.count k : Int) → (∀ k', ((dropN k L n).count k' : Int) = if k' = k then (L.count k : Int) - n else (L.count k' : Int)) ∧ ((dropN k L n).length : Int) = (L.length : Int) - n := by
  intro L
  induction L with
  | nil =>
    intro n h0 h1
    have : n = 0 := by simp at h1; omega
    subst this
    refine ⟨fun k' => ?_, rfl⟩
    split <;> simp [dropN]
  | cons x r ih =>
    intro n h0 h1
    rw [qcnt_cons] at h1
    unfold dropN
    by_cases c : x = k ∧ 0 < n
    · rw [if_pos c]
      rw [if_pos c.1] at h1
      obtain ⟨a, b⟩ := ih (n - 1) (by omega) (by omega)
      refine ⟨fun k' => ?_, by rw [b, List.length_cons]; omega⟩
      rw [a, qcnt_cons, qcnt_cons, if_pos c.1]
      by_cases e : k' = k
      · rw [if_pos e, if_pos e]; omega
      · rw [if_neg e, if_neg e, if_neg (fun z => e (z.symm.trans c.1))]; omega
    · rw [if_neg c]
      have hn : n ≤ (r.count k : Int) := by
        by_cases e : x = k
        · have : ¬ 0 < n := fun z => c ⟨e, z⟩
          omega
        · rw [if_neg e] at h1; omega
      obtain ⟨a, b⟩ := ih n h0 hn
      refine ⟨fun k' => ?_, by rw [List.length_cons, List.length_cons]; omega⟩
      rw [qcnt_cons, qcnt_cons, qcnt_cons, a]
      by_cases e : k' = k
      · rw [if_pos e, if_pos e, e]; omega
      · rw [if_neg e, if_neg e]
def rsubOk (L : List Int) (k n : Int) : Bool := decide (0 ≤ n) && decide (n ≤ (L.count k : Int))
theorem RelQ.subOk {l : List (Int × Int)} {L : List Int} (x : RelQ l L) (k n : Int) : subOk l k n = rsubOk L k n := by
  unfold K.subOk rsubOk
  rw [x.1 k]
theorem RelQ.sub {l : List (Int × Int)} {L : List Int} (x : RelQ l L) (ho : Once l) (k n : Int) : RelQ (subL l k n) (if rsubOk L k n = true then dropN k L n else L) := by
  cases e : rsubOk L k n with
  | false =>
    have : subL l k n = l := by unfold subL; rw [x.subOk, e]; rfl
    rw [this]; exact x
  | true =>
    have e' : K.subOk l k n = true := by rw [x.subOk, e]
    obtain ⟨h1, h2⟩ := subL_eq ho e'
    unfold rsubOk at e
    rw [Bool.and_eq_true, decide_eq_true_eq, decide_eq_true_eq] at e
    obtain ⟨a, b⟩ := dropN_count k L n e.1 e.2
    rw [if_pos rfl]
    refine ⟨fun k' => ?_, by rw [h1, b, x.2]⟩
    rw [h2, a, x.1 k, x.1 k']
section
variable {h : H} {r : Nat} {each most : Int} {s : Sl} {L : List Int}
theorem t_RSub (x : RefQ h r each most s L) {k n : Int} {K : Int → H → Prop}
    (y : ∀ s' L' h', (L' = if rsubOk L k n = true then dropN k L n else L) → RefQ h' r each most s' L' → But (· = r) h h' → (∀ c, s'.foot c → s.foot c ∨ h c = none) → (∀ c, h' c = none → h c = none) → K (if rsubOk L k n = true then 0 else 20) h') : m_ref12_Quota_Sub (some ⟨r, 0, none⟩) k n K h := by
  unfold m_ref12_Quota_Sub
  have hl := x.buf.len
  have hL := x.len
  refine w_joinV (!rsubOk L k n) (fun j hj => w_if' (fun c => ?_) fun c => ?_) ?_
  · unfold rsubOk at hj
    rw [decide_eq_false (by omega : ¬ 0 ≤ n)] at hj
    exact hj
  · refine t_QROf x ?_
    have e : decide ((L.count k : Int) < n) = !rsubOk L k n := by
      unfold rsubOk
      rw [decide_eq_true (by omega : 0 ≤ n), Bool.true_and, Bool.eq_iff_iff]; simp
    rw [e]; exact hj
  refine w_if (fun c => ?_) fun c => ?_
  · rw [Bool.not_eq_true'] at c
    rw [c] at y
    exact y s L h rfl x (.refl _ _) (fun c f => .inl f) fun _ e => e
  rw [Bool.not_eq_false'] at c
  rw [c] at y
  simp only [if_true] at y
  unfold rsubOk at c
  rw [Bool.and_eq_true, decide_eq_true_eq, decide_eq_true_eq] at c
  have hcl : (L.count k : Int) ≤ 256 := by have := List.count_le_length (a := k) (l := L); omega
  refine w_for L.length (fun j z h' => ∃ (m : Int) (so : Sl) (xs : List Int), z = (m, so, (j : Int)) ∧ 0 ≤ m ∧ m ≤ 256 ∧ xs ++ dropN k (L.drop j) m = dropN k L n ∧ xs.length ≤ j ∧ Buf (cInt .i64) 1 N_int h' so xs ∧ Keeps h h' ∧ (∀ c, so.foot c → h c = none)) ?_ ⟨n, Sl.nil, [], rfl, c.1, by omega, rfl, Nat.le_refl _, Buf.nil, .refl _, fun c ⟨a, ha, _⟩ => by cases ha⟩
  rintro rec j _ h1 hj ⟨m, so, xs, rfl, hm0, hm1, heq, hxl, bo, k1, fo⟩ more
  have x1 := x.keep k1
  refine w_deref (w_load x1.f2 (w_if' (fun c2 => ?_) fun c2 => ?_))
  · have c2 : (j : Int) < (s.len : Int) := c2
    have e : L[j]? = some L[j] := List.getElem?_eq_getElem (by omega)
    have hd : L.drop j = L[j] :: L.drop (j + 1) := by rw [List.drop_eq_getElem_cons (by omega)]
    rw [hd] at heq
    generalize L[j] = v at e heq
    rw [show dropN k (v :: L.drop (j + 1)) m = if v = k ∧ 0 < m then dropN k (L.drop (j + 1)) (m - 1) else v :: dropN k (L.drop (j + 1)) m from rfl] at heq
    refine w_deref (w_load x1.f2 (w_get ci_len x1.buf.arr e rfl (v' := v) rfl ?_))
    refine w_if (fun c3 => ?_) fun c3 => ?_
    · rw [Bool.and_eq_true, decide_eq_true_eq, decide_eq_true_eq] at c3
      have c3 : v = k ∧ 0 < m := c3
      rw [if_pos c3] at heq
      show rec (iSub .i64 m 1, so, iAdd .i64 (j : Int) 1) h1
      rw [ia1 j (by omega), iSub_eq (by omega) (by omega)]
      exact more _ _ (by omega) ⟨m - 1, so, xs, rfl, by omega, by omega, heq, by omega, bo, k1, fo⟩
    · have c3 : ¬ (v = k ∧ 0 < m) := fun q => by
        have c3 : (decide (v = k) && decide (0 < m)) = false := c3
        rw [decide_eq_true q.1, decide_eq_true q.2] at c3; cases c3
      rw [if_neg c3] at heq
      refine w_deref (w_load x1.f2 (w_get ci_len x1.buf.arr e rfl (v' := v) rfl ?_))
      refine w_app (by_ := 8) ci_len rfl bo [v] rfl rfl (.inl (by simp only [List.length_singleton]; omega)) fun s2 h2 bu2 b2 f2 d2 => ?_
      show rec (m, s2, iAdd .i64 (j : Int) 1) h2
      rw [ia1 j (by omega)]
      exact more _ _ (by omega) ⟨m, s2, xs ++ [v], rfl, hm0, hm1, by rw [List.append_assoc]; exact heq, by simp; omega, bu2, Keeps.but k1 b2 fo, fun c f => (f2 c f).elim (fo c) fun q => k1.fresh q⟩
  · have c2 : ¬ (j : Int) < (s.len : Int) := c2
    obtain rfl : j = L.length := by omega
    rw [List.drop_length] at heq
    have heq : xs = dropN k L n := by simpa [dropN] using heq
    have nr : ¬ so.foot r := fun f => by have := fo r f; rw [x.cell] at this; cases this
    refine w_deref (w_store (l1 := (S_ref12_Quota.cells ⟨each, most, s⟩).take 2) (l2 := cSl s) (l3 := []) rfl x1.cell rfl rfl ?_)
    refine y so xs _ (by rw [heq]) ⟨upd_same _ _ _, bo.but (But.upd (F := (· = r)) rfl) fun a ha e => nr ⟨a, ha, e⟩, nr, by rw [heq]; have := dropN_len k L n; omega⟩ ?_ (fun c f => .inr (fo c f)) fun c e => k1.fresh (upd_none.1 e).2
    exact (But.of k1).trans (But.upd (F := (· = r)) rfl) fun n e => .inl e
end
abbrev Owner := Nat → Option Nat
structure OC (i : Nat) (o o' : Owner) (h h' : H) : Prop where
  but : ∀ c x, h c = some x → o c ≠ some i → h' c = some x
  own : ∀ c t, o c = some t → o' c = some t
  new : ∀ c, o' c ≠ none → o c ≠ none ∨ h c = none
  dom : ∀ c, h' c = none → h c = none
structure OT (o o' : Owner) (h h' : H) : Prop where
  but : ∀ c x, h c = some x → o c = none → h' c = some x
  own : ∀ c t, o c = some t → o' c = some t
  new : ∀ c, o' c ≠ none → o c ≠ none ∨ h c = none
  dom : ∀ c, h' c = none → h c = none
def Owns (o : Owner) (h : H) : Prop := ∀ c, o c ≠ none → h c ≠ none
section
variable {i : Nat} {o o' o'' : Owner} {h h' h'' : H}
theorem OC.ot (k : OC i o o' h h') : OT o o' h h' := ⟨fun c x e n => k.but c x e (by rw [n]; simp), k.own, k.new, k.dom⟩
theorem OT.trans (x : OT o o' h h') (y : OT o' o'' h' h'') : OT o o'' h h'' := by
  refine ⟨fun c z e n => ?_, fun c t e => y.own c t (x.own c t e), fun c e => ?_, fun c e => x.dom c (y.dom c e)⟩
  · have h1 := x.but c z e n
    refine y.but c z h1 ?_
    cases q : o' c with
    | none => rfl
    | some t => exact (x.new c (by rw [q]; simp)).elim (fun q => (q n).elim) fun q => by rw [q] at e; cases e
  · rcases y.new c e with q | q
    · exact x.new c q
    · exact .inr (x.dom c q)
theorem OC.keeps (k : Keeps h h') : OC i o o h h' := ⟨fun c x e _ => k c x e, fun _ _ e => e, fun _ e => .inl e, fun _ e => k.fresh e⟩
theorem OC.bt (k : OC i o o' h h') : But (fun c => o c = some i) h h' := fun c x e n => k.but c x e n
open Classical in
/-- Part 'i' owns these blocks from now on. -/
noncomputable def give (o : Owner) (G : Nat → Prop) (i : Nat) : Owner := fun c => if o c = none ∧ G c then some i else o c
theorem give_old {G : Nat → Prop} {c t : Nat} (e : o c = some t) : give o G i c = some t := by
  unfold give; rw [if_neg (by rw [e]; simp)]; exact e
theorem give_new {G : Nat → Prop} {c : Nat} (g : G c) (e : o c = none ∨ o c = some i) : give o G i c = some i := by
  rcases e with e | e
  · unfold give; rw [if_pos ⟨e, g⟩]
  · exact give_old e
theorem give_ne {G : Nat → Prop} {c : Nat} (e : give o G i c ≠ none) : o c ≠ none ∨ G c := by
  by_cases q : o c = none ∧ G c
  · exact .inr q.2
  · unfold give at e; rw [if_neg q] at e; exact .inl e
theorem give_out {G : Nat → Prop} {c : Nat} (e : o c = none) (g : ¬ G c) : give o G i c = none := by
  unfold give; rw [if_neg (fun q => g q.2)]; exact e
theorem OC.of {G G' : Nat → Prop} (ow : Owns o h) (hG : ∀ c, G c → o c = some i) (k : KChg G G' h h') (has : ∀ c, G' c → h' c ≠ none) :
    OC i o (give o G' i) h h' ∧ Owns (give o G' i) h' ∧ ∀ c, G' c → give o G' i c = some i := by
  refine ⟨⟨fun c x e n => k.but c x e fun g => n (hG c g), fun c t e => give_old e, fun c e => ?_, k.dom⟩, fun c e => ?_, fun c g => give_new g ?_⟩
  · rcases give_ne e with q | q
    · exact .inl q
    · rcases k.foot c q with z | z
      · exact .inl (by rw [hG c z]; simp)
      · exact .inr z
  · rcases give_ne e with q | q
    · exact fun z => ow c q (k.dom c z)
    · exact has c q
  · rcases k.foot c g with z | z
    · exact .inr (hG c z)
    · cases q : o c with
      | none => exact .inl rfl
      | some t => exact absurd z (ow c (by rw [q]; simp))
theorem OC.fresh {G : Nat → Prop} (ow : Owns o h) (k : Keeps h h') (f : ∀ c, G c → h c = none) (has : ∀ c, G c → h' c ≠ none) :
    OC i o (give o G i) h h' ∧ Owns (give o G i) h' ∧ ∀ c, G c → give o G i c = some i :=
  OC.of (G := fun _ => False) ow (fun _ q => q.elim) ⟨.of k, fun c g => .inr (f c g), fun _ e => k.fresh e⟩ has
theorem Owns.keep (ow : Owns o h) (k : Keeps h h') : Owns o h' := fun c e z => ow c e (k.fresh z)
end
def CatO (h : H) (o : Owner) (i p : Nat) (es : List En) : Prop := ∃ knob G, Cat h p knob G es ∧ ∀ c, G c → o c = some i
def RefO (h : H) (o : Owner) (i p ev : Nat) (es : List En) : Prop := ∃ G, Ref h p ev G es ∧ ∀ c, G c → o c = some i
def QuoO (h : H) (o : Owner) (i p : Nat) (each all : Int) (l : List (Int × Int)) : Prop := ∃ b, QuotaAt h p b each all l ∧ o p = some i ∧ o b = some i
def RqO (h : H) (o : Owner) (i r : Nat) (each most : Int) (L : List Int) : Prop := ∃ s, RefQ h r each most s L ∧ o r = some i ∧ ∀ c, s.foot c → o c = some i
section
variable {i j : Nat} {o o' : Owner} {h h' : H} {p r s q ev : Nat} {es : List En} {each all most next : Int} {np : Nat} {l : List (Int × Int)} {L : List Int} {ob : List (Int × List UInt8)}
theorem CatO.oc (x : CatO h o i p es) (k : OC j o o' h h') (ne : i ≠ j) : CatO h' o' i p es := by
  obtain ⟨knob, G, a, b⟩ := x
  exact ⟨knob, G, a.but k.bt fun c e g => ne (by have := b c g; rw [e] at this; exact (Option.some.inj this).symm), fun c g => k.own _ _ (b c g)⟩
theorem RefO.oc (x : RefO h o i p ev es) (k : OC j o o' h h') (ne : i ≠ j) : RefO h' o' i p ev es := by
  obtain ⟨G, a, b⟩ := x
  exact ⟨G, a.but k.bt fun c e g => ne (by have := b c g; rw [e] at this; exact (Option.some.inj this).symm), fun c g => k.own _ _ (b c g)⟩
theorem QuoO.oc (x : QuoO h o i p each all l) (k : OC j o o' h h') (ne : i ≠ j) : QuoO h' o' i p each all l := by
  obtain ⟨b, a, b1, b2⟩ := x
  exact ⟨b, a.but k.bt (fun e => ne (by rw [b1] at e; exact Option.some.inj e)) (fun e => ne (by rw [b2] at e; exact Option.some.inj e)), k.own _ _ b1, k.own _ _ b2⟩
theorem RqO.oc (x : RqO h o i r each most L) (k : OC j o o' h h') (ne : i ≠ j) : RqO h' o' i r each most L := by
  obtain ⟨s, a, b1, b2⟩ := x
  exact ⟨s, a.but k.bt (fun e => ne (by rw [b1] at e; exact Option.some.inj e)) (fun c f e => ne (by rw [b2 c f] at e; exact Option.some.inj e)), k.own _ _ b1, fun c f => k.own _ _ (b2 c f)⟩
theorem o_find (x : CatO h o i p es) {c : S_api_Cap} {K : Int × Bool → H → Prop} (y : K (((findE es c).map fun n : Nat => (n : Int)).getD 0, (findE es c).isSome) h) : m_catalogue_Catalogue_Find (some ⟨p, 0, none⟩) c K h := by
  obtain ⟨_, _, a, _⟩ := x; exact t_CFind a y
theorem o_at (x : CatO h o i p es) {n : Int} {K : S_api_Token × Bool → H → Prop} (y : K (atOut es n) h) : m_catalogue_Catalogue_At (some ⟨p, 0, none⟩) n K h := by
  obtain ⟨_, _, a, _⟩ := x; exact t_CAt a y
theorem o_count (x : CatO h o i p es) {K : Int → H → Prop} (y : K ((capsG 0 es).length : Nat) h) : m_catalogue_Catalogue_Count (some ⟨p, 0, none⟩) K h := by
  obtain ⟨_, _, a, _⟩ := x; exact t_CCount a y
theorem CatO.wf (x : CatO h o i p es) : CWF es := by obtain ⟨_, _, a, _⟩ := x; exact a.wf
theorem o_of (x : CatO h o i p es) {n : Int} {K : Sl → H → Prop} (y : ∀ s' h', Buf cTok 5 N_api_Token h' s' (ofO es n) → Keeps h h' → (∀ c, s'.foot c → h c = none) → K s' h') : m_catalogue_Catalogue_Of (some ⟨p, 0, none⟩) n K h := by
  obtain ⟨_, _, a, _⟩ := x; exact t_COfU a y
theorem o_root (x : CatO h o i p es) (ow : Owns o h) {c : S_api_Cap} {r : Int} {K : Int × Int → H → Prop} (y : ∀ o' h', CatO h' o' i p (rootOut es c r).2 → OC i o o' h h' → Owns o' h' → K (rootOut es c r).1 h') : m_catalogue_Catalogue_Root (some ⟨p, 0, none⟩) c r K h := by
  obtain ⟨knob, G, a, b⟩ := x
  refine t_CRoot a fun G' h' a' k => ?_
  obtain ⟨k1, k2, k3⟩ := OC.of ow b k fun c g => a'.has g
  exact y _ h' ⟨knob, G', a', k3⟩ k1 k2
theorem o_child (x : CatO h o i p es) (ow : Owns o h) {n : Int} {c : S_api_Cap} {r : Int} {K : Int × Int → H → Prop} (y : ∀ o' h', CatO h' o' i p (childOut es n c r).2 → OC i o o' h h' → Owns o' h' → K (childOut es n c r).1 h') : m_catalogue_Catalogue_Child (some ⟨p, 0, none⟩) n c r K h := by
  obtain ⟨knob, G, a, b⟩ := x
  refine t_CChild a fun G' h' a' k => ?_
  obtain ⟨k1, k2, k3⟩ := OC.of ow b k fun c g => a'.has g
  exact y _ h' ⟨knob, G', a', k3⟩ k1 k2
theorem o_drop (x : CatO h o i p es) (ow : Owns o h) {m : Int} {K : Sl × Int → H → Prop} (no : atE es m = none → ∀ h', Keeps h h' → K (Sl.nil, 20) h')
    (y : ∀ n t ks, m = ((n : Nat) : Int) → Has es n t ks → Below es n (belowOf es n) → ∀ s' o' h', CatO h' o' i p (cutE (belowOf es n) es) → OC i o o' h h' → Owns o' h' → Buf S_api_Cap.cells 3 N_api_Cap h' s' ((belowOf es n).map (capAt es)) → (∀ c, s'.foot c → h c = none ∧ o' c = none) → K (s', 0) h') : m_catalogue_Catalogue_Drop (some ⟨p, 0, none⟩) m K h := by
  obtain ⟨knob, G, a, b⟩ := x
  refine t_CDrop a no fun n t ks l e hn bl s' G' h' a' k bu f ap => ?_
  obtain ⟨k1, k2, k3⟩ := OC.of ow b k fun c g => a'.has g
  have el := bl.eq
  subst el
  refine y n t ks e hn bl s' _ h' ⟨knob, G', a', k3⟩ k1 k2 bu fun c g => ⟨f c g, give_out ?_ (ap c g)⟩
  cases q : o c with
  | none => rfl
  | some t => exact absurd (f c g) (ow c (by rw [q]; simp))
theorem o_rfind (x : RefO h o i p ev es) {c : S_api_Cap} {K : Int × Bool → H → Prop} (y : K (((findE es c).map fun n : Nat => (n : Int)).getD 0, (findE es c).isSome) h) : m_ref11_Catalogue_Find (some ⟨p, 0, none⟩) c K h := by
  obtain ⟨_, a, _⟩ := x; exact t_RFind a y
theorem o_rat (x : RefO h o i p ev es) {n : Int} {K : S_api_Token × Bool → H → Prop} (y : K (atOut es n) h) : m_ref11_Catalogue_At (some ⟨p, 0, none⟩) n K h := by
  obtain ⟨_, a, _⟩ := x; exact t_RAt a y
theorem o_rcount (x : RefO h o i p ev es) {K : Int → H → Prop} (y : K ((capsG 0 es).length : Nat) h) : m_ref11_Catalogue_Count (some ⟨p, 0, none⟩) K h := by
  obtain ⟨_, a, _⟩ := x; exact t_RCount a y
theorem o_rof (x : RefO h o i p ev es) {n : Int} {K : Sl → H → Prop} (y : ∀ s' h', Buf cTok 5 N_api_Token h' s' (ofO es n) → Keeps h h' → (∀ c, s'.foot c → h c = none) → K s' h') : m_ref11_Catalogue_Of (some ⟨p, 0, none⟩) n K h := by
  obtain ⟨_, a, _⟩ := x
  exact t_ROf a (fun hno h' k => y _ h' (by rw [ofO_none hno]; exact Buf.nil) k fun c ⟨_, q, _⟩ => by cases q) fun n t ks l hn ho hp bl s' h' bu k f => y s' h' (by rw [ofO_some a.wf hn ho hp bl]; exact bu) k f
theorem o_rroot (x : RefO h o i p ev es) (ow : Owns o h) (he : ev < 9223372036854775807) {c : S_api_Cap} {r : Int} {K : Int × Int → H → Prop} (y : ∀ o' h' ev', ev' ≤ ev + 1 → RefO h' o' i p ev' (rootOut es c r).2 → OC i o o' h h' → Owns o' h' → K (rootOut es c r).1 h') : m_ref11_Catalogue_Root (some ⟨p, 0, none⟩) c r K h := by
  obtain ⟨G, a, b⟩ := x
  refine t_RRoot a he fun G' h' ev' le a' k => ?_
  obtain ⟨k1, k2, k3⟩ := OC.of ow b k fun c g => a'.has g
  exact y _ h' ev' le ⟨G', a', k3⟩ k1 k2
theorem o_rchild (x : RefO h o i p ev es) (ow : Owns o h) (he : ev < 9223372036854775807) {n : Int} {c : S_api_Cap} {r : Int} {K : Int × Int → H → Prop} (y : ∀ o' h' ev', ev' ≤ ev + 1 → RefO h' o' i p ev' (childOut es n c r).2 → OC i o o' h h' → Owns o' h' → K (childOut es n c r).1 h') : m_ref11_Catalogue_Child (some ⟨p, 0, none⟩) n c r K h := by
  obtain ⟨G, a, b⟩ := x
  refine t_RChild a he fun G' h' ev' le a' k => ?_
  obtain ⟨k1, k2, k3⟩ := OC.of ow b k fun c g => a'.has g
  exact y _ h' ev' le ⟨G', a', k3⟩ k1 k2
theorem o_rdrop (x : RefO h o i p ev es) (ow : Owns o h) {m : Int} {K : Sl × Int → H → Prop} (no : atE es m = none → K (Sl.nil, 20) h)
    (y : ∀ n t ks, m = ((n : Nat) : Int) → Has es n t ks → Below es n (belowOf es n) → ∀ s' o' h', RefO h' o' i p ev (cutE (belowOf es n) es) → OC i o o' h h' → Owns o' h' → Buf S_api_Cap.cells 3 N_api_Cap h' s' ((belowOf es n).map (capAt es)) → (∀ c, s'.foot c → h c = none ∧ o' c = none) → K (s', 0) h') : m_ref11_Catalogue_Drop (some ⟨p, 0, none⟩) m K h := by
  obtain ⟨G, a, b⟩ := x
  refine t_RDrop a no fun n t ks l e hn bl s' G' h' a' k bu f ap => ?_
  obtain ⟨k1, k2, k3⟩ := OC.of ow b k fun c g => a'.has g
  have el := bl.eq
  subst el
  refine y n t ks e hn bl s' _ h' ⟨G', a', k3⟩ k1 k2 bu fun c g => ⟨f c g, give_out ?_ (ap c g)⟩
  cases q : o c with
  | none => rfl
  | some t => exact absurd (f c g) (ow c (by rw [q]; simp))
theorem Chg.oc {b : Nat} (ow : Owns o h) (k : Chg b h h') (e : o b = some i) : OC i o o h h' ∧ Owns o h' := ⟨⟨fun c x hc n => k.but c x hc fun q => n (by (have q : c = b := q); rw [q, e]), fun _ _ q => q, fun _ q => .inl q, k.dom⟩, fun c q z => ow c q (k.dom c z)⟩
theorem o_qadd (x : QuoO h o i p each all l) (ow : Owns o h) (ha : all ≤ 256) {n : Int} {K : Int → H → Prop} (y : ∀ h', QuoO h' o i p each all (addL each all l n) → OC i o o h h' → Owns o h' → K (mayOf each all l n) h') : m_quota_Quota_Add (some ⟨p, 0, none⟩) n K h := by
  obtain ⟨b, a, b1, b2⟩ := x
  refine t_QAdd a ha fun h' a' k => ?_
  obtain ⟨k1, k2⟩ := k.oc ow b2
  exact y h' ⟨b, a', b1, b2⟩ k1 k2
theorem o_qsub (x : QuoO h o i p each all l) (ow : Owns o h) {n m : Int} {K : Int → H → Prop} (y : ∀ h', QuoO h' o i p each all (subL l n m) → OC i o o h h' → Owns o h' → K (if subOk l n m = true then 0 else 20) h') : m_quota_Quota_Sub (some ⟨p, 0, none⟩) n m K h := by
  obtain ⟨b, a, b1, b2⟩ := x
  refine t_QSub a fun h' a' k => ?_
  obtain ⟨k1, k2⟩ := k.oc ow b2
  exact y h' ⟨b, a', b1, b2⟩ k1 k2
theorem o_qof (x : QuoO h o i p each all l) {n : Int} {K : Int → H → Prop} (y : K (qcnt l n) h) : m_quota_Quota_Of (some ⟨p, 0, none⟩) n K h := by
  obtain ⟨_, a, _⟩ := x; exact t_QOf a y
theorem o_qall (x : QuoO h o i p each all l) {K : Int → H → Prop} (y : ∀ h', Keeps h h' → K (asum l) h') : m_quota_Quota_All (some ⟨p, 0, none⟩) K h := by
  obtain ⟨_, a, _⟩ := x; exact t_QAll a y
theorem o_rqadd (x : RqO h o i r each most L) (ow : Owns o h) (hm : most ≤ 256) {n : Int} {K : Int → H → Prop} (y : ∀ o' h', RqO h' o' i r each most (if rmayOf each most L n = 0 then L ++ [n] else L) → OC i o o' h h' → Owns o' h' → K (rmayOf each most L n) h') : m_ref12_Quota_Add (some ⟨r, 0, none⟩) n K h := by
  obtain ⟨s, a, b1, b2⟩ := x
  refine t_RAdd a hm fun s' L' h' e a' bt f d => ?_
  subst e
  have k : KChg (fun c => c = r ∨ s.foot c) (fun c => c = r ∨ s'.foot c) h h' := ⟨bt, fun c g => by
    rcases g with g | g
    · exact .inl (.inl g)
    · exact (f c g).imp .inr id, d⟩
  obtain ⟨k1, k2, k3⟩ := OC.of (i := i) (G := fun c => c = r ∨ s.foot c) ow (fun c g => g.elim (fun e => e ▸ b1) (b2 c)) k fun c g => by
    rcases g with rfl | g
    · rw [a'.cell]; simp
    · exact a'.buf.has g
  exact y _ h' ⟨s', a', k3 _ (.inl rfl), fun c g => k3 _ (.inr g)⟩ k1 k2
theorem o_rqsub (x : RqO h o i r each most L) (ow : Owns o h) {n m : Int} {K : Int → H → Prop} (y : ∀ o' h', RqO h' o' i r each most (if rsubOk L n m = true then dropN n L m else L) → OC i o o' h h' → Owns o' h' → K (if rsubOk L n m = true then 0 else 20) h') : m_ref12_Quota_Sub (some ⟨r, 0, none⟩) n m K h := by
  obtain ⟨s, a, b1, b2⟩ := x
  refine t_RSub a fun s' L' h' e a' bt f d => ?_
  subst e
  have k : KChg (fun c => c = r ∨ s.foot c) (fun c => c = r ∨ s'.foot c) h h' := ⟨bt.mono fun _ q => .inl q, fun c g => by
    rcases g with g | g
    · exact .inl (.inl g)
    · exact (f c g).imp .inr id, d⟩
  obtain ⟨k1, k2, k3⟩ := OC.of (i := i) (G := fun c => c = r ∨ s.foot c) ow (fun c g => g.elim (fun e => e ▸ b1) (b2 c)) k fun c g => by
    rcases g with rfl | g
    · rw [a'.cell]; simp
    · exact a'.buf.has g
  exact y _ h' ⟨s', a', k3 _ (.inl rfl), fun c g => k3 _ (.inr g)⟩ k1 k2
end
end Go.Proofs.YtdleanjofhghnaaGreatDoor.K
namespace Go.Proofs.YtdleanjofhghnaaGreatDoor.K
open Go Go.Proofs
def m_wide_cut (a0 : Int) (a1 : Int) (K : (Int) → H → Prop) : H → Prop :=
 mIf (decide (a1 ≤ 0)) (
 K 0
 ) (
 mIf (decide (64 ≤ a1)) (
 K a0
 ) (
 mNN a1 <|
 K (iAnd .u64 a0 (iSub .u64 (iShl .u64 1 a1) 1))
 )
 )
def x_wide_cut : Cx Tryz.prog := ⟨tys, [], [], [], mixed⟩
def h_wide_cut : Hint := .d
def s_wide_cut : Spec Tryz.prog := mkSpec x_wide_cut 71 Tryz.f71 [(tInt .u64), (tInt .i64)] [(tInt .u64)] true h_wide_cut (fun a => m_wide_cut a.1 a.2) (fun a K h => by kernel_rfl) callee71 rfl
def m_wide_Cut (a0 : S_api_Word) (a1 : Int) (K : (S_api_Word) → H → Prop) : H → Prop :=
 mPure (m_wide_cut a0.Hi (iSub .i64 (iMin (iMax a1 0) 128) 64)) fun r1 =>
 mPure (m_wide_cut a0.Lo (iMin (iMax a1 0) 128)) fun r2 =>
 K (⟨r1, r2⟩ : S_api_Word)
def x_wide_Cut : Cx Tryz.prog := ⟨tys, [s_wide_cut], [2, 4], [], mixed⟩
def h_wide_Cut : Hint := (.seq .d (.seq .d (.seq (.reg (.run [0, 8, 12, 20, 28, 5, 16, 25, 32, 36, 43] .nil)) .d)))
def s_wide_Cut : Spec Tryz.prog := mkSpec x_wide_Cut 39 Tryz.f39 [S_api_Word.ty, (tInt .i64)] [S_api_Word.ty] true h_wide_Cut (fun a => m_wide_Cut a.1 a.2) (fun a K h => by kernel_rfl) callee39 rfl
def m_ref01_Bit (a0 : S_api_Word) (a1 : Int) (K : (Int) → H → Prop) : H → Prop :=
 mIf (decide (a1 < 64)) (
 mNN (IntKind.wrap .u64 a1) <|
 K (IntKind.wrap .i64 (iRem .u64 (iShr .u64 a0.Lo (IntKind.wrap .u64 a1)) 2))
 ) (
 mNN (IntKind.wrap .u64 (iSub .i64 a1 64)) <|
 K (IntKind.wrap .i64 (iRem .u64 (iShr .u64 a0.Hi (IntKind.wrap .u64 (iSub .i64 a1 64))) 2))
 )
def x_ref01_Bit : Cx Tryz.prog := ⟨tys, [], [2], [], mixed⟩
def h_ref01_Bit : Hint := .d
def s_ref01_Bit : Spec Tryz.prog := mkSpec x_ref01_Bit 102 Tryz.f102 [S_api_Word.ty, (tInt .i64)] [(tInt .i64)] true h_ref01_Bit (fun a => m_ref01_Bit a.1 a.2) (fun a K h => by kernel_rfl) callee102 rfl
def m_ref01_Set (a0 : S_api_Word) (a1 : Int) (K : (S_api_Word) → H → Prop) : H → Prop :=
 mJoin (fun (s1 : Int × Int) =>
 K (⟨s1.1, s1.2⟩ : S_api_Word)
 ) (fun j2 =>
 mIf (decide (a1 < 64)) (
 mNN (IntKind.wrap .u64 a1) <|
 j2 (a0.Hi, (iOr .u64 a0.Lo (iShl .u64 1 (IntKind.wrap .u64 a1))))
 ) (
 mNN (IntKind.wrap .u64 (iSub .i64 a1 64)) <|
 j2 ((iOr .u64 a0.Hi (iShl .u64 1 (IntKind.wrap .u64 (iSub .i64 a1 64)))), a0.Lo)
 )
 )
def x_ref01_Set : Cx Tryz.prog := ⟨tys, [], [2, 4], [], mixed⟩
def h_ref01_Set : Hint := (.seq .d (.join [.cell 2 0 (tInt .u64), .cell 2 1 (tInt .u64)] 4194272 [2] .d .d))
def s_ref01_Set : Spec Tryz.prog := mkSpec x_ref01_Set 103 Tryz.f103 [S_api_Word.ty, (tInt .i64)] [S_api_Word.ty] true h_ref01_Set (fun a => m_ref01_Set a.1 a.2) (fun a K h => by kernel_rfl) callee103 rfl
def m_ref01_Cut (a0 : S_api_Word) (a1 : Int) (K : (S_api_Word) → H → Prop) : H → Prop :=
 mLoop (fun (rec2 : (Int × Int × Int) → H → Prop) (s1 : Int × Int × Int) =>
 mIf ((decide (s1.1 < a1)) && (decide (s1.1 < 128))) (
 mPure (m_ref01_Bit a0 s1.1) fun r3 =>
 mIf (decide (r3 = 1)) (
 mPure (m_ref01_Set (⟨s1.2.1, s1.2.2⟩ : S_api_Word) s1.1) fun r4 =>
 rec2 ((iAdd .i64 s1.1 1), r4.Hi, r4.Lo)
 ) (
 rec2 ((iAdd .i64 s1.1 1), s1.2.1, s1.2.2)
 )
 ) (
 K (⟨s1.2.1, s1.2.2⟩ : S_api_Word)
 )
 ) (0, 0, 0)
def x_ref01_Cut : Cx Tryz.prog := ⟨tys, [s_ref01_Bit, s_ref01_Set], [2, 4, 5], [], mixed⟩
def h_ref01_Cut : Hint := (.seq .d (.seq .d (.seq (.seq .d (.blk (.loop [.slot 6 (tInt .i64), .cell 5 0 (tInt .u64), .cell 5 1 (tInt .u64)] 8388544 [5] (.seq (.seq (.reg (.run [3, 7, 11, 15] (.sel 10 13 14336 (.run [19, 23, 27] .nil) (.run [19, 23, 27] .nil) .nil))) .d) .d)))) .d)))
def s_ref01_Cut : Spec Tryz.prog := mkSpec x_ref01_Cut 72 Tryz.f72 [S_api_Word.ty, (tInt .i64)] [S_api_Word.ty] true h_ref01_Cut (fun a => m_ref01_Cut a.1 a.2) (fun a K h => by kernel_rfl) callee72 rfl
end Go.Proofs.YtdleanjofhghnaaGreatDoor.K
namespace Go.Proofs.YtdleanjofhghnaaGreatDoor.K
open Go
theorem word_len : ∀ x : S_api_Word, (S_api_Word.cells x).length = 2 := fun _ => rfl
theorem word_plain : ∀ x : S_api_Word, (S_api_Word.cells x).all plainVal = true := fun _ => rfl
def wordOf (n : Nat) : S_api_Word := ⟨((n / 2 ^ 64 : Nat) : Int), ((n % 2 ^ 64 : Nat) : Int)⟩
def valW (hi lo : Nat) : Nat := 2 ^ 64 * hi + lo
theorem valW_lt {hi lo : Nat} (h1 : hi < 2 ^ 64) (h2 : lo < 2 ^ 64) : valW hi lo < 2 ^ 128 := by unfold valW; omega
theorem wordOf_val {hi lo : Nat} (h2 : lo < 2 ^ 64) : wordOf (valW hi lo) = ⟨(hi : Int), (lo : Int)⟩ := by
  unfold wordOf valW
  rw [show (2 ^ 64 * hi + lo) / 2 ^ 64 = hi by omega, show (2 ^ 64 * hi + lo) % 2 ^ 64 = lo by omega]
def eqWd (x w : S_api_Word) : Bool := (decide (x.Hi = w.Hi)) && ((decide (x.Lo = w.Lo)) && true)
theorem eqWd_iff (x w : S_api_Word) : eqWd x w = true ↔ x = w := by
  cases x; cases w; simp [eqWd]
def wc (w : Int) : Nat := (min (max w 0) 128).toNat
theorem wc_le (w : Int) : wc w ≤ 128 := by unfold wc; omega
theorem wc_eq (w : Int) : iMin (iMax w 0) 128 = (wc w : Int) := by
  unfold iMin iMax wc
  split <;> split <;> omega
theorem two_le {a b : Nat} (h : a ≤ b) : 2 ^ a ≤ 2 ^ b := Nat.pow_le_pow_right (by decide) h
theorem mod_lt128 {n : Nat} (hn : n < 2 ^ 128) (k : Nat) : n % 2 ^ k < 2 ^ 128 := Nat.lt_of_le_of_lt (Nat.mod_le _ _) hn
section
variable {h : H}
theorem p_cut {K : Int → H → Prop} {x : Nat} {b : Int} (hx : x < 2 ^ 64) (k : K ((x % 2 ^ (min b.toNat 64) : Nat) : Int) h) : m_wide_cut (x : Int) b K h := by
  unfold m_wide_cut
  refine w_if' (fun c => ?_) fun c => w_if' (fun c2 => ?_) fun c2 => ?_
  · rw [show min b.toNat 64 = 0 by omega, Nat.pow_zero, Nat.mod_one] at k; exact k
  · rw [show min b.toNat 64 = 64 by omega, Nat.mod_eq_of_lt hx] at k; exact k
  · refine w_nn (by omega) ?_
    obtain ⟨n, rfl⟩ := Int.eq_ofNat_of_zero_le (show 0 ≤ b by omega)
    rw [show min (n : Int).toNat 64 = n by omega] at k
    rw [u_low hx (by omega)]; exact k
theorem wordOf_mod (n c : Nat) (hc : c ≤ 128) : wordOf (n % 2 ^ c) = ⟨((n / 2 ^ 64 % 2 ^ (c - 64) : Nat) : Int), ((n % 2 ^ 64 % 2 ^ (min c 64) : Nat) : Int)⟩ := by
  unfold wordOf
  by_cases h : c ≤ 64
  · have h1 : n % 2 ^ c < 2 ^ 64 := Nat.lt_of_lt_of_le (Nat.mod_lt _ (Nat.two_pow_pos c)) (two_le h)
    rw [Nat.div_eq_of_lt h1, Nat.mod_eq_of_lt h1, show c - 64 = 0 by omega, Nat.min_eq_left h, Nat.mod_mod_of_dvd _ (Nat.pow_dvd_pow 2 h), Nat.pow_zero, Nat.mod_one]
  · have e : 2 ^ c = 2 ^ 64 * 2 ^ (c - 64) := by rw [← Nat.pow_add]; congr 1; omega
    rw [Nat.min_eq_right (by omega), Nat.mod_mod, e, Nat.mod_mul_right_div_self, Nat.mod_mul_right_mod]
theorem p_Cut {K : S_api_Word → H → Prop} {n : Nat} {w : Int} (hn : n < 2 ^ 128) (k : K (wordOf (n % 2 ^ wc w)) h) : m_wide_Cut (wordOf n) w K h := by
  unfold m_wide_Cut
  have hc := wc_le w
  rw [wc_eq, iSub_eq (by omega) (by omega)]
  refine w_pure _ (fun _ _ q => p_cut (by omega) q) (w_pure _ (fun _ _ q => p_cut (by omega) q) ?_)
  rw [wordOf_mod _ _ hc] at k
  rw [show min ((wc w : Int) - 64).toNat 64 = wc w - 64 by omega, show min (wc w : Int).toNat 64 = min (wc w) 64 by omega]
  exact k
theorem bit_val {hi lo : Nat} (h2 : lo < 2 ^ 64) (i : Nat) : (valW hi lo).testBit i = if i < 64 then lo.testBit i else hi.testBit (i - 64) := by
  unfold valW
  rw [Nat.testBit_two_pow_mul_add hi h2 i]
theorem bit_num (n i : Nat) : n.testBit i = if i < 64 then (n % 2 ^ 64).testBit i else (n / 2 ^ 64).testBit (i - 64) := by
  have : n = valW (n / 2 ^ 64) (n % 2 ^ 64) := by unfold valW; omega
  conv => lhs; rw [this]
  exact bit_val (by omega) i
theorem p_RBit {K : Int → H → Prop} {n i : Nat} (hi : i < 128) (k : K (((n.testBit i).toNat : Nat) : Int) h) : m_ref01_Bit (wordOf n) (i : Int) K h := by
  unfold m_ref01_Bit
  rw [bit_num] at k
  refine w_if' (fun c => ?_) fun c => ?_
  · rw [if_pos (by omega)] at k
    rw [u_wrap (by omega)]
    refine w_nn (by omega) ?_
    show K (IntKind.wrap .i64 (iRem .u64 (iShr .u64 ((n % 2 ^ 64 : Nat) : Int) (i : Int)) 2)) h
    rw [u_bit (by omega)]; exact k
  · rw [if_neg (by omega)] at k
    rw [iSub_eq (by omega) (by omega), show (i : Int) - 64 = ((i - 64 : Nat) : Int) by omega, u_wrap (by omega)]
    refine w_nn (by omega) ?_
    show K (IntKind.wrap .i64 (iRem .u64 (iShr .u64 ((n / 2 ^ 64 : Nat) : Int) ((i - 64 : Nat) : Int)) 2)) h
    rw [u_bit (by omega)]; exact k
theorem p_RSet {K : S_api_Word → H → Prop} {n i : Nat} (hn : n < 2 ^ 128) (hi : i < 128) (k : K (wordOf (n ||| 2 ^ i)) h) : m_ref01_Set (wordOf n) (i : Int) K h := by
  unfold m_ref01_Set
  have e : wordOf (n ||| 2 ^ i) = if i < 64 then ⟨((n / 2 ^ 64 : Nat) : Int), ((n % 2 ^ 64 ||| 2 ^ i : Nat) : Int)⟩ else ⟨((n / 2 ^ 64 ||| 2 ^ (i - 64) : Nat) : Int), ((n % 2 ^ 64 : Nat) : Int)⟩ := by
    unfold wordOf
    have hd : (n ||| 2 ^ i) / 2 ^ 64 = n / 2 ^ 64 ||| 2 ^ i / 2 ^ 64 := by rw [← Nat.shiftRight_eq_div_pow, Nat.shiftRight_or_distrib, Nat.shiftRight_eq_div_pow, Nat.shiftRight_eq_div_pow]
    have hm : (n ||| 2 ^ i) % 2 ^ 64 = n % 2 ^ 64 ||| 2 ^ i % 2 ^ 64 := Nat.or_mod_two_pow
    rw [hd, hm]
    split
    · rename_i c
      have c1 := pow_lt c
      rw [Nat.div_eq_of_lt c1, Nat.mod_eq_of_lt c1, Nat.or_zero]
    · rename_i c
      have c1 : 2 ^ i = 2 ^ 64 * 2 ^ (i - 64) := by rw [← Nat.pow_add]; congr 1; omega
      rw [c1, Nat.mul_div_cancel_left _ (by decide), Nat.mul_mod_right, Nat.or_zero]
  rw [e] at k
  refine w_join (w_if' (fun c => ?_) fun c => ?_)
  · rw [if_pos (by omega)] at k
    rw [u_wrap (by omega)]
    refine w_nn (by omega) ?_
    show K ⟨((n / 2 ^ 64 : Nat) : Int), iOr .u64 ((n % 2 ^ 64 : Nat) : Int) (iShl .u64 1 (i : Int))⟩ h
    rw [u_shl1 (by omega), u_or (by omega) (pow_lt (by omega))]; exact k
  · rw [if_neg (by omega)] at k
    rw [iSub_eq (by omega) (by omega), show (i : Int) - 64 = ((i - 64 : Nat) : Int) by omega, u_wrap (by omega)]
    refine w_nn (by omega) ?_
    show K ⟨iOr .u64 ((n / 2 ^ 64 : Nat) : Int) (iShl .u64 1 ((i - 64 : Nat) : Int)), ((n % 2 ^ 64 : Nat) : Int)⟩ h
    rw [u_shl1 (by omega), u_or (by omega) (pow_lt (by omega))]; exact k
theorem set_mod {n i : Nat} (b : n.testBit i = true) : n % 2 ^ i ||| 2 ^ i = n % 2 ^ (i + 1) := by
  rw [or_pow (Nat.mod_lt _ (Nat.two_pow_pos i)), mod_succ, b, if_pos rfl]
theorem keep_mod {n i : Nat} (b : n.testBit i = false) : n % 2 ^ (i + 1) = n % 2 ^ i := by
  rw [mod_succ, b]; rfl
theorem p_RCut {K : S_api_Word → H → Prop} {n : Nat} {w : Int} (hn : n < 2 ^ 128) (k : K (wordOf (n % 2 ^ wc w)) h) : m_ref01_Cut (wordOf n) w K h := by
  unfold m_ref01_Cut
  refine w_loop (fun s : Int × Int × Int => 128 - s.1.toNat) (fun s h' => h = h' ∧ ∃ i : Nat, s = ((i : Int), (wordOf (n % 2 ^ i)).Hi, (wordOf (n % 2 ^ i)).Lo) ∧ i ≤ wc w) ?_ ⟨rfl, 0, by rw [Nat.pow_zero, Nat.mod_one]; rfl, Nat.zero_le _⟩
  rintro rec s _ ⟨rfl, i, rfl, hi⟩ ih
  have hwc : wc w = (min (max w 0) 128).toNat := rfl
  refine w_if (fun c => ?_) fun c => ?_
  · rw [Bool.and_eq_true, decide_eq_true_eq, decide_eq_true_eq] at c
    simp only at c ⊢
    refine w_pure _ (fun _ _ q => p_RBit (by omega) q) ?_
    rw [iAdd_eq (by omega) (by omega)]
    refine w_if (fun b => ?_) fun b => ?_
    · have b : n.testBit i = true := by revert b; cases n.testBit i <;> simp
      refine w_pure _ (fun _ _ q => p_RSet (mod_lt128 hn i) (by omega) q) ?_
      rw [set_mod b]
      exact ih _ _ ⟨rfl, i + 1, rfl, by omega⟩ (by simp only; omega)
    · have b : n.testBit i = false := by revert b; cases n.testBit i <;> simp
      refine ih _ _ ⟨rfl, i + 1, ?_, by omega⟩ (by simp only; omega)
      rw [keep_mod b]; rfl
  · rw [Bool.and_eq_false_iff, decide_eq_false_iff_not, decide_eq_false_iff_not] at c
    simp only at c
    have : i = wc w := by omega
    subst this
    exact k
end
abbrev cW := S_api_Word.cells
def GoodW (x : S_api_Word) : Prop := ∃ n : Nat, n < 2 ^ 128 ∧ x = wordOf n
def cutW (w : Int) (x : S_api_Word) : S_api_Word := wordOf (valW x.Hi.toNat x.Lo.toNat % 2 ^ wc w)
theorem valW_of (n : Nat) : valW (wordOf n).Hi.toNat (wordOf n).Lo.toNat = n := by
  unfold valW wordOf
  rw [Int.toNat_natCast, Int.toNat_natCast]
  omega
section
variable {h : H}
theorem w_WCut {x : S_api_Word} (g : GoodW x) {w : Int} {k : S_api_Word → H → Prop} (y : k (cutW w x) h) : mPure (m_wide_Cut x w) k h := by
  obtain ⟨n, hn, rfl⟩ := g
  refine w_pure _ (fun _ _ q => p_Cut hn q) ?_
  unfold cutW at y
  rwa [valW_of] at y
theorem w_RWCut {x : S_api_Word} (g : GoodW x) {w : Int} {k : S_api_Word → H → Prop} (y : k (cutW w x) h) : mPure (m_ref01_Cut x w) k h := by
  obtain ⟨n, hn, rfl⟩ := g
  refine w_pure _ (fun _ _ q => p_RCut hn q) ?_
  unfold cutW at y
  rwa [valW_of] at y
end
end Go.Proofs.YtdleanjofhghnaaGreatDoor.K
namespace Go.Proofs.YtdleanjofhghnaaGreatDoor.K
open Go Go.Proofs
def m_draws_New (a0 : Sl) (a1 : Int) (K : (Option Addr × Int) → H → Prop) : H → Prop :=
 mIf ((decide (a1 < 1)) || (decide (128 < a1))) (
 K (none, 18)
 ) (
 mIf (decide (4096 < (a0.len : Int))) (
 K (none, 23)
 ) (
 mNew 99 #[(Sl.val Sl.nil), (Value.int .i64 0)] fun ad1 =>
 mLoop (fun (rec3 : Int → H → Prop) (s2 : Int) =>
 mIf (decide (s2 < (a0.len : Int))) (
 mIdx a0 s2 2 fun ad4 =>
 mLoad S_api_Word.cells ad4 fun x5 =>
 mPure (m_wide_Cut x5 a1) fun r6 =>
 mLoad cSl (ad1.add 0) fun x7 =>
 mApp 35 2 16 #[(Value.int .u64 0), (Value.int .u64 0)] 1 [(Value.int .u64 r6.Hi), (Value.int .u64 r6.Lo)] x7 fun s8 =>
 mStore (ad1.add 0) [(Sl.val s8)] <|
 rec3 (iAdd .i64 s2 1)
 ) (
 K ((some ad1), 0)
 )
 ) 0
 )
 )
def x_draws_New : Cx Tryz.prog := ⟨tys, [s_wide_Cut], [8, 34], [], mixed⟩
def h_draws_New : Hint := (.seq .d (.seq (.seq (.reg (.run [3, 7, 11] (.sel 11 14 28672 (.run [15, 19, 23] .nil) (.run [15, 19, 23] .nil) .nil))) .d) (.seq .d (.seq .d (.seq (.seq .d (.blk (.loop [.slot 22 (tInt .i64)] 549751619840 [] (.seq .d (.seq .d (.seq (.blk (.seq .d (.reg (.run [0, 4, 8, 12, 24, 21, 28, 18, 34, 39, 40, 44, 51] .nil)))) .d)))))) .d)))))
def s_draws_New : Spec Tryz.prog := mkSpec x_draws_New 13 Tryz.f13 [tSl, (tInt .i64)] [tPtr, (tInt .i64)] false h_draws_New (fun a => m_draws_New a.1 a.2) (fun a K h => by kernel_rfl) callee13 rfl
def m_draws_words_from (a0 : Sl) (a1 : Int) (K : (Sl) → H → Prop) : H → Prop :=
 mCut a0 a1 (a0.len : Int) 2 fun s1 =>
 K s1
def x_draws_words_from : Cx Tryz.prog := ⟨tys, [], [], [], mixed⟩
def h_draws_words_from : Hint := .d
def s_draws_words_from : Spec Tryz.prog := mkSpec x_draws_words_from 94 Tryz.f94 [tSl, (tInt .i64)] [tSl] true h_draws_words_from (fun a => m_draws_words_from a.1 a.2) (fun a K h => by kernel_rfl) callee94 rfl
def m_draws_Draws_Draw (a0 : Option Addr) (K : (S_api_Word × Int) → H → Prop) : H → Prop :=
 mDeref a0 fun ad1 =>
 mDeref a0 fun ad2 =>
 mLoad cSl (ad1.add 0) fun x3 =>
 mLoad (cInt .i64) (ad2.add 1) fun x4 =>
 mPure (m_draws_words_from x3 x4) fun r5 =>
 mIf (decide ((r5.len : Int) = 0)) (
 K ((⟨0, 0⟩ : S_api_Word), 11)
 ) (
 mDeref a0 fun ad6 =>
 mLoad (cInt .i64) (ad6.add 1) fun x7 =>
 mDeref a0 fun ad8 =>
 mStore (ad8.add 1) [(Value.int .i64 (iAdd .i64 x7 1))] <|
 mIdx r5 0 2 fun ad9 =>
 mLoad S_api_Word.cells ad9 fun x10 =>
 K (x10, 0)
 )
def x_draws_Draws_Draw : Cx Tryz.prog := ⟨tys, [s_draws_words_from], [2], [], mixed⟩
def h_draws_Draws_Draw : Hint := (.seq .d (.seq (.reg (.run [0, 4, 8, 16, 20, 24, 14, 30, 32, 36] .nil)) .d))
def s_draws_Draws_Draw : Spec Tryz.prog := mkSpec x_draws_Draws_Draw 64 Tryz.f64 [tPtr] [S_api_Word.ty, (tInt .i64)] false h_draws_Draws_Draw (fun a => m_draws_Draws_Draw a) (fun a K h => by kernel_rfl) callee64 rfl
def m_draws_Draws_Taken (a0 : Option Addr) (K : (Int) → H → Prop) : H → Prop :=
 mDeref a0 fun ad1 =>
 mLoad (cInt .i64) (ad1.add 1) fun x2 =>
 K x2
def x_draws_Draws_Taken : Cx Tryz.prog := ⟨tys, [], [], [], mixed⟩
def h_draws_Draws_Taken : Hint := .d
def s_draws_Draws_Taken : Spec Tryz.prog := mkSpec x_draws_Draws_Taken 11 Tryz.f11 [tPtr] [(tInt .i64)] false h_draws_Draws_Taken (fun a => m_draws_Draws_Taken a) (fun a K h => by kernel_rfl) callee11 rfl
def m_ref04_New (a0 : Sl) (a1 : Int) (K : (Option Addr × Int) → H → Prop) : H → Prop :=
 mIf ((decide (a1 < 1)) || (decide (128 < a1))) (
 K (none, 18)
 ) (
 mIf (decide (4096 < (a0.len : Int))) (
 K (none, 23)
 ) (
 mAppend 35 2 16 #[(Value.int .u64 0), (Value.int .u64 0)] Sl.nil a0 fun s1 =>
 mNew 90 #[(Sl.val s1), (Value.int .i64 a1), (Value.int .i64 0)] fun ad2 =>
 K ((some ad2), 0)
 )
 )
def x_ref04_New : Cx Tryz.prog := ⟨tys, [], [], [], mixed⟩
def h_ref04_New : Hint := (.seq .d (.seq (.seq (.reg (.run [3, 7, 11] (.sel 9 12 7168 (.run [15, 19, 23] .nil) (.run [15, 19, 23] .nil) .nil))) .d) .d))
def s_ref04_New : Spec Tryz.prog := mkSpec x_ref04_New 16 Tryz.f16 [tSl, (tInt .i64)] [tPtr, (tInt .i64)] false h_ref04_New (fun a => m_ref04_New a.1 a.2) (fun a K h => by kernel_rfl) callee16 rfl
def m_ref04_Draws_Draw (a0 : Option Addr) (K : (S_api_Word × Int) → H → Prop) : H → Prop :=
 mDeref a0 fun ad1 =>
 mDeref a0 fun ad2 =>
 mLoad (cInt .i64) (ad1.add 2) fun x3 =>
 mLoad cSl (ad2.add 0) fun x4 =>
 mIf (decide (x3 = (x4.len : Int))) (
 K ((⟨0, 0⟩ : S_api_Word), 11)
 ) (
 mDeref a0 fun ad5 =>
 mLoad (cInt .i64) (ad5.add 2) fun x6 =>
 mDeref a0 fun ad7 =>
 mStore (ad7.add 2) [(Value.int .i64 (iAdd .i64 x6 1))] <|
 mDeref a0 fun ad8 =>
 mDeref a0 fun ad9 =>
 mDeref a0 fun ad10 =>
 mLoad cSl (ad8.add 0) fun x11 =>
 mLoad (cInt .i64) (ad9.add 2) fun x12 =>
 mIdx x11 (iSub .i64 x12 1) 2 fun ad13 =>
 mLoad S_api_Word.cells ad13 fun x14 =>
 mLoad (cInt .i64) (ad10.add 1) fun x15 =>
 mPure (m_ref01_Cut x14 x15) fun r16 =>
 K (r16, 0)
 )
def x_ref04_Draws_Draw : Cx Tryz.prog := ⟨tys, [s_ref01_Cut], [2], [], mixed⟩
def h_ref04_Draws_Draw : Hint := (.seq .d (.seq (.seq (.reg (.run [0, 4, 8, 16, 20, 24, 14, 30, 32, 36] .nil)) .d) (.seq .d (.seq (.reg (.run [0, 4, 8, 16, 20, 24, 44, 48, 52, 14, 30, 32, 36, 42, 58, 60, 67, 68] .nil)) .d))))
def s_ref04_Draws_Draw : Spec Tryz.prog := mkSpec x_ref04_Draws_Draw 44 Tryz.f44 [tPtr] [S_api_Word.ty, (tInt .i64)] false h_ref04_Draws_Draw (fun a => m_ref04_Draws_Draw a) (fun a K h => by kernel_rfl) callee44 rfl
def m_issue_draw (a0 : Option Addr) (a1 : PV) (K : (S_api_Word × Int) → H → Prop) : H → Prop :=
 mLoop (fun (rec2 : Int → H → Prop) (s1 : Int) =>
 mIf (decide (s1 < 9)) (
 m_draws_Draws_Draw a0 fun r3 =>
 mIf (!decide (r3.2 = 0)) (
 K ((⟨0, 0⟩ : S_api_Word), r3.2)
 ) (
 mCallV (T := Bool) Tryz.prog (fun r => (Value.bool r)) a1.1 [(S_api_Word.val r3.1)] fun r4 =>
 mIf (!r4) (
 K (r3.1, 0)
 ) (
 rec2 (iAdd .i64 s1 1)
 )
 )
 ) (
 K ((⟨0, 0⟩ : S_api_Word), 12)
 )
 ) 0
def x_issue_draw : Cx Tryz.prog := ⟨tys, [s_draws_Draws_Draw], [4, 6], [], mixed⟩
def h_issue_draw : Hint := (.seq .d (.seq (.seq .d (.blk (.loop [.slot 8 (tInt .i64)] 33554400 [] .d))) .d))
def s_issue_draw : Spec Tryz.prog := mkSpec x_issue_draw 99 Tryz.f99 [tPtr, tPV] [S_api_Word.ty, (tInt .i64)] false h_issue_draw (fun a => m_issue_draw a.1 a.2) (fun a K h => by kernel_rfl) callee99 rfl
def m_issue_Of_1 (a0 : S_api_Word) (a1 : Addr) (a2 : Addr) (K : (Bool) → H → Prop) : H → Prop :=
 mLoad cPtr a1 fun x1 =>
 mLoad (cInt .i64) a2 fun x2 =>
 m_catalogue_Catalogue_Find x1 (⟨x2, ⟨a0.Hi, a0.Lo⟩⟩ : S_api_Cap) fun r3 =>
 K r3.2
def x_issue_Of_1 : Cx Tryz.prog := ⟨tys, [s_catalogue_Catalogue_Find], [3], [], mixed⟩
def h_issue_Of_1 : Hint := .d
def s_issue_Of_1 : Spec Tryz.prog := mkSpec x_issue_Of_1 100 Tryz.f100 [S_api_Word.ty, tAdr, tAdr] [tBool] false h_issue_Of_1 (fun a => m_issue_Of_1 a.1 a.2.1 a.2.2) (fun a K h => by kernel_rfl) callee100 rfl
def m_issue_Of (a0 : Option Addr) (a1 : Option Addr) (a2 : Int) (K : (S_api_Word × Int) → H → Prop) : H → Prop :=
 mNew 46 #[(Value.pointer a1)] fun ad1 =>
 mNew 3 #[(Value.int .i64 a2)] fun ad2 =>
 m_issue_draw a0 (⟨Value.func (.func 100) #[] #[(Value.pointer (some ad1)), (Value.pointer (some ad2))], rfl, rfl⟩ : PV) fun r3 =>
 K (r3.1, r3.2)
def x_issue_Of : Cx Tryz.prog := ⟨tys, [s_issue_draw], [6], [], mixed⟩
def h_issue_Of : Hint := .d
def s_issue_Of : Spec Tryz.prog := mkSpec x_issue_Of 69 Tryz.f69 [tPtr, tPtr, (tInt .i64)] [S_api_Word.ty, (tInt .i64)] false h_issue_Of (fun a => m_issue_Of a.1 a.2.1 a.2.2) (fun a K h => by kernel_rfl) callee69 rfl
def m_ref13_Draw (a0 : Option Addr) (a1 : Sl) (K : (S_api_Word × Int) → H → Prop) : H → Prop :=
 mLoop (fun (rec2 : Int → H → Prop) (s1 : Int) =>
 mIf (decide (s1 < 9)) (
 m_ref04_Draws_Draw a0 fun r3 =>
 mIf (!decide (r3.2 = 0)) (
 K ((⟨0, 0⟩ : S_api_Word), r3.2)
 ) (
 mLoop (fun (rec5 : (Bool × Int) → H → Prop) (s4 : Bool × Int) =>
 mIf (decide (s4.2 < (a1.len : Int))) (
 mIf s4.1 (
 rec5 (true, (iAdd .i64 s4.2 1))
 ) (
 mIdx a1 s4.2 2 fun ad8 =>
 mLoad S_api_Word.cells ad8 fun x9 =>
 rec5 (((decide (x9.Hi = r3.1.Hi)) && ((decide (x9.Lo = r3.1.Lo)) && true)), (iAdd .i64 s4.2 1))
 )
 ) (
 mIf (!s4.1) (
 K (r3.1, 0)
 ) (
 rec2 (iAdd .i64 s1 1)
 )
 )
 ) (false, 0)
 )
 ) (
 K ((⟨0, 0⟩ : S_api_Word), 12)
 )
 ) 0
def x_ref13_Draw : Cx Tryz.prog := ⟨tys, [s_ref04_Draws_Draw], [4, 7], [], mixed⟩
def h_ref13_Draw : Hint := (.seq .d (.seq (.seq .d (.blk (.loop [.slot 6 (tInt .i64)] 4398046511072 [] (.seq .d (.seq (.blk (.seq .d (.seq .d (.seq .d (.seq (.seq .d (.blk (.loop [.slot 9 tBool, .slot 10 (tInt .i64)] 549739038208 [] (.seq .d (.seq (.blk (.reg (.run [0, 4] (.split 31 (.run [8, 12, 16, 20, 24, 28, 32, 36] .nil) (.run [8, 12, 16, 25, 22, 28, 32, 36] .nil))))) .d))))) .d))))) .d))))) .d))
def s_ref13_Draw : Spec Tryz.prog := mkSpec x_ref13_Draw 77 Tryz.f77 [tPtr, tSl] [S_api_Word.ty, (tInt .i64)] false h_ref13_Draw (fun a => m_ref13_Draw a.1 a.2) (fun a K h => by kernel_rfl) callee77 rfl
def m_ref13_Words (a0 : Option Addr) (a1 : Int) (K : (Sl) → H → Prop) : H → Prop :=
 m_ref11_Catalogue_Of a0 a1 fun r1 =>
 mLoop (fun (rec3 : (Sl × Int) → H → Prop) (s2 : Sl × Int) =>
 mIf (decide (s2.2 < (r1.len : Int))) (
 mIdx r1 s2.2 5 fun ad4 =>
 mLoad S_api_Word.cells ((ad4.add 0).add 1) fun x5 =>
 mApp 35 2 16 #[(Value.int .u64 0), (Value.int .u64 0)] 1 [(Value.int .u64 x5.Hi), (Value.int .u64 x5.Lo)] s2.1 fun s6 =>
 rec3 (s6, (iAdd .i64 s2.2 1))
 ) (
 K s2.1
 )
 ) (Sl.nil, 0)
def x_ref13_Words : Cx Tryz.prog := ⟨tys, [s_ref11_Catalogue_Of], [24], [], mixed⟩
def h_ref13_Words : Hint := (.seq .d (.seq .d (.seq .d (.seq (.seq .d (.blk (.loop [.slot 5 tSl, .slot 7 (tInt .i64)] 67106976 [] .d))) .d))))
def s_ref13_Words : Spec Tryz.prog := mkSpec x_ref13_Words 78 Tryz.f78 [tPtr, (tInt .i64)] [tSl] false h_ref13_Words (fun a => m_ref13_Words a.1 a.2) (fun a K h => by kernel_rfl) callee78 rfl
def m_ref13_Of (a0 : Option Addr) (a1 : Option Addr) (a2 : Int) (K : (S_api_Word × Int) → H → Prop) : H → Prop :=
 m_ref13_Words a1 a2 fun r1 =>
 m_ref13_Draw a0 r1 fun r2 =>
 K (r2.1, r2.2)
def x_ref13_Of : Cx Tryz.prog := ⟨tys, [s_ref13_Draw, s_ref13_Words], [6], [], mixed⟩
def h_ref13_Of : Hint := .d
def s_ref13_Of : Spec Tryz.prog := mkSpec x_ref13_Of 49 Tryz.f49 [tPtr, tPtr, (tInt .i64)] [S_api_Word.ty, (tInt .i64)] false h_ref13_Of (fun a => m_ref13_Of a.1 a.2.1 a.2.2) (fun a K h => by kernel_rfl) callee49 rfl
end Go.Proofs.YtdleanjofhghnaaGreatDoor.K
namespace Go.Proofs.YtdleanjofhghnaaGreatDoor.K
open Go
section
variable {h : H}
structure DAt (h : H) (d : Nat) (ws : Sl) (cs : List S_api_Word) (tk : Nat) : Prop where
  cell : h d = some (.cells (S_draws_Draws.cells ⟨ws, tk⟩).toArray N_draws_Draws (0, 0))
  buf : Buf cW 2 N_api_Word h ws cs
  le : tk ≤ cs.length ∧ cs.length ≤ 4096
structure RAt (h : H) (r : Nat) (s : Sl) (xs : List S_api_Word) (w : Int) (tk : Nat) : Prop where
  cell : h r = some (.cells (S_ref04_Draws.cells ⟨s, w, tk⟩).toArray N_ref04_Draws (0, 0))
  buf : Buf cW 2 N_api_Word h s xs
  le : tk ≤ xs.length ∧ xs.length ≤ 4096
variable {d r : Nat} {ws s : Sl} {cs xs : List S_api_Word} {w : Int} {tk : Nat}
theorem DAt.keep {h' : H} (x : DAt h d ws cs tk) (k : Keeps h h') : DAt h' d ws cs tk := ⟨k _ _ x.cell, x.buf.keep k, x.le⟩
theorem DAt.but {h' : H} {E : Nat → Prop} (x : DAt h d ws cs tk) (k : But E h h') (f : ∀ c, E c → c ≠ d ∧ ¬ ws.foot c) : DAt h' d ws cs tk := ⟨k _ _ x.cell fun q => (f _ q).1 rfl, x.buf.but k fun a ha q => (f _ q).2 ⟨a, ha, rfl⟩, x.le⟩
theorem RAt.keep {h' : H} (x : RAt h r s xs w tk) (k : Keeps h h') : RAt h' r s xs w tk := ⟨k _ _ x.cell, x.buf.keep k, x.le⟩
theorem RAt.but {h' : H} {E : Nat → Prop} (x : RAt h r s xs w tk) (k : But E h h') (f : ∀ c, E c → c ≠ r ∧ ¬ s.foot c) : RAt h' r s xs w tk := ⟨k _ _ x.cell fun q => (f _ q).1 rfl, x.buf.but k fun a ha q => (f _ q).2 ⟨a, ha, rfl⟩, x.le⟩
theorem DAt.apart (x : DAt h d ws cs tk) : ¬ ws.foot d := fun f => (x.buf.typed f).ne (Typed.of x.cell) (by decide) rfl
theorem RAt.apart (x : RAt h r s xs w tk) : ¬ s.foot r := fun f => (x.buf.typed f).ne (Typed.of x.cell) (by decide) rfl
theorem DAt.f0 (x : DAt h d ws cs tk) : At h ((⟨d, 0, none⟩ : Addr).add 0) (cSl ws) := by
  rw [pt_add]; exact At.own (l1 := []) (l3 := [Value.int .i64 tk]) x.cell rfl
theorem DAt.f1 (x : DAt h d ws cs tk) : At h ((⟨d, 0, none⟩ : Addr).add 1) (cInt .i64 (tk : Int)) := by
  rw [pt_add]; exact At.own (l1 := [Sl.val ws]) (l3 := []) x.cell rfl
theorem RAt.f0 (x : RAt h r s xs w tk) : At h ((⟨r, 0, none⟩ : Addr).add 0) (cSl s) := by
  rw [pt_add]; exact At.own (l1 := []) (l3 := [Value.int .i64 w, Value.int .i64 tk]) x.cell rfl
theorem RAt.f1 (x : RAt h r s xs w tk) : At h ((⟨r, 0, none⟩ : Addr).add 1) (cInt .i64 w) := by
  rw [pt_add]; exact At.own (l1 := [Sl.val s]) (l3 := [Value.int .i64 tk]) x.cell rfl
theorem RAt.f2 (x : RAt h r s xs w tk) : At h ((⟨r, 0, none⟩ : Addr).add 2) (cInt .i64 (tk : Int)) := by
  rw [pt_add]; exact At.own (l1 := [Sl.val s, Value.int .i64 w]) (l3 := []) x.cell rfl
theorem t_DTaken (x : DAt h d ws cs tk) {K : Int → H → Prop} (y : K (tk : Int) h) : m_draws_Draws_Taken (some ⟨d, 0, none⟩) K h := by
  unfold m_draws_Draws_Taken
  exact w_deref (w_load x.f1 y)
theorem t_DNew {a : Sl} (ar : Arr cW h a xs) (hx : ∀ x ∈ xs, GoodW x) {K : Option Addr × Int → H → Prop} (bad1 : (w < 1 ∨ 128 < w) → K (none, 18) h) (bad2 : 1 ≤ w → w ≤ 128 → 4096 < xs.length → K (none, 23) h)
    (y : 1 ≤ w → w ≤ 128 → xs.length ≤ 4096 → ∀ d ws h', DAt h' d ws (xs.map (cutW w)) 0 → Keeps h h' → h d = none → (∀ c, ws.foot c → h c = none) → K (some ⟨d, 0, none⟩, 0) h') : m_draws_New a w K h := by
  unfold m_draws_New
  have hl := ar.len
  refine w_if (fun c => bad1 ?_) fun c => w_if' (fun c2 => ?_) fun c2 => ?_
  · simp only [Bool.or_eq_true, decide_eq_true_eq] at c; omega
  · simp only [Bool.or_eq_false_iff, decide_eq_false_iff_not] at c
    exact bad2 (by omega) (by omega) (by omega)
  simp only [Bool.or_eq_false_iff, decide_eq_false_iff_not] at c
  refine w_box fun d h1 f1 c1 k1 => ?_
  refine w_for xs.length (fun i (z : Int) h' => z = (i : Int) ∧ Keeps h h' ∧ ∃ ws, h' d = some (.cells (S_draws_Draws.cells ⟨ws, (0 : Nat)⟩).toArray N_draws_Draws (0, 0)) ∧ Buf cW 2 N_api_Word h' ws ((xs.take i).map (cutW w)) ∧ ∀ c, ws.foot c → h c = none) ?_ ⟨rfl, k1, Sl.nil, c1, Buf.nil, fun c ⟨_, q, _⟩ => by cases q⟩
  rintro rec i z h' hi ⟨rfl, kp, ws, cd, bu, fw⟩ more
  refine w_if' (fun c3 => ?_) fun c3 => ?_
  · have c3 : (i : Int) < (a.len : Int) := c3
    have hil : i < xs.length := by omega
    have hz := List.getElem?_eq_getElem hil
    refine w_get word_len (ar.keep kp) hz rfl (v' := xs[i]) rfl (w_WCut (hx _ (List.getElem_mem hil)) (w_load (v := ws) (cells := cSl) ?_ ?_))
    · rw [pt_add]; exact At.own (l1 := []) (l3 := [Value.int .i64 (0 : Nat)]) cd rfl
    refine w_app (by_ := 16) word_len rfl bu [cutW w xs[i]] rfl rfl (.inl (by simp only [List.length_map, List.length_take, List.length_singleton]; omega)) fun s8 h2 bu2 b2 f2 d2 => ?_
    have ap : ¬ ws.foot d := fun f => (bu.typed f).ne (Typed.of cd) (by decide) rfl
    have cd2 := b2 _ _ cd ap
    refine w_store (b := d) (i := 0) (l1 := []) (l2 := [Sl.val ws]) (l3 := [Value.int .i64 (0 : Nat)]) (t := N_draws_Draws) (pt_add d 0) cd2 rfl rfl ?_
    refine more _ _ hil ⟨ia1 i (by omega), (kp.but b2 fw).but (But.upd (F := (· = d)) rfl) fun c q => q ▸ f1, s8, upd_same _ _ _, ?_, fun c q => (f2 c q).elim (fw c) fun z => kp.fresh z⟩
    have := bu2.but (But.upd (F := (· = d)) (o := (.cells ([] ++ [Sl.val s8] ++ [Value.int .i64 (0 : Nat)]).toArray N_draws_Draws (0, 0))) rfl) fun ad ha q => (bu2.typed ⟨ad, ha, rfl⟩).ne (Typed.of cd2) (by decide) q
    rw [List.take_add_one, hz, List.map_append]
    exact this
  · have c3 : ¬ (i : Int) < (a.len : Int) := c3
    obtain rfl : i = xs.length := by omega
    rw [List.take_length] at bu
    exact y (by omega) (by omega) (by omega) d ws h' ⟨cd, bu, by rw [List.length_map]; omega⟩ kp f1 fw
theorem t_RDNew {a : Sl} (ar : Arr cW h a xs) {K : Option Addr × Int → H → Prop} (bad1 : (w < 1 ∨ 128 < w) → K (none, 18) h) (bad2 : 1 ≤ w → w ≤ 128 → 4096 < xs.length → K (none, 23) h)
    (y : 1 ≤ w → w ≤ 128 → xs.length ≤ 4096 → ∀ r s h', RAt h' r s xs w 0 → Keeps h h' → h r = none → (∀ c, s.foot c → h c = none) → K (some ⟨r, 0, none⟩, 0) h') : m_ref04_New a w K h := by
  unfold m_ref04_New
  have hl := ar.len
  refine w_if (fun c => bad1 ?_) fun c => w_if' (fun c2 => ?_) fun c2 => ?_
  · simp only [Bool.or_eq_true, decide_eq_true_eq] at c; omega
  · simp only [Bool.or_eq_false_iff, decide_eq_false_iff_not] at c
    exact bad2 (by omega) (by omega) (by omega)
  simp only [Bool.or_eq_false_iff, decide_eq_false_iff_not] at c
  refine w_append (by_ := 16) word_len word_plain rfl (Buf.nil (e := N_api_Word)) ar (.inr ⟨rfl, by omega⟩) fun s1 h1 bu b1 f1 d1 => w_box fun r h2 f2 c2 k2 => ?_
  have k1 : Keeps h h1 := b1.keeps fun b ⟨_, q, _⟩ => by cases q
  rw [List.nil_append] at bu
  exact y (by omega) (by omega) (by omega) r s1 h2 ⟨c2, bu.keep k2, by omega⟩ (k1.trans k2) (k1.fresh f2) fun c q => (f1 c q).elim (fun ⟨_, q, _⟩ => by cases q) id
theorem t_DDraw (x : DAt h d ws cs tk) {K : S_api_Word × Int → H → Prop} (y0 : cs[tk]? = none → K (⟨0, 0⟩, 11) h) (y1 : ∀ c, cs[tk]? = some c → ∀ h', DAt h' d ws cs (tk + 1) → But (· = d) h h' → (∀ z, h' z = none → h z = none) → K (c, 0) h') : m_draws_Draws_Draw (some ⟨d, 0, none⟩) K h := by
  unfold m_draws_Draws_Draw
  have hl := x.buf.len
  have hc := x.buf.cap
  obtain ⟨le1, le2⟩ := x.le
  refine w_deref (w_deref (w_load x.f0 (w_load x.f1 ?_)))
  have mid : mCut ws (tk : Int) (ws.len : Int) 2 (fun s' h' => Arr cW h s' (cs.drop tk) ∧ s'.len = cs.length - tk) h := by
    refine w_mid word_len x.buf.arr (lo := tk) (hi := cs.length) le1 (Nat.le_refl _) rfl (by rw [hl]) fun s3 a3 _ _ _ => ?_
    have e3 : (cs.drop tk).take (cs.length - tk) = cs.drop tk := by rw [List.take_of_length_le]; rw [List.length_drop]; omega
    rw [e3] at a3
    exact ⟨a3, by have := a3.len; rw [List.length_drop] at this; exact this⟩
  obtain ⟨r5, cond, ar5, l5⟩ := mid
  refine w_pure r5 (fun h' k' q => ⟨r5, cond, q⟩) (w_if' (fun c => y0 ?_) fun c => ?_)
  · have c : (r5.len : Int) = 0 := c
    exact List.getElem?_eq_none (by omega)
  have c : ¬ (r5.len : Int) = 0 := c
  have hlt : tk < cs.length := by omega
  have hz := List.getElem?_eq_getElem hlt
  refine w_deref (w_load x.f1 (w_deref ?_))
  rw [ia1 tk (by omega)]
  refine w_store (b := d) (i := 1) (l1 := [Sl.val ws]) (l2 := [Value.int .i64 tk]) (l3 := []) (t := N_draws_Draws) (pt_add d 1) x.cell rfl rfl ?_
  generalize eh : upd h d _ = h2
  have c2 : h2 d = some (.cells (S_draws_Draws.cells ⟨ws, ((tk + 1 : Nat) : Int)⟩).toArray N_draws_Draws (0, 0)) := by rw [← eh]; exact upd_same _ _ _
  have b2 : But (· = d) h h2 := eh ▸ .upd rfl
  have d2 : ∀ z, h2 z = none → h z = none := fun z q => by rw [← eh] at q; exact (upd_none.1 q).2
  have bu2 := x.buf.but b2 fun ad ha q => x.apart ⟨ad, ha, q⟩
  have hz5 : (cs.drop tk)[0]? = some cs[tk] := by rw [List.getElem?_drop, Nat.add_zero]; exact hz
  have ar5' : Arr cW h2 r5 (cs.drop tk) := ar5.but b2 fun _ ad ha q => by
    obtain ⟨ad', ha', at'⟩ := ar5.at_ (fun e => by rw [e] at hz5; cases hz5)
    rw [ha] at ha'; cases ha'
    have q : ad.block = d := q
    obtain ⟨_, cc, ee, fz, q1, q2⟩ := at_iff.1 at'
    rw [q, x.cell] at q1
    cases q1
    have := q2 0 (Value.int .u64 (cs[tk]).Hi) (by
      have e1 : cs.drop tk = cs[tk] :: cs.drop (tk + 1) := List.drop_eq_getElem_cons hlt
      rw [e1, flat_cons]; rfl)
    rw [Nat.add_zero] at this
    rcases Nat.lt_or_ge ad.off 2 with z | z
    · rcases (by omega : ad.off = 0 ∨ ad.off = 1) with z | z
      · rw [z] at this; cases this
      · rw [z] at this; cases this
    · have : ad.off < 2 := by
        have := (Array.getElem?_eq_some_iff.1 this).1
        simpa [S_draws_Draws.cells] using this
      omega
  refine w_get word_len ar5' hz5 rfl (v' := cs[tk]) rfl ?_
  exact y1 _ hz h2 ⟨c2, bu2, by omega⟩ b2 d2
theorem t_RDDraw (x : RAt h r s xs w tk) (hx : ∀ x ∈ xs, GoodW x) {K : S_api_Word × Int → H → Prop} (y0 : (xs.map (cutW w))[tk]? = none → K (⟨0, 0⟩, 11) h) (y1 : ∀ c, (xs.map (cutW w))[tk]? = some c → ∀ h', RAt h' r s xs w (tk + 1) → But (· = r) h h' → (∀ z, h' z = none → h z = none) → K (c, 0) h') : m_ref04_Draws_Draw (some ⟨r, 0, none⟩) K h := by
  unfold m_ref04_Draws_Draw
  have hl := x.buf.len
  obtain ⟨le1, le2⟩ := x.le
  refine w_deref (w_deref (w_load x.f2 (w_load x.f0 (w_if' (fun c => y0 ?_) fun c => ?_))))
  · have c : (tk : Int) = (s.len : Int) := c
    exact List.getElem?_eq_none (by rw [List.length_map]; omega)
  have c : ¬ (tk : Int) = (s.len : Int) := c
  have hlt : tk < xs.length := by omega
  have hz := List.getElem?_eq_getElem hlt
  refine w_deref (w_load x.f2 (w_deref ?_))
  rw [ia1 tk (by omega)]
  refine w_store (b := r) (i := 2) (l1 := [Sl.val s, Value.int .i64 w]) (l2 := [Value.int .i64 tk]) (l3 := []) (t := N_ref04_Draws) (pt_add r 2) x.cell rfl rfl ?_
  generalize eh : upd h r _ = h2
  have c2 : h2 r = some (.cells (S_ref04_Draws.cells ⟨s, w, ((tk + 1 : Nat) : Int)⟩).toArray N_ref04_Draws (0, 0)) := by rw [← eh]; exact upd_same _ _ _
  have b2 : But (· = r) h h2 := eh ▸ .upd rfl
  have d2 : ∀ z, h2 z = none → h z = none := fun z q => by rw [← eh] at q; exact (upd_none.1 q).2
  have bu2 := x.buf.but b2 fun ad ha q => x.apart ⟨ad, ha, q⟩
  have x2 : RAt h2 r s xs w (tk + 1) := ⟨c2, bu2, by omega⟩
  refine w_deref (w_deref (w_deref (w_load x2.f0 (w_load x2.f2 ?_))))
  rw [is1 (tk + 1) (by omega) (by omega), Nat.add_sub_cancel]
  refine w_get word_len bu2.arr hz rfl (v' := xs[tk]) rfl (w_load x2.f1 (w_RWCut (hx _ (List.getElem_mem hlt)) ?_))
  exact y1 _ (by rw [List.getElem?_map, hz]; rfl) h2 x2 b2 d2
end
def issueO (f : S_api_Word → Bool) (cs : List S_api_Word) : Nat → Nat → (S_api_Word × Int) × Nat
  | tk, 0 => ((⟨0, 0⟩, 12), tk)
  | tk, n + 1 => match cs[tk]? with
    | none => ((⟨0, 0⟩, 11), tk)
    | some c => if f c = true then issueO f cs (tk + 1) n else ((c, 0), tk + 1)
theorem issueO_none {f : S_api_Word → Bool} {cs : List S_api_Word} {tk n : Nat} (h : cs[tk]? = none) : issueO f cs tk (n + 1) = ((⟨0, 0⟩, 11), tk) := by
  unfold issueO; rw [h]
theorem issueO_some {f : S_api_Word → Bool} {cs : List S_api_Word} {tk n : Nat} {c : S_api_Word} (h : cs[tk]? = some c) : issueO f cs tk (n + 1) = if f c = true then issueO f cs (tk + 1) n else ((c, 0), tk + 1) := by
  rw [issueO, h]
theorem issueO_congr {f g : S_api_Word → Bool} (e : ∀ c, f c = g c) (cs : List S_api_Word) (tk n : Nat) : issueO f cs tk n = issueO g cs tk n := by
  have : f = g := funext e
  rw [this]
section
variable {h : H} {d r : Nat} {ws s : Sl} {cs xs : List S_api_Word} {w : Int} {tk : Nat}
theorem t_idraw {fv : PV} {f : S_api_Word → Bool} {P : H → Prop} (hP : ∀ h1 h2, P h1 → But (· = d) h1 h2 → (∀ z, h2 z = none → h1 z = none) → P h2) (hcall : ∀ h' c k, P h' → k (f c) h' → mCallV (T := Bool) Tryz.prog (fun r => (Value.bool r)) fv.1 [(S_api_Word.val c)] k h') (p0 : P h) (x : DAt h d ws cs tk)
    {K : S_api_Word × Int → H → Prop} (y : ∀ h', DAt h' d ws cs (issueO f cs tk 9).2 → P h' → But (· = d) h h' → (∀ z, h' z = none → h z = none) → K (issueO f cs tk 9).1 h') : m_issue_draw (some ⟨d, 0, none⟩) fv K h := by
  unfold m_issue_draw
  refine w_for 9 (fun i (z : Int) h' => z = (i : Int) ∧ ∃ tk', issueO f cs tk 9 = issueO f cs tk' (9 - i) ∧ DAt h' d ws cs tk' ∧ P h' ∧ But (· = d) h h' ∧ ∀ z, h' z = none → h z = none) ?_ ⟨rfl, tk, rfl, x, p0, .refl _ _, fun _ q => q⟩
  rintro rec i z h' hi ⟨rfl, tk', e, x', p', b', d'⟩ more
  refine w_if' (fun c => ?_) fun c => ?_
  · have c : (i : Int) < 9 := c
    obtain ⟨m, hm⟩ : ∃ m, 9 - i = m + 1 := ⟨8 - i, by omega⟩
    rw [hm] at e
    refine t_DDraw x' (fun hno => ?_) fun cc hc h2 x2 b2 d2 => ?_
    · rw [issueO_none hno] at e
      rw [e] at y
      exact w_ifT rfl (y _ x' p' b' d')
    · rw [issueO_some hc] at e
      have p2 := hP _ _ p' b2 d2
      refine w_ifF rfl (hcall _ _ _ p2 ?_)
      cases ef : f cc with
      | true =>
        rw [ef, if_pos rfl] at e
        exact w_ifF rfl (more _ _ (by omega) ⟨ia1 i (by omega), tk' + 1, by rw [e]; congr 1; omega, x2, p2, b'.trans b2 fun _ q => .inl q, fun z q => d' z (d2 z q)⟩)
      | false =>
        rw [ef, if_neg (by decide)] at e
        rw [e] at y
        exact w_ifT rfl (y _ x2 p2 (b'.trans b2 fun _ q => .inl q) fun z q => d' z (d2 z q))
  · have c : ¬ (i : Int) < 9 := c
    obtain rfl : i = 9 := by omega
    have e : issueO f cs tk 9 = ((⟨0, 0⟩, 12), tk') := e
    rw [e] at y
    exact y _ x' p' b' d'
theorem t_R13Draw (x : RAt h r s xs w tk) (hx : ∀ x ∈ xs, GoodW x) {a : Sl} {W : List S_api_Word} (ar : Arr cW h a W) (hW : W.length ≤ 2 ^ 40) (ha : ¬ a.foot r) {K : S_api_Word × Int → H → Prop}
    (y : ∀ h', RAt h' r s xs w (issueO (fun c => decide (c ∈ W)) (xs.map (cutW w)) tk 9).2 → But (· = r) h h' → (∀ z, h' z = none → h z = none) → K (issueO (fun c => decide (c ∈ W)) (xs.map (cutW w)) tk 9).1 h') : m_ref13_Draw (some ⟨r, 0, none⟩) a K h := by
  unfold m_ref13_Draw
  have hl := ar.len
  refine w_for 9 (fun i (z : Int) h' => z = (i : Int) ∧ ∃ tk', issueO (fun c => decide (c ∈ W)) (xs.map (cutW w)) tk 9 = issueO (fun c => decide (c ∈ W)) (xs.map (cutW w)) tk' (9 - i) ∧ RAt h' r s xs w tk' ∧ But (· = r) h h' ∧ ∀ z, h' z = none → h z = none) ?_ ⟨rfl, tk, rfl, x, .refl _ _, fun _ q => q⟩
  rintro rec i z h' hi ⟨rfl, tk', e, x', b', d'⟩ more
  refine w_if' (fun c => ?_) fun c => ?_
  · have c : (i : Int) < 9 := c
    obtain ⟨m, hm⟩ : ∃ m, 9 - i = m + 1 := ⟨8 - i, by omega⟩
    rw [hm] at e
    refine t_RDDraw x' hx (fun hno => ?_) fun cc hc h2 x2 b2 d2 => ?_
    · rw [issueO_none hno] at e
      rw [e] at y
      exact w_ifT rfl (y _ x' b' d')
    · rw [issueO_some hc] at e
      have b2' : But (· = r) h h2 := b'.trans b2 fun _ q => .inl q
      have d2' : ∀ z, h2 z = none → h z = none := fun z q => d' z (d2 z q)
      have ar2 := ar.but b2' fun _ ad had q => ha ⟨ad, had, q⟩
      refine w_ifF rfl ?_
      refine w_for W.length (fun j (z : Bool × Int) hh => h2 = hh ∧ z = (decide (cc ∈ W.take j), (j : Int))) ?_ ⟨rfl, by rw [List.take_zero, decide_eq_false (by simp)]; rfl⟩
      rintro rec2 j z hh hj ⟨rfl, rfl⟩ more2
      refine w_if' (fun cj => ?_) fun cj => ?_
      · have cj : (j : Int) < (a.len : Int) := cj
        have hjl : j < W.length := by omega
        have hz := List.getElem?_eq_getElem hjl
        have tk1 : W.take (j + 1) = W.take j ++ [W[j]] := by rw [List.take_add_one, hz]; rfl
        refine w_if' (fun q => ?_) fun q => ?_
        · refine more2 _ _ hjl ⟨rfl, ?_⟩
          show (true, iAdd .i64 (j : Int) 1) = _
          rw [ia1 j (by omega), tk1, decide_eq_true (List.mem_append_left _ q)]
        · refine w_get word_len ar2 hz rfl (v' := W[j]) rfl (more2 _ _ hjl ⟨rfl, ?_⟩)
          show (eqWd W[j] cc, iAdd .i64 (j : Int) 1) = _
          rw [ia1 j (by omega), tk1]
          congr 1
          rw [Bool.eq_iff_iff, eqWd_iff, decide_eq_true_eq, List.mem_append, List.mem_singleton]
          exact ⟨fun e => .inr e.symm, fun e => e.elim (fun z => absurd z q) Eq.symm⟩
      · have cj : ¬ (j : Int) < (a.len : Int) := cj
        obtain rfl : j = W.length := by omega
        rw [List.take_length]
        by_cases q : cc ∈ W
        · rw [if_pos (decide_eq_true q)] at e
          rw [decide_eq_true q]
          exact w_ifF rfl (more _ _ (by omega) ⟨ia1 i (by omega), tk' + 1, by rw [e]; congr 1; omega, x2, b2', d2'⟩)
        · rw [if_neg (by rw [decide_eq_false q]; decide)] at e
          rw [decide_eq_false q]
          rw [e] at y
          exact w_ifT rfl (y _ x2 b2' d2')
  · have c : ¬ (i : Int) < 9 := c
    obtain rfl : i = 9 := by omega
    have e : issueO (fun c => decide (c ∈ W)) (xs.map (cutW w)) tk 9 = ((⟨0, 0⟩, 12), tk') := e
    rw [e] at y
    exact y _ x' b' d'
end
section
variable {h : H}
variable {d r : Nat} {ws s : Sl} {cs xs : List S_api_Word} {w : Int} {tk : Nat}
theorem t_issueOf (x : DAt h d ws cs tk) {p : Nat} {knob : Int} {G : Nat → Prop} {es : List En} (ct : Cat h p knob G es) (hd : ¬ G d) {o : Int} {K : S_api_Word × Int → H → Prop}
    (y : ∀ h', DAt h' d ws cs (issueO (fun c => (findE es ⟨o, c⟩).isSome) cs tk 9).2 → But (· = d) h h' → (∀ z, h' z = none → h z = none) → K (issueO (fun c => (findE es ⟨o, c⟩).isSome) cs tk 9).1 h') : m_issue_Of (some ⟨d, 0, none⟩) (some ⟨p, 0, none⟩) o K h := by
  unfold m_issue_Of
  refine w_box fun b1 h1 f1 c1 k1 => w_box fun b2 h2 f2 c2 k2 => ?_
  have k12 := k1.trans k2
  have hdb1 : b1 ≠ d := fun e => by rw [e, x.cell] at f1; cases f1
  have hdb2 : b2 ≠ d := fun e => by have := k1 _ _ x.cell; rw [← e, f2] at this; cases this
  refine t_idraw (f := fun c => (findE es ⟨o, c⟩).isSome) (P := fun h' => Cat h' p knob G es ∧ h' b1 = some (.cells [Value.pointer (some ⟨p, 0, none⟩)].toArray 46 (0, 0)) ∧ h' b2 = some (.cells [Value.int .i64 o].toArray 3 (0, 0))) (fun h1 h2 ⟨p1, p2, p3⟩ bb _ => ⟨p1.but bb fun c q g => by (have q : c = d := q); exact hd (q ▸ g), bb _ _ p2 hdb1, bb _ _ p3 hdb2⟩) (fun h' c k ⟨p1, p2, p3⟩ hk => ?_) ⟨ct.keep k12, k2 _ _ c1, c2⟩ (x.keep k12) fun h' x' _ b' d' => y h' x' ((But.of k12).trans b' fun _ q => .inl q) fun z q => k12.fresh (d' z q)
  have hm : m_issue_Of_1 c (⟨b1, 0, none⟩ : Addr) (⟨b2, 0, none⟩ : Addr) k h' := by
    unfold m_issue_Of_1
    exact w_load (v := some ⟨p, 0, none⟩) (cells := cPtr) (at_box p2) (w_load (v := o) (cells := cInt .i64) (at_box p3) (t_CFind p1 hk))
  exact callV_of s_issue_Of_1 (first := #[]) (cap := #[(Value.pointer (some ⟨b1, 0, none⟩)), (Value.pointer (some ⟨b2, 0, none⟩))]) (args := [S_api_Word.val c]) (c, (⟨b1, 0, none⟩ : Addr), (⟨b2, 0, none⟩ : Addr)) rfl hm
theorem t_ROfU {q ev : Nat} {G : Nat → Prop} {es : List En} (x : Ref h q ev G es) {o : Int} {K : Sl → H → Prop} (y : ∀ s' h', Buf cTok 5 N_api_Token h' s' (ofO es o) → Keeps h h' → (∀ c, s'.foot c → h c = none) → K s' h') : m_ref11_Catalogue_Of (some ⟨q, 0, none⟩) o K h :=
  t_ROf x (fun hno h' k => y _ h' (by rw [ofO_none hno]; exact Buf.nil) k fun c ⟨_, q, _⟩ => by cases q) fun n t ks l hn ho hp bl s' h' bu k f => y s' h' (by rw [ofO_some x.wf hn ho hp bl]; exact bu) k f
noncomputable def passes (es : List En) (o : Int) : List S_api_Word := (ofO es o).map fun t => t.Cap.Pass
theorem t_ref13Of (x : RAt h r s xs w tk) (hx : ∀ x ∈ xs, GoodW x) {q ev : Nat} {G : Nat → Prop} {es : List En} (rf : Ref h q ev G es) {o : Int} {K : S_api_Word × Int → H → Prop}
    (y : ∀ h', RAt h' r s xs w (issueO (fun c => decide (c ∈ passes es o)) (xs.map (cutW w)) tk 9).2 → But (· = r) h h' → (∀ z, h' z = none → h z = none) → K (issueO (fun c => decide (c ∈ passes es o)) (xs.map (cutW w)) tk 9).1 h') : m_ref13_Of (some ⟨r, 0, none⟩) (some ⟨q, 0, none⟩) o K h := by
  unfold m_ref13_Of m_ref13_Words
  have wl := rf.wf.len
  have ol := ofO_len rf.wf o
  refine t_ROfU rf fun s1 h1 bu1 k1 f1 => ?_
  have l1 := bu1.len
  refine w_for (ofO es o).length (fun i (z : Sl × Int) h' => z.2 = (i : Int) ∧ Keeps h1 h' ∧ Buf cW 2 N_api_Word h' z.1 (((ofO es o).take i).map fun t => t.Cap.Pass) ∧ ∀ c, z.1.foot c → h1 c = none) ?_ ⟨rfl, .refl _, Buf.nil, fun c ⟨_, q, _⟩ => by cases q⟩
  rintro rec i ⟨ou, iz⟩ h' hi ⟨ei, kp, bu, fo⟩ more
  have ei : iz = (i : Int) := ei
  subst ei
  have bu : Buf cW 2 N_api_Word h' ou (((ofO es o).take i).map fun t => t.Cap.Pass) := bu
  refine w_if' (fun c => ?_) fun c => ?_
  · have c : (i : Int) < (s1.len : Int) := c
    have hil : i < (ofO es o).length := by omega
    have hz := List.getElem?_eq_getElem hil
    generalize (ofO es o)[i] = t at hz
    refine w_idx tok_len (bu1.keep kp).arr hz rfl fun ad _ had => w_load (v := t.Cap.Pass) (cells := cW) ?_ ?_
    · rw [add_zero]
      exact At.sub (l1 := (cTok t).take 1) (l3 := (cTok t).drop 3) had rfl
    refine w_app (by_ := 16) word_len rfl bu [t.Cap.Pass] rfl rfl (.inl (by simp only [List.length_map, List.length_take, List.length_singleton]; omega)) fun s2 h2 bu2 b2 f2 d2 => ?_
    refine more _ _ hil ⟨ia1 i (by omega), kp.but b2 fo, ?_, fun c q => (f2 c q).elim (fo c) fun z => kp.fresh z⟩
    rw [List.take_add_one, hz, List.map_append]
    exact bu2
  · have c : ¬ (i : Int) < (s1.len : Int) := c
    obtain rfl : i = (ofO es o).length := by omega
    rw [List.take_length] at bu
    have kk := k1.trans kp
    have hr : ¬ ou.foot r := fun f => by
      have := fo r f
      have := k1.fresh this
      rw [x.cell] at this; cases this
    refine t_R13Draw (x.keep kk) hx bu.arr (by rw [List.length_map]; omega) hr fun h2 x2 b2 d2 => ?_
    exact y h2 x2 ((But.of kk).trans b2 fun _ q => .inl q) fun z q => kk.fresh (d2 z q)
theorem find_passes {es : List En} (wf : CWF es) (o : Int) (c : S_api_Word) : (findE es ⟨o, c⟩).isSome = decide (c ∈ passes es o) := by
  rw [Bool.eq_iff_iff, decide_eq_true_eq]
  unfold passes
  rw [List.mem_map]
  constructor
  · intro e
    cases hf : findE es ⟨o, c⟩ with
    | none => rw [hf] at e; cases e
    | some n =>
      obtain ⟨t, ks, ht, ec⟩ := findE_has hf
      obtain ⟨r, v, vs, hr, hp, ho, dd⟩ := wf.rootOf ht
      obtain ⟨l, bl⟩ := wf.ex hr
      have hro : v.Cap.Obj = o := by rw [ho, ec]
      rw [ofO_some wf hr hro hp bl]
      refine ⟨tokIn es l (n : Int), List.mem_map.2 ⟨(n : Int), bl.pre.mem.2 ⟨_, by simp, dd⟩, rfl⟩, ?_⟩
      rw [tokIn_has ht, ec]
  · rintro ⟨t, ht, rfl⟩
    by_cases hex : ∃ i u us, Has es i u us ∧ u.Cap.Obj = o
    · obtain ⟨i, u, us, hi, ho⟩ := hex
      obtain ⟨r, v, vs, hr, hp, ho', _⟩ := wf.rootOf hi
      obtain ⟨l, bl⟩ := wf.ex hr
      rw [ofO_some wf hr (ho'.trans ho) hp bl] at ht
      obtain ⟨z, hz, rfl⟩ := List.mem_map.1 ht
      obtain ⟨q, x, xs, rfl, hx⟩ := hasN_nds.1 (bl.live _ hz)
      rw [tokIn_has hx]
      have hxo := bl.obj wf hr hz hx
      have : (⟨o, x.Cap.Pass⟩ : S_api_Cap) = x.Cap := by
        rw [← ho, ← ho', ← hxo]
      show (findE es ⟨o, x.Cap.Pass⟩).isSome = true
      rw [this, wf.find hx]; rfl
    · rw [ofO_none fun i u us hi ho => hex ⟨i, u, us, hi, ho⟩] at ht
      cases ht
end
theorem goodW_of {x : S_api_Word} (h1 : IntKind.u64.min ≤ x.Hi ∧ x.Hi ≤ IntKind.u64.max) (h2 : IntKind.u64.min ≤ x.Lo ∧ x.Lo ≤ IntKind.u64.max) : GoodW x := by
  have a1 : (0 : Int) ≤ x.Hi ∧ x.Hi ≤ 18446744073709551615 := h1
  have a2 : (0 : Int) ≤ x.Lo ∧ x.Lo ≤ 18446744073709551615 := h2
  refine ⟨valW x.Hi.toNat x.Lo.toNat, valW_lt (by omega) (by omega), ?_⟩
  rw [wordOf_val (by omega), Int.toNat_of_nonneg a1.1, Int.toNat_of_nonneg a2.1]
end Go.Proofs.YtdleanjofhghnaaGreatDoor.K
namespace Go.Proofs.YtdleanjofhghnaaGreatDoor.K
open Go Go.Proofs Go.RowKit Go.Extern.Stop Go.Stop Go.Extern
theorem as_nil (t : Value) (w : World) : Calls Tryz.prog 60 #[.nilIface, t] w fun e w' => e = .returned (.bool false) ∧ w' = w := by
  go_enter Tryz.func60, Tryz.ntmps60
  go_wp2
  go_ret
  exact ⟨rfl, rfl⟩
theorem a_valueOfP (t : Addr) (w : World) : (ReflectliteValue.unpack (.iface 141 (.pointer (some t)))).run Tryz.prog w = .ok (.agg #[.pointer (some ⟨1, 141, none⟩), .pointer (some ⟨w.heap.size, 0, none⟩), .int .u64 150]) (w.alloc (.cells #[.pointer (some t)] 141)) := by kernel_rfl
theorem a_typeP (a : Addr) (w : World) : (ReflectliteValue.methodAny (ReflectliteValue.valueError "reflectlite.Value.Type" 0) (fun t _ _ _ => ReflectliteType.toType t) #[.agg #[.pointer (some ⟨1, 141, none⟩), .pointer (some a), .int .u64 150]]).run Tryz.prog w = .ok (.iface 198 (.agg #[.pointer (some ⟨1, 141, none⟩)])) w := by kernel_rfl
theorem a_methodKind (h : Value) (w : World) : (Go.method 344 198 (.agg #[h]) "Kind").run Tryz.prog w = .ok (130, h) w := by kernel_rfl
theorem a_kindP (w : World) : ((ReflectliteType.abiMethod fun t => (fun a : Nat => Value.int IntKind.u8 (a : Int)) <$> Rtype.kind t) #[.pointer (some ⟨1, 141, none⟩)]).run Tryz.prog w = .ok (.int .u8 22) w := by kernel_rfl
theorem a_kindR (w : World) : ((ReflectliteType.abiMethod fun t => (fun a : Nat => Value.int IntKind.u8 (a : Int)) <$> Rtype.kind t) #[.pointer (some ⟨1, 139, none⟩)]).run Tryz.prog w = .ok (.int .u8 22) w := by kernel_rfl
theorem a_rlm (z : Sem Value) (f : TypeId → Addr → Nat → Nat → Sem Value) (v : Value) :
    ReflectliteValue.method z f #[v] = (do match ← ReflectliteValue.parts v with | none => z | some (t, a, fl) => f t a fl (fl % 32)) := rfl
theorem a_partsP (a : Addr) (w : World) : (ReflectliteValue.parts (.agg #[.pointer (some ⟨1, 141, none⟩), .pointer (some a), .int .u64 150])).run Tryz.prog w = .ok (some (141, a, 150)) w := by kernel_rfl
theorem a_isNilP (a p : Addr) (W : World) (ha : W.cell? a = some (.pointer (some p))) :
    (ReflectliteValue.method (ReflectliteValue.valueError "reflectlite.Value.IsNil" 0) ReflectliteValue.isNil #[.agg #[.pointer (some ⟨1, 141, none⟩), .pointer (some a), .int .u64 150]]).run Tryz.prog W = .ok (.bool false) W := by
  rw [a_rlm]
  simp only [Sem.run_bind, a_partsP, Result.andThen]
  simp [ReflectliteValue.isNil, loadVar, isAgg, underlying, Tryz.underlying141, ha, Result.andThen]
theorem a_methodElem (h : Value) (w : World) : (Go.method 344 198 (.agg #[h]) "Elem").run Tryz.prog w = .ok (144, .agg #[h]) w := by kernel_rfl
theorem a_methodImplements (h : Value) (w : World) : (Go.method 344 198 (.agg #[h]) "Implements").run Tryz.prog w = .ok (145, .agg #[h]) w := by kernel_rfl
theorem a_methodAssignableTo (h : Value) (w : World) : (Go.method 344 198 (.agg #[h]) "AssignableTo").run Tryz.prog w = .ok (142, .agg #[h]) w := by kernel_rfl
theorem a_methodUnwrap (h : Value) (w : World) : (Go.method 344 187 h "Unwrap").run Tryz.prog w = .ok (140, h) w := by kernel_rfl
theorem a_elemP (w : World) : (ReflectliteType.method ReflectliteType.elem #[.agg #[.pointer (some ⟨1, 141, none⟩)]]).run Tryz.prog w = .ok (.iface 198 (.agg #[.pointer (some ⟨1, 139, none⟩)])) w := by kernel_rfl
theorem a_implementsR (w : World) : (ReflectliteType.relation "Implements" ReflectliteType.implements_ #[.agg #[.pointer (some ⟨1, 139, none⟩)], .iface 198 (.agg #[.pointer (some ⟨1, 93, none⟩)])]).run Tryz.prog w = .ok (.bool true) w := by kernel_rfl
theorem a_typeOfR (v : Value) (w : World) : (ReflectliteType.typeOf #[.iface 139 v]).run Tryz.prog w = .ok (.iface 198 (.agg #[.pointer (some ⟨1, 139, none⟩)])) w := by kernel_rfl
theorem a_typeOfM (v : Value) (w : World) : (ReflectliteType.typeOf #[.iface 187 v]).run Tryz.prog w = .ok (.iface 198 (.agg #[.pointer (some ⟨1, 187, none⟩)])) w := by kernel_rfl
theorem a_assignableR (w : World) : (ReflectliteType.relation "AssignableTo" ReflectliteType.assignableTo #[.agg #[.pointer (some ⟨1, 139, none⟩)], .iface 198 (.agg #[.pointer (some ⟨1, 139, none⟩)])]).run Tryz.prog w = .ok (.bool true) w := by kernel_rfl
theorem a_assignableM (w : World) : (ReflectliteType.relation "AssignableTo" ReflectliteType.assignableTo #[.agg #[.pointer (some ⟨1, 187, none⟩)], .iface 198 (.agg #[.pointer (some ⟨1, 139, none⟩)])]).run Tryz.prog w = .ok (.bool false) w := by kernel_rfl
theorem a_valueOfR (e : Addr) (w : World) : (ReflectliteValue.unpack (.iface 139 (.pointer (some e)))).run Tryz.prog w = .ok (.agg #[.pointer (some ⟨1, 139, none⟩), .pointer (some ⟨w.heap.size, 0, none⟩), .int .u64 150]) (w.alloc (.cells #[.pointer (some e)] 139)) := by kernel_rfl
theorem a_elemOfP (w : World) : (Rtype.elem? 141).run Tryz.prog w = .ok (some 139) w := by kernel_rfl
theorem a_mkR (p : Addr) (w : World) : (ReflectliteValue.mk 139 p ReflectliteValue.flagAddr).run Tryz.prog w = .ok (.agg #[.pointer (some ⟨1, 139, none⟩), .pointer (some p), .int .u64 406]) w := by kernel_rfl
theorem a_elemVP (a p : Addr) (W : World) (ha : W.cell? a = some (.pointer (some p))) :
    (ReflectliteValue.method (ReflectliteValue.valueError "reflectlite.Value.Elem" 0) ReflectliteValue.elem #[.agg #[.pointer (some ⟨1, 141, none⟩), .pointer (some a), .int .u64 150]]).run Tryz.prog W = .ok (.agg #[.pointer (some ⟨1, 139, none⟩), .pointer (some p), .int .u64 406]) W := by
  rw [a_rlm]
  simp only [Sem.run_bind, a_partsP, Result.andThen]
  simp [ReflectliteValue.elem, loadVar, isAgg, underlying, Tryz.underlying141, ha, Result.andThen, a_elemOfP, a_mkR]
theorem a_rls (v x : Value) : ReflectliteValue.set #[v, x] = (do
    let (some (dst, a, fl), some (src, b, _)) := (← ReflectliteValue.parts v, ← ReflectliteValue.parts x)
      | unsupported (.noEntry "extern/(internal/reflectlite.Value).Set.zeroValue")
    if fl / ReflectliteValue.flagAddr % 2 == 0 then unsupported (.noEntry "extern/(internal/reflectlite.Value).Set.unaddressable")
    let val ← loadVar src b
    if ← Rtype.directlyAssignable dst src then storeVar dst a val
    else if ← Rtype.implements dst src then
      if (← Rtype.kind src) == 20 then
        match val with
        | .nilIface => unsupported (.noEntry "extern/reflectlite: a nil value of one interface type handed on as a value of another")
        | _ => storeVar dst a val
      else storeVar dst a (.iface src val)
    else panicString ("reflectlite.Set: value of type " ++ (← Rtype.spelt src) ++ " is not assignable to type " ++ (← Rtype.spelt dst))
    pure (.tuple #[])) := rfl
theorem a_partsA (a : Addr) (w : World) : (ReflectliteValue.parts (.agg #[.pointer (some ⟨1, 139, none⟩), .pointer (some a), .int .u64 406])).run Tryz.prog w = .ok (some (139, a, 406)) w := by kernel_rfl
theorem a_partsR (a : Addr) (w : World) : (ReflectliteValue.parts (.agg #[.pointer (some ⟨1, 139, none⟩), .pointer (some a), .int .u64 150])).run Tryz.prog w = .ok (some (139, a, 150)) w := by kernel_rfl
theorem a_directR (w : World) : (Rtype.directlyAssignable 139 139).run Tryz.prog w = .ok true w := by kernel_rfl
theorem a_setR (ta b e : Addr) (old : Value) (W : World) (hb : W.cell? b = some (.pointer (some e))) (ht : W.cell? ta = some old) (hf : W.frozen? ta = false) :
    (ReflectliteValue.set #[.agg #[.pointer (some ⟨1, 139, none⟩), .pointer (some ta), .int .u64 406], .agg #[.pointer (some ⟨1, 139, none⟩), .pointer (some b), .int .u64 150]]).run Tryz.prog W = .ok (.tuple #[]) (W.setCell ta (.pointer (some e))) := by
  rw [a_rls]
  simp only [Sem.run_bind, a_partsA, a_partsR, Result.andThen]
  simp [ReflectliteValue.flagAddr, loadVar, isAgg, underlying, Tryz.underlying139, hb, Result.andThen, a_directR, storeVar, Value.cells, storeCells, Addr.add]
  rw [run_store Tryz.prog W ta _ _ (by rfl)]
  simp [ht, hf]
theorem a_noAs (v : Value) (w : World) : (Instr.typeAssert (.iface 187 v) 93 203 true).run Tryz.prog w = .ok (.tuple #[.nilIface, .bool false]) w := run_typeAssert_lacksB Tryz.underlying203 (by kernel_rfl) (by kernel_rfl) v 93 w
theorem a_unwraps (v : Value) (w : World) : (Instr.typeAssert (.iface 187 v) 93 206 true).run Tryz.prog w = .ok (.tuple #[.iface 187 v, .bool true]) w := run_typeAssert_hasB Tryz.underlying206 (by kernel_rfl) v 93 w
def asWorld (w : World) (t e : Addr) : World := ((((w.alloc (.cells #[.pointer (some t)] 141)).alloc (.cells #[.pointer (some ⟨1, 141, none⟩), .pointer (some ⟨w.heap.size, 0, none⟩), .int .u64 150] 178)).alloc (.cells #[.pointer (some ⟨1, 141, none⟩), .pointer (some ⟨w.heap.size, 0, none⟩), .int .u64 150] 178)).alloc (.cells #[.pointer (some e)] 139)).setCell t (.pointer (some e))
set_option maxHeartbeats 8000000 in
set_option maxRecDepth 100000 in
theorem as_hit2 (m e t : Addr) (old : Value) (w : World) (hg : w.cell? ⟨0, 0, none⟩ = some (.iface 198 (.agg #[.pointer (some ⟨1, 93, none⟩)]))) (ht0 : w.cell? t = some old) (hf0 : w.frozen? t = false)
    (hm : w.cell? ⟨m.block, m.off + 1, none⟩ = some (.iface 139 (.pointer (some e)))) :
    Calls Tryz.prog 60 #[.iface 187 (.pointer (some m)), .iface 141 (.pointer (some t))] w fun ev w' => ev = .returned (.bool true) ∧ w' = asWorld w t e := by
  have h6 := @run_callFunc_extern Tryz.prog 90 _ (fun args => ReflectliteValue.unpack (args.getD 0 (.tuple #[]))) Tryz.func90 (by kernel_rfl) (by kernel_rfl) (by kernel_rfl) (by kernel_rfl)
  have h7 := @run_callFunc_extern Tryz.prog 91 _ (ReflectliteValue.methodAny (ReflectliteValue.valueError "reflectlite.Value.Type" 0) (fun t _ _ _ => ReflectliteType.toType t)) Tryz.func91 (by kernel_rfl) (by kernel_rfl) (by kernel_rfl) (by kernel_rfl)
  have h8 := @run_callFunc_extern Tryz.prog 92 _ (ReflectliteValue.method (ReflectliteValue.valueError "reflectlite.Value.IsNil" 0) ReflectliteValue.isNil) Tryz.func92 (by kernel_rfl) (by kernel_rfl) (by kernel_rfl) (by kernel_rfl)
  have h27 := @run_callFunc_extern Tryz.prog 130 _ (ReflectliteType.abiMethod fun t => do pure (.int .u8 (← Rtype.kind t))) Tryz.func130 (by kernel_rfl) (by kernel_rfl) (by kernel_rfl) (by kernel_rfl)
  have h37 := @run_callFunc_extern Tryz.prog 144 _ (ReflectliteType.method ReflectliteType.elem) Tryz.func144 (by kernel_rfl) (by kernel_rfl) (by kernel_rfl) (by kernel_rfl)
  have h38 := @run_callFunc_extern Tryz.prog 145 _ (ReflectliteType.relation "Implements" ReflectliteType.implements_) Tryz.func145 (by kernel_rfl) (by kernel_rfl) (by kernel_rfl) (by kernel_rfl)
  have h10 := @run_callFunc_extern Tryz.prog 108 _ ReflectliteType.typeOf Tryz.func108 (by kernel_rfl) (by kernel_rfl) (by kernel_rfl) (by kernel_rfl)
  have h35 := @run_callFunc_extern Tryz.prog 142 _ (ReflectliteType.relation "AssignableTo" ReflectliteType.assignableTo) Tryz.func142 (by kernel_rfl) (by kernel_rfl) (by kernel_rfl) (by kernel_rfl)
  have h11 := @run_callFunc_extern Tryz.prog 109 _ (ReflectliteValue.method (ReflectliteValue.valueError "reflectlite.Value.Elem" 0) ReflectliteValue.elem) Tryz.func109 (by kernel_rfl) (by kernel_rfl) (by kernel_rfl) (by kernel_rfl)
  have h12 := @run_callFunc_extern Tryz.prog 110 _ ReflectliteValue.set Tryz.func110 (by kernel_rfl) (by kernel_rfl) (by kernel_rfl) (by kernel_rfl)
  have tO := a_typeOfR
  have tM := a_typeOfM
  have mA := a_methodAssignableTo
  have a25 := a_assignableR
  have aM := a_assignableM
  have nA := a_noAs
  have uW := a_unwraps
  have mU := a_methodUnwrap
  have v25 := a_valueOfR
  have f6 := a_valueOfP
  have f7 := a_typeP
  have mK := a_methodKind
  have mE := a_methodElem
  have mI := a_methodImplements
  have k27 := a_kindP
  have k25 := a_kindR
  have e27 := a_elemP
  have i25 := a_implementsR
  have n8 := a_isNilP ⟨w.heap.size, 0, none⟩ t ((w.alloc (.cells #[.pointer (some t)] 141)).alloc (.cells #[.pointer (some ⟨1, 141, none⟩), .pointer (some ⟨w.heap.size, 0, none⟩), .int .u64 150] 178)) (by simp)
  have hlt : 0 < w.heap.size := by
    rcases Nat.lt_or_ge 0 w.heap.size with h | h
    · exact h
    · simp [World.cell?, Array.getElem?_eq_none h] at hg
  have hml : m.block < w.heap.size := by
    rcases Nat.lt_or_ge m.block w.heap.size with h | h
    · exact h
    · simp [World.cell?, Array.getElem?_eq_none h] at hm
  have hg2 : ((w.alloc (.cells #[.pointer (some t)] 141)).alloc (.cells #[.pointer (some ⟨1, 141, none⟩), .pointer (some ⟨w.heap.size, 0, none⟩), .int .u64 150] 178)).cell? ⟨0, 0, none⟩ = some (.iface 198 (.agg #[.pointer (some ⟨1, 93, none⟩)])) := by
    rw [World.cell?_alloc_lt _ _ ⟨0, 0, none⟩ (by simp), World.cell?_alloc_lt _ _ ⟨0, 0, none⟩ hlt]; exact hg
  have htl : t.block < w.heap.size := by
    rcases Nat.lt_or_ge t.block w.heap.size with h | h
    · exact h
    · simp [World.cell?, Array.getElem?_eq_none h] at ht0
  have hm3 : ((((w.alloc (.cells #[.pointer (some t)] 141)).alloc (.cells #[.pointer (some ⟨1, 141, none⟩), .pointer (some ⟨w.heap.size, 0, none⟩), .int .u64 150] 178)).alloc (.cells #[.pointer (some ⟨1, 141, none⟩), .pointer (some ⟨w.heap.size, 0, none⟩), .int .u64 150] 178))).cell? ⟨m.block, m.off + 1, none⟩ = some (.iface 139 (.pointer (some e))) := by rw [World.cell?_alloc_lt _ _ ⟨m.block, m.off + 1, none⟩ (by simp; omega), World.cell?_alloc_lt _ _ ⟨m.block, m.off + 1, none⟩ (by simp; omega), World.cell?_alloc_lt _ _ ⟨m.block, m.off + 1, none⟩ hml]; exact hm
  have el := a_elemVP ⟨w.heap.size, 0, none⟩ t (((w.alloc (.cells #[.pointer (some t)] 141)).alloc (.cells #[.pointer (some ⟨1, 141, none⟩), .pointer (some ⟨w.heap.size, 0, none⟩), .int .u64 150] 178)).alloc (.cells #[.pointer (some ⟨1, 141, none⟩), .pointer (some ⟨w.heap.size, 0, none⟩), .int .u64 150] 178)) (by rw [World.cell?_alloc_lt _ _ ⟨w.heap.size, 0, none⟩ (by simp; omega)]; simp)
  have st := a_setR t ⟨w.heap.size + 1 + 1 + 1, 0, none⟩ e old ((((w.alloc (.cells #[.pointer (some t)] 141)).alloc (.cells #[.pointer (some ⟨1, 141, none⟩), .pointer (some ⟨w.heap.size, 0, none⟩), .int .u64 150] 178)).alloc (.cells #[.pointer (some ⟨1, 141, none⟩), .pointer (some ⟨w.heap.size, 0, none⟩), .int .u64 150] 178)).alloc (.cells #[.pointer (some e)] 139))
    (by rw [World.cell?_alloc_at _ _ _ _ (by simp)]; rfl)
    (by rw [World.cell?_alloc_lt _ _ t (by simp; omega), World.cell?_alloc_lt _ _ t (by simp; omega), World.cell?_alloc_lt _ _ t (by simp; omega), World.cell?_alloc_lt _ _ t htl]; exact ht0)
    (by rw [World.frozen?_alloc_old _ _ t (by simp; omega), World.frozen?_alloc_old _ _ t (by simp; omega), World.frozen?_alloc_old _ _ t (by simp; omega), World.frozen?_alloc_old _ _ t (Nat.ne_of_lt htl)]; exact hf0)
  go_enter Tryz.func60, Tryz.ntmps60
  go_wp2
  refine wp_loop_rounds 2 ?_
  rw [rounds_succ]
  go_wp2
  rw [rounds_succ]
  go_wp2
  go_ret
  exact ⟨rfl, rfl⟩
end Go.Proofs.YtdleanjofhghnaaGreatDoor.K
namespace Go.Proofs.YtdleanjofhghnaaGreatDoor.K
open Go Go.Proofs Go.RowKit
def errG : Nat := 0
def ErrAt (h : H) : Prop := At h ⟨errG, 0, none⟩ [.iface 198 (.agg #[.pointer (some ⟨1, 93, none⟩)])]
def asks (h : H) (e : Int) (v : Value) : Prop := (e = 0 ∧ v = .nilIface) ∨ (e ≠ 0 ∧ ∃ m r : Nat, v = .iface 187 (.pointer (some ⟨m, 0, none⟩)) ∧ At h ⟨m, 1, none⟩ [.iface 139 (.pointer (some ⟨r, 0, none⟩))] ∧ At h ⟨r, 0, none⟩ (cInt .i64 e))
def m_errors_As (a0 a1 : PV) (K : Bool → H → Prop) : H → Prop := fun h =>
 (a0.1 = .nilIface ∧ K false h) ∨
 (∃ m e t : Addr, a0.1 = .iface 187 (.pointer (some m)) ∧ a1.1 = .iface 141 (.pointer (some t)) ∧ At h ⟨0, 0, none⟩ [.iface 198 (.agg #[.pointer (some ⟨1, 93, none⟩)])] ∧
 At h ⟨m.block, m.off + 1, none⟩ [.iface 139 (.pointer (some e))] ∧ mStore t [.pointer (some e)] (K true) h)
theorem w_As0 {a0 a1 : PV} {K : Bool → H → Prop} {h : H} (e : a0.1 = .nilIface) (y : K false h) : m_errors_As a0 a1 K h := .inl ⟨e, y⟩
theorem w_As1 {a0 : PV} {t : Nat} {v : Value} {K : Bool → H → Prop} {h : H} {e : Int} (x : asks h e a0.1) (ne : e ≠ 0) (g : ErrAt h) {ct : TypeId} (hb : h t = some (.cells [v].toArray ct (0, 0)))
    (y : ∀ r : Nat, At h ⟨r, 0, none⟩ (cInt .i64 e) → K true (upd h t (.cells [.pointer (some ⟨r, 0, none⟩)].toArray ct (0, 0)))) : m_errors_As a0 ⟨.iface 141 (.pointer (some ⟨t, 0, none⟩)), rfl, rfl⟩ K h := by
  rcases x with ⟨e0, _⟩ | ⟨_, m, r, e1, hm, hr⟩
  · exact absurd e0 ne
  · refine .inr ⟨⟨m, 0, none⟩, ⟨r, 0, none⟩, ⟨t, 0, none⟩, e1, rfl, g, hm, rfl, _, ct, (0, 0), hb, by simp, fun i _ => by simp [frozenIn], ?_⟩
    exact y r hr
theorem a_cell {w : World} {h : H} (s : Sat w h) {a : Addr} {v : Value} (x : At h a [v]) : w.cell? a = some v := by
  obtain ⟨h1, c, e, fz, h2, h3⟩ := x
  exact cell_of s h1 h2 (grab_one h3)
theorem a_alloc {w : World} {h g : H} (s : Sat2 w h g) (o : Obj) : Sat2 (w.alloc o) h g := ⟨s.hs.keep o, s.gs.keep o, s.ap⟩
theorem errors_As_ok (a : Den [tPV, tPV]) (K : Den [tBool] → HP) (h : H) (x : m_errors_As a.1 a.2 K h) :
    ACall Tryz.prog 60 (valsD [tPV, tPV] a).toArray h (fun v h' => ∃ r, v = outV (valsD [tBool] r) ∧ K r h') noP := by
  intro w g s
  show Calls _ _ #[a.1.1, a.2.1] _ _
  rcases x with ⟨h0, k⟩ | ⟨m, e, t, h0, h1, hg, hm, ts, c, ct, fz, hb, hl, hf, k⟩
  · rw [h0]
    refine (as_nil a.2.1 w).mono fun ev w' r => ?_
    obtain ⟨rfl, rfl⟩ := r
    exact ⟨h, s, .refl _, false, rfl, k⟩
  · rw [h0, h1]
    have hsz : t.off < c.size := by simp at hl; omega
    refine (as_hit2 m e t c[t.off] w (a_cell s.hs hg) (cell_of s.hs ts hb (by simp [hsz])) (by rw [frozen_of s.hs hb]; exact hf 0 (by simp)) (a_cell s.hs hm)).mono fun ev w' r => ?_
    obtain ⟨rfl, rfl⟩ := r
    refine ⟨upd h t.block (.cells (lay c t.off [.pointer (some e)]) ct fz), ?_, ?_, true, rfl, k⟩
    · have s4 := a_alloc (a_alloc (a_alloc (a_alloc s (.cells #[.pointer (some t)] 141)) (.cells #[.pointer (some ⟨1, 141, none⟩), .pointer (some ⟨w.heap.size, 0, none⟩), .int .u64 150] 178)) (.cells #[.pointer (some ⟨1, 141, none⟩), .pointer (some ⟨w.heap.size, 0, none⟩), .int .u64 150] 178)) (.cells #[.pointer (some e)] 139)
      refine s4.put hb (fun b hb' => ?_) ?_
      · simp only [asWorld, World.setCell, Array.getElem?_modify, if_neg (Ne.symm hb')]
      · simp [asWorld, World.setCell, Array.getElem?_modify, s4.hs _ _ hb, ts, lay]
    · exact ⟨rfl, rfl, rfl, by simp [asWorld, World.setCell]; omega⟩
def s_errors_As : Spec Tryz.prog := ⟨60, [tPV, tPV], [tBool], false, fun a K => m_errors_As a.1 a.2 K, errors_As_ok, ⟨_, Tryz.func60, by kernel_rfl, by kernel_rfl⟩⟩
end Go.Proofs.YtdleanjofhghnaaGreatDoor.K
namespace Go.Proofs.YtdleanjofhghnaaGreatDoor.K
open Go Go.Proofs
def m_derive_told (a0 : S_api_Cap) (a1 : PV) (K : (S_api_Cap × Int) → H → Prop) : H → Prop :=
 mNew 139 #[(Value.pointer none)] fun ad1 =>
 m_errors_As a1 (⟨Value.iface 141 (Value.pointer (some ad1)), rfl, rfl⟩ : PV) fun r2 =>
 mIf r2 (
 mJoin (fun (s3 : Int × Int × Int × Int) =>
 K ((⟨s3.2.1, ⟨s3.2.2.1, s3.2.2.2⟩⟩ : S_api_Cap), s3.1)
 ) (fun j4 =>
 mBoth (
 mLoad cPtr ad1 fun x5 =>
 mDeref x5 fun ad6 =>
 mBoth (
 mLoad (cInt .i64) (ad6.add 0) fun x7 =>
 j4 (x7, 0, 0, 0)
 ) (
 mLoad (cInt .i64) (ad6.add 0) fun x8 =>
 j4 (x8, 0, 0, 0)
 )
 ) (
 mLoad cPtr ad1 fun x9 =>
 mDeref x9 fun ad10 =>
 mLoad (cInt .i64) (ad10.add 0) fun x11 =>
 j4 (x11, 0, 0, 0)
 ))
 ) (
 K (a0, 0)
 )
def x_derive_told : Cx Tryz.prog := ⟨tys, [s_errors_As], [2, 4], [], mixed⟩
def h_derive_told : Hint := (.seq .d (.seq .d (.seq (.seq .d (.cond (.seq (.reg (.run [0] (.join [.slot 14 (tInt .i64), .cell 4 0 (tInt .i64), .cell 4 1 (tInt .u64), .cell 4 2 (tInt .u64)] 30720 [4] (.both 1 5 (.run [8, 12] (.both 4 5 (.run [23] .nil) (.run [18] .nil))) (.run [6, 8, 12, 18] .nil)) (.run [24] .nil)))) .d) .d)) .d)))
def s_derive_told : Spec Tryz.prog := mkSpec x_derive_told 36 Tryz.f36 [S_api_Cap.ty, tPV] [S_api_Cap.ty, (tInt .i64)] false h_derive_told (fun a => m_derive_told a.1 a.2) (fun a K h => by kernel_rfl) callee36 rfl
def m_derive_ask (a0 : ByteArray) (a1 : Int) (K : (PV) → H → Prop) : H → Prop :=
 mIf (decide (a1 = 0)) (
 K (⟨Value.nilIface, rfl, rfl⟩ : PV)
 ) (
 mNew 143 #[(Value.int .i64 a1)] fun ad1 =>
 mNew 189 #[(Value.string a0), (⟨Value.iface 139 (Value.pointer (some ad1)), rfl, rfl⟩ : PV).1] fun ad2 =>
 K (⟨Value.iface 187 (Value.pointer (some ad2)), rfl, rfl⟩ : PV)
 )
def x_derive_ask : Cx Tryz.prog := ⟨tys, [], [], [], mixed⟩
def h_derive_ask : Hint := .d
def s_derive_ask : Spec Tryz.prog := mkSpec x_derive_ask 62 Tryz.f62 [tStr, (tInt .i64)] [tPV] false h_derive_ask (fun a => m_derive_ask a.1 a.2) (fun a K h => by kernel_rfl) callee62 rfl
def m_derive_root (a0 : Option Addr) (a1 : Option Addr) (a2 : Option Addr) (a3 : Int) (K : (S_api_Cap × PV) → H → Prop) : H → Prop :=
 m_catalogue_Catalogue_In a1 a3 fun r1 =>
 mIf (decide (0 < r1)) (
 m_derive_ask (ByteArray.mk #[116, 104, 101, 32, 111, 98, 106, 101, 99, 116]) 19 fun r2 =>
 K ((⟨0, ⟨0, 0⟩⟩ : S_api_Cap), r2)
 ) (
 m_quota_Quota_May a2 a3 fun r3 =>
 m_derive_ask (ByteArray.mk #[113, 117, 111, 116, 97]) r3 fun r4 =>
 mIsNil r4.1 fun b5 =>
 mIf (!b5) (
 K ((⟨0, ⟨0, 0⟩⟩ : S_api_Cap), r4)
 ) (
 m_draws_Draws_Draw a0 fun r6 =>
 m_derive_ask (ByteArray.mk #[100, 114, 97, 119, 115]) r6.2 fun r7 =>
 mIsNil r7.1 fun b8 =>
 mIf (!b8) (
 K ((⟨0, ⟨0, 0⟩⟩ : S_api_Cap), r7)
 ) (
 m_catalogue_Catalogue_Root a1 (⟨a3, ⟨r6.1.Hi, r6.1.Lo⟩⟩ : S_api_Cap) 31 fun r9 =>
 mIf (!decide (r9.2 = 0)) (
 m_derive_ask (ByteArray.mk #[99, 97, 116, 97, 108, 111, 103, 117, 101]) r9.2 fun r10 =>
 K ((⟨0, ⟨0, 0⟩⟩ : S_api_Cap), r10)
 ) (
 m_quota_Quota_Add a2 a3 fun r11 =>
 m_derive_ask (ByteArray.mk #[113, 117, 111, 116, 97]) r11 fun r12 =>
 K ((⟨a3, ⟨r6.1.Hi, r6.1.Lo⟩⟩ : S_api_Cap), r12)
 )
 )
 )
 )
def x_derive_root : Cx Tryz.prog := ⟨tys, [s_catalogue_Catalogue_In, s_derive_ask, s_quota_Quota_May, s_draws_Draws_Draw, s_catalogue_Catalogue_Root, s_quota_Quota_Add], [8, 11, 14], [], mixed⟩
def h_derive_root : Hint := (.seq .d (.seq .d (.seq .d (.seq .d (.seq .d (.seq .d (.seq .d (.seq (.reg (.run [4, 8, 1, 15, 19, 23, 24] .nil)) .d))))))))
def s_derive_root : Spec Tryz.prog := mkSpec x_derive_root 37 Tryz.f37 [tPtr, tPtr, tPtr, (tInt .i64)] [S_api_Cap.ty, tPV] false h_derive_root (fun a => m_derive_root a.1 a.2.1 a.2.2.1 a.2.2.2) (fun a K h => by kernel_rfl) callee37 rfl
def m_derive_Root (a0 : Option Addr) (a1 : Option Addr) (a2 : Option Addr) (a3 : Int) (K : (S_api_Cap × Int) → H → Prop) : H → Prop :=
 m_derive_root a0 a1 a2 a3 fun r1 =>
 m_derive_told r1.1 r1.2 fun r2 =>
 K (r2.1, r2.2)
def x_derive_Root : Cx Tryz.prog := ⟨tys, [s_derive_told, s_derive_root], [8], [], mixed⟩
def h_derive_Root : Hint := .d
def s_derive_Root : Spec Tryz.prog := mkSpec x_derive_Root 9 Tryz.f9 [tPtr, tPtr, tPtr, (tInt .i64)] [S_api_Cap.ty, (tInt .i64)] false h_derive_Root (fun a => m_derive_Root a.1 a.2.1 a.2.2.1 a.2.2.2) (fun a K h => by kernel_rfl) callee9 rfl
def m_derive_child (a0 : Option Addr) (a1 : Option Addr) (a2 : Option Addr) (a3 : S_api_Cap) (a4 : Int) (K : (S_api_Cap × PV) → H → Prop) : H → Prop :=
 m_catalogue_Catalogue_Find a1 a3 fun r1 =>
 mIf (!r1.2) (
 m_derive_ask (ByteArray.mk #[112, 97, 114, 101, 110, 116]) 3 fun r2 =>
 K ((⟨0, ⟨0, 0⟩⟩ : S_api_Cap), r2)
 ) (
 m_catalogue_Catalogue_At a1 r1.1 fun r3 =>
 mPure (m_mask_Has r3.1.Rights 4) fun r4 =>
 mJoin (fun (s6 : Bool) =>
 mIf s6 (
 m_derive_ask (ByteArray.mk #[114, 105, 103, 104, 116, 115]) 4 fun r8 =>
 K ((⟨0, ⟨0, 0⟩⟩ : S_api_Cap), r8)
 ) (
 m_quota_Quota_May a2 a3.Obj fun r9 =>
 m_derive_ask (ByteArray.mk #[113, 117, 111, 116, 97]) r9 fun r10 =>
 mIsNil r10.1 fun b11 =>
 mIf (!b11) (
 K ((⟨0, ⟨0, 0⟩⟩ : S_api_Cap), r10)
 ) (
 m_issue_Of a0 a1 a3.Obj fun r12 =>
 m_derive_ask (ByteArray.mk #[105, 115, 115, 117, 101]) r12.2 fun r13 =>
 mIsNil r13.1 fun b14 =>
 mIf (!b14) (
 K ((⟨0, ⟨0, 0⟩⟩ : S_api_Cap), r13)
 ) (
 m_catalogue_Catalogue_Child a1 r1.1 (⟨a3.Obj, ⟨r12.1.Hi, r12.1.Lo⟩⟩ : S_api_Cap) a4 fun r15 =>
 mIf (!decide (r15.2 = 0)) (
 m_derive_ask (ByteArray.mk #[99, 97, 116, 97, 108, 111, 103, 117, 101]) r15.2 fun r16 =>
 K ((⟨0, ⟨0, 0⟩⟩ : S_api_Cap), r16)
 ) (
 m_quota_Quota_Add a2 a3.Obj fun r17 =>
 m_derive_ask (ByteArray.mk #[113, 117, 111, 116, 97]) r17 fun r18 =>
 K ((⟨a3.Obj, ⟨r12.1.Hi, r12.1.Lo⟩⟩ : S_api_Cap), r18)
 )
 )
 )
 )
 ) (fun j7 =>
 mIf (!r4) (
 j7 true
 ) (
 mPure (m_mask_Part a4 r3.1.Rights) fun r19 =>
 j7 (!r19)
 ))
 )
def x_derive_child : Cx Tryz.prog := ⟨tys, [s_catalogue_Catalogue_Find, s_catalogue_Catalogue_At, s_derive_ask, s_quota_Quota_May, s_quota_Quota_Add, s_mask_Has, s_mask_Part, s_issue_Of, s_catalogue_Catalogue_Child], [8, 10, 14, 17, 20], [], mixed⟩
def h_derive_child : Hint := (.seq .d (.seq .d (.seq .d (.seq .d (.seq (.seq (.reg (.run [3, 7, 11, 15, 19] (.join [.slot 49 tBool] 1108307720798208 [] (.split 43 (.run [23, 27, 31, 35, 39, 43] .nil) (.run [23, 27, 31, 35, 39, 43] .nil)) .nil))) .d) (.seq .d (.seq .d (.seq .d (.seq .d (.seq .d (.seq (.reg (.run [4, 8, 1, 13, 19, 23, 27, 28] .nil)) .d)))))))))))
def s_derive_child : Spec Tryz.prog := mkSpec x_derive_child 38 Tryz.f38 [tPtr, tPtr, tPtr, S_api_Cap.ty, (tInt .i64)] [S_api_Cap.ty, tPV] false h_derive_child (fun a => m_derive_child a.1 a.2.1 a.2.2.1 a.2.2.2.1 a.2.2.2.2) (fun a K h => by kernel_rfl) callee38 rfl
def m_derive_Child (a0 : Option Addr) (a1 : Option Addr) (a2 : Option Addr) (a3 : S_api_Cap) (a4 : Int) (K : (S_api_Cap × Int) → H → Prop) : H → Prop :=
 m_derive_child a0 a1 a2 a3 a4 fun r1 =>
 m_derive_told r1.1 r1.2 fun r2 =>
 K (r2.1, r2.2)
def x_derive_Child : Cx Tryz.prog := ⟨tys, [s_derive_told, s_derive_child], [8, 10], [], mixed⟩
def h_derive_Child : Hint := .d
def s_derive_Child : Spec Tryz.prog := mkSpec x_derive_Child 10 Tryz.f10 [tPtr, tPtr, tPtr, S_api_Cap.ty, (tInt .i64)] [S_api_Cap.ty, (tInt .i64)] false h_derive_Child (fun a => m_derive_Child a.1 a.2.1 a.2.2.1 a.2.2.2.1 a.2.2.2.2) (fun a K h => by kernel_rfl) callee10 rfl
end Go.Proofs.YtdleanjofhghnaaGreatDoor.K
namespace Go.Proofs.YtdleanjofhghnaaGreatDoor.K
open Go
section
variable {h : H} {K : PV → H → Prop}
theorem w_ask {s : ByteArray} {e : Int} (y0 : e = 0 → ∀ v : PV, v.1 = .nilIface → K v h) (y1 : e ≠ 0 → ∀ v h', asks h' e v.1 → Keeps h h' → K v h') : m_derive_ask s e K h := by
  unfold m_derive_ask
  refine w_if' (fun c => y0 c _ rfl) fun c => ?_
  refine w_box fun b1 h1 f1 c1 k1 => w_box fun b2 h2 f2 c2 k2 => ?_
  refine y1 c _ h2 (.inr ⟨c, b2, b1, rfl, ?_, ?_⟩) (k1.trans k2)
  · exact At.own (l1 := [Value.string s]) (l3 := []) c2 rfl
  · exact (at_box c1).keep k2
theorem w_isNil0 {fv : Value} {K : Bool → H → Prop} (e : fv = .nilIface) (y : K true h) : mIsNil fv K h := .inl ⟨e, y⟩
theorem w_isNil1 {fv : Value} {e : Int} {K : Bool → H → Prop} (x : asks h e fv) (ne : e ≠ 0) (y : K false h) : mIsNil fv K h := by
  rcases x with ⟨e0, _⟩ | ⟨_, m, r, e1, _⟩
  · exact absurd e0 ne
  · exact .inr ⟨_, _, e1, y⟩
def cap0 : S_api_Cap := ⟨0, ⟨0, 0⟩⟩
theorem w_told0 {c : S_api_Cap} {fv : PV} {K : S_api_Cap × Int → H → Prop} (e : fv.1 = .nilIface) (y : ∀ h', Keeps h h' → K (c, 0) h') : m_derive_told c fv K h := by
  unfold m_derive_told
  refine w_box fun b1 h1 f1 c1 k1 => ?_
  exact w_As0 e (w_ifF rfl (y h1 k1))
theorem w_told1 {c : S_api_Cap} {fv : PV} {e : Int} {K : S_api_Cap × Int → H → Prop} (g : ErrAt h) (x : asks h e fv.1) (ne : e ≠ 0) (y : ∀ h', Keeps h h' → K (cap0, e) h') : m_derive_told c fv K h := by
  unfold m_derive_told
  refine w_box fun b1 h1 f1 c1 k1 => ?_
  have x1 : asks h1 e fv.1 := by
    rcases x with ⟨e0, _⟩ | ⟨_, m, r, e1, hm, hr⟩
    · exact absurd e0 ne
    · exact .inr ⟨ne, m, r, e1, hm.keep k1, hr.keep k1⟩
  refine w_As1 (v := .pointer none) x1 ne (g.keep k1) c1 fun r hr => ?_
  have hrb : r ≠ b1 := fun q => by
    subst q
    rcases x with ⟨e0, _⟩ | ⟨_, m, r', e1, hm, hr'⟩
    · exact absurd e0 ne
    · obtain ⟨o, ho⟩ := hr.ex
      have a1 := at_box (cs := [Value.pointer none]) c1
      have a2 := At.eq hr a1 rfl
      simp [cInt] at a2
  refine w_ifT rfl (w_join ?_)
  have l1 : At (upd h1 b1 (.cells [Value.pointer (some ⟨r, 0, none⟩)].toArray N_P_derive_refusal (0, 0))) ⟨b1, 0, none⟩ (cPtr (some ⟨r, 0, none⟩)) := at_box (upd_same _ _ _)
  have l2 : At (upd h1 b1 (.cells [Value.pointer (some ⟨r, 0, none⟩)].toArray N_P_derive_refusal (0, 0))) (Addr.add ⟨r, 0, none⟩ 0) (cInt .i64 e) := by
    rw [pt_add]; exact hr.frame (upd_ne _ _ hrb)
  have kk : Keeps h (upd h1 b1 (.cells [Value.pointer (some ⟨r, 0, none⟩)].toArray N_P_derive_refusal (0, 0))) := fun z o ho => by
    rw [upd_ne _ _ (fun q => by rw [q, f1] at ho; cases ho)]; exact k1 z o ho
  exact w_both (w_load l1 (w_deref (w_both (w_load l2 (y _ kk)) (w_load l2 (y _ kk))))) (w_load l1 (w_deref (w_load l2 (y _ kk))))
end
def DraO (h : H) (o : Owner) (i d : Nat) (cs : List S_api_Word) (tk : Nat) : Prop := ∃ ws, DAt h d ws cs tk ∧ o d = some i ∧ ∀ c, ws.foot c → o c = some i
section
variable {i j : Nat} {o o' : Owner} {h h' : H} {p d q : Nat} {es : List En} {each all : Int} {l : List (Int × Int)} {cs : List S_api_Word} {tk : Nat}
theorem DraO.oc (x : DraO h o i d cs tk) (k : OC j o o' h h') (ne : i ≠ j) : DraO h' o' i d cs tk := by
  obtain ⟨ws, a, b1, b2⟩ := x
  exact ⟨ws, a.but k.bt fun c e => ⟨fun q => ne (by rw [q, b1] at e; exact Option.some.inj e), fun f => ne (by rw [b2 c f] at e; exact Option.some.inj e)⟩, k.own _ _ b1, fun c f => k.own _ _ (b2 c f)⟩
theorem DraO.keep (x : DraO h o i d cs tk) (k : Keeps h h') : DraO h' o i d cs tk := by
  obtain ⟨ws, a, b⟩ := x; exact ⟨ws, a.keep k, b⟩
theorem CatO.keep (x : CatO h o i p es) (k : Keeps h h') : CatO h' o i p es := x.oc (OC.keeps (i := i + 1) k) (by omega)
theorem QuoO.keep (x : QuoO h o i q each all l) (k : Keeps h h') : QuoO h' o i q each all l := x.oc (OC.keeps (i := i + 1) k) (by omega)
theorem OC.one {b : Nat} (ow : Owns o h) (k : But (· = b) h h') (dm : ∀ z, h' z = none → h z = none) (e : o b = some i) : OC i o o h h' ∧ Owns o h' :=
  ⟨⟨fun c x hc n => k c x hc fun q => n (by (have q : c = b := q); rw [q, e]), fun _ _ q => q, fun _ q => .inl q, dm⟩, fun c q z => ow c q (dm c z)⟩
theorem o_taken (x : DraO h o i d cs tk) {K : Int → H → Prop} (y : K (tk : Int) h) : m_draws_Draws_Taken (some ⟨d, 0, none⟩) K h := by
  obtain ⟨_, a, _⟩ := x; exact t_DTaken a y
theorem o_draw (x : DraO h o i d cs tk) (ow : Owns o h) {K : S_api_Word × Int → H → Prop} (y0 : cs[tk]? = none → K (⟨0, 0⟩, 11) h) (y1 : ∀ c, cs[tk]? = some c → ∀ h', DraO h' o i d cs (tk + 1) → OC i o o h h' → Owns o h' → K (c, 0) h') : m_draws_Draws_Draw (some ⟨d, 0, none⟩) K h := by
  obtain ⟨ws, a, b1, b2⟩ := x
  refine t_DDraw a y0 fun c hc h' a' k dm => ?_
  obtain ⟨k1, k2⟩ := OC.one ow k dm b1
  exact y1 c hc h' ⟨ws, a', b1, b2⟩ k1 k2
theorem o_issue (x : DraO h o i d cs tk) (ow : Owns o h) (ct : CatO h o j p es) (ne : i ≠ j) {b : Int} {K : S_api_Word × Int → H → Prop}
    (y : ∀ h', DraO h' o i d cs (issueO (fun c => (findE es ⟨b, c⟩).isSome) cs tk 9).2 → OC i o o h h' → Owns o h' → K (issueO (fun c => (findE es ⟨b, c⟩).isSome) cs tk 9).1 h') : m_issue_Of (some ⟨d, 0, none⟩) (some ⟨p, 0, none⟩) b K h := by
  obtain ⟨ws, a, b1, b2⟩ := x
  obtain ⟨knob, G, ca, cb⟩ := ct
  refine t_issueOf a ca (fun g => ne (by have := cb _ g; rw [b1] at this; exact Option.some.inj this)) fun h' a' k dm => ?_
  obtain ⟨k1, k2⟩ := OC.one ow k dm b1
  exact y h' ⟨ws, a', b1, b2⟩ k1 k2
theorem o_in (x : CatO h o i p es) {n : Int} {K : Int → H → Prop} (y : K (cnt es n : Nat) h) : m_catalogue_Catalogue_In (some ⟨p, 0, none⟩) n K h := by
  obtain ⟨_, _, a, _⟩ := x; exact t_CIn a y
theorem o_qmay (x : QuoO h o i q each all l) {n : Int} {K : Int → H → Prop} (y : ∀ h', Keeps h h' → K (mayOf each all l n) h') : m_quota_Quota_May (some ⟨q, 0, none⟩) n K h := by
  obtain ⟨_, a, _⟩ := x; exact t_QMay a y
end
noncomputable def rootD (each all : Int) (cs : List S_api_Word) (tk : Nat) (es : List En) (l : List (Int × Int)) (b : Int) : (S_api_Cap × Int) × Nat × List En × List (Int × Int) :=
  if 0 < cnt es b then ((cap0, 19), tk, es, l)
  else if mayOf each all l b = 0 then
    match cs[tk]? with
    | none => ((cap0, 11), tk, es, l)
    | some c => if (rootOut es ⟨b, c⟩ 31).1.2 = 0 then ((⟨b, c⟩, 0), tk + 1, (rootOut es ⟨b, c⟩ 31).2, addL each all l b)
      else ((cap0, (rootOut es ⟨b, c⟩ 31).1.2), tk + 1, (rootOut es ⟨b, c⟩ 31).2, l)
  else ((cap0, mayOf each all l b), tk, es, l)
noncomputable def childD (each all : Int) (cs : List S_api_Word) (tk : Nat) (es : List En) (l : List (Int × Int)) (c : S_api_Cap) (r : Int) : (S_api_Cap × Int) × Nat × List En × List (Int × Int) :=
  match findE es c with
  | none => ((cap0, 3), tk, es, l)
  | some n =>
    if (!partOf 4 (atOut es n).1.Rights || !partOf r (atOut es n).1.Rights) = true then ((cap0, 4), tk, es, l)
    else if mayOf each all l c.Obj = 0 then
      if (issueO (fun v => (findE es ⟨c.Obj, v⟩).isSome) cs tk 9).1.2 = 0 then
        if (childOut es n ⟨c.Obj, (issueO (fun v => (findE es ⟨c.Obj, v⟩).isSome) cs tk 9).1.1⟩ r).1.2 = 0 then
          ((⟨c.Obj, (issueO (fun v => (findE es ⟨c.Obj, v⟩).isSome) cs tk 9).1.1⟩, 0), (issueO (fun v => (findE es ⟨c.Obj, v⟩).isSome) cs tk 9).2, (childOut es n ⟨c.Obj, (issueO (fun v => (findE es ⟨c.Obj, v⟩).isSome) cs tk 9).1.1⟩ r).2, addL each all l c.Obj)
        else ((cap0, (childOut es n ⟨c.Obj, (issueO (fun v => (findE es ⟨c.Obj, v⟩).isSome) cs tk 9).1.1⟩ r).1.2), (issueO (fun v => (findE es ⟨c.Obj, v⟩).isSome) cs tk 9).2, (childOut es n ⟨c.Obj, (issueO (fun v => (findE es ⟨c.Obj, v⟩).isSome) cs tk 9).1.1⟩ r).2, l)
      else ((cap0, (issueO (fun v => (findE es ⟨c.Obj, v⟩).isSome) cs tk 9).1.2), (issueO (fun v => (findE es ⟨c.Obj, v⟩).isSome) cs tk 9).2, es, l)
    else ((cap0, mayOf each all l c.Obj), tk, es, l)
structure OS (S : Nat → Prop) (o o' : Owner) (h h' : H) : Prop where
  but : ∀ c x, h c = some x → (∀ i, o c = some i → ¬ S i) → h' c = some x
  own : ∀ c t, o c = some t → o' c = some t
  new : ∀ c, o' c ≠ none → o c ≠ none ∨ h c = none
  dom : ∀ c, h' c = none → h c = none
section
variable {S : Nat → Prop} {i : Nat} {o o' o'' : Owner} {h h' h'' : H}
theorem OC.os (k : OC i o o' h h') (hi : S i) : OS S o o' h h' := ⟨fun c x e n => k.but c x e fun q => n i q hi, k.own, k.new, k.dom⟩
theorem OS.keeps (k : Keeps h h') : OS S o o h h' := ⟨fun c x e _ => k c x e, fun _ _ e => e, fun _ e => .inl e, fun _ e => k.fresh e⟩
theorem OS.trans (x : OS S o o' h h') (y : OS S o' o'' h' h'') : OS S o o'' h h'' := by
  refine ⟨fun c z e n => ?_, fun c t e => y.own c t (x.own c t e), fun c e => ?_, fun c e => x.dom c (y.dom c e)⟩
  · have h1 := x.but c z e n
    refine y.but c z h1 fun i hi => ?_
    cases q : o c with
    | none => exact ((x.new c (by rw [hi]; simp)).elim (fun z => (z q).elim) fun z => by rw [z] at e; cases e)
    | some t => rw [x.own c t q] at hi; cases hi; exact n _ q
  · rcases y.new c e with q | q
    · exact x.new c q
    · exact .inr (x.dom c q)
theorem OS.bt (k : OS S o o' h h') : But (fun c => ∃ i, o c = some i ∧ S i) h h' := fun c x e n => k.but c x e fun i hi hs => n ⟨i, hi, hs⟩
theorem OS.gone (k : OS S o o' h h') {c : Nat} (e : o c = none) (hc : h c ≠ none) : o' c = none := by
  cases q : o' c with
  | none => rfl
  | some t => exact (k.new c (by rw [q]; simp)).elim (fun z => absurd e z) fun z => absurd z hc
theorem OS.free (k : OS S o o' h h') {c : Nat} {x : Obj} (e : o c = none) (hc : h c = some x) : h' c = some x := k.but c x hc fun i q => by rw [e] at q; cases q
end
structure SetO (h : H) (o : Owner) (d p q : Nat) (cs : List S_api_Word) (each all : Int) (tk : Nat) (es : List En) (l : List (Int × Int)) : Prop where
  dr : DraO h o 1 d cs tk
  ct : CatO h o 2 p es
  qu : QuoO h o 3 q each all l
  er : ErrAt h
  eo : o errG = none
  ow : Owns o h
  hi : all ≤ 256
section
variable {h h' : H} {o o' : Owner} {d p q : Nat} {cs : List S_api_Word} {each all : Int} {tk tk' : Nat} {es es' : List En} {l l' : List (Int × Int)}
theorem SetO.keep (x : SetO h o d p q cs each all tk es l) (k : Keeps h h') : SetO h' o d p q cs each all tk es l := ⟨x.dr.keep k, x.ct.keep k, x.qu.keep k, x.er.keep k, x.eo, x.ow.keep k, x.hi⟩
theorem ErrAt.os {S : Nat → Prop} (e : ErrAt h) (k : OS S o o' h h') (eo : o errG = none) : ErrAt h' := At.but e k.bt fun ⟨_, q, _⟩ => by rw [show o errG = some _ from q] at eo; cases eo
theorem ErrAt.has (e : ErrAt h) : h errG ≠ none := by obtain ⟨x, hx⟩ := e.ex; have : h errG = some x := hx; rw [this]; simp
theorem SetO.draw (x : SetO h o d p q cs each all tk es l) (y : DraO h' o 1 d cs tk') (k : OC 1 o o h h') (ow : Owns o h') : SetO h' o d p q cs each all tk' es l :=
  ⟨y, x.ct.oc k (by decide), x.qu.oc k (by decide), x.er.os (k.os (S := fun _ => True) trivial) x.eo, x.eo, ow, x.hi⟩
theorem SetO.cat (x : SetO h o d p q cs each all tk es l) (y : CatO h' o' 2 p es') (k : OC 2 o o' h h') (ow : Owns o' h') : SetO h' o' d p q cs each all tk es' l :=
  ⟨x.dr.oc k (by decide), y, x.qu.oc k (by decide), x.er.os (k.os (S := fun _ => True) trivial) x.eo, (k.os (S := fun _ => True) trivial).gone x.eo x.er.has, ow, x.hi⟩
theorem SetO.quo (x : SetO h o d p q cs each all tk es l) (y : QuoO h' o 3 q each all l') (k : OC 3 o o h h') (ow : Owns o h') : SetO h' o d p q cs each all tk es l' :=
  ⟨x.dr.oc k (by decide), x.ct.oc k (by decide), y, x.er.os (k.os (S := fun _ => True) trivial) x.eo, x.eo, ow, x.hi⟩
theorem SetO.no (x : SetO h o d p q cs each all tk es l) {s : ByteArray} {e : Int} (ne : e ≠ 0) {c : S_api_Cap} {K : S_api_Cap × Int → H → Prop} (y : ∀ h', SetO h' o d p q cs each all tk es l → OS (· ≤ 3) o o h h' → K (cap0, e) h') :
    m_derive_ask s e (fun v => m_derive_told c v K) h :=
  w_ask (fun q => absurd q ne) fun _ _ _ a1 k1 => w_told1 (x.er.keep k1) a1 ne fun h2 k2 => y h2 (x.keep (k1.trans k2)) (OS.keeps (k1.trans k2))
theorem SetO.some (x : SetO h o d p q cs each all tk es l) {v : PV} {e : Int} (a : asks h e v.1) (ne : e ≠ 0) {c : S_api_Cap} {K : S_api_Cap × Int → H → Prop} {B : H → Prop} (y : ∀ h', SetO h' o d p q cs each all tk es l → OS (· ≤ 3) o o h h' → K (cap0, e) h') :
    mIsNil v.1 (fun b => mIf (!b) (m_derive_told c v K) B) h :=
  w_isNil1 a ne (w_ifT rfl (w_told1 x.er a ne fun h2 k2 => y h2 (x.keep k2) (OS.keeps k2)))
theorem t_dRoot (x : SetO h o d p q cs each all tk es l) {b : Int} {K : S_api_Cap × Int → H → Prop}
    (y : ∀ o' h', SetO h' o' d p q cs each all (rootD each all cs tk es l b).2.1 (rootD each all cs tk es l b).2.2.1 (rootD each all cs tk es l b).2.2.2 → OS (· ≤ 3) o o' h h' → K (rootD each all cs tk es l b).1 h') :
    m_derive_Root (some ⟨d, 0, none⟩) (some ⟨p, 0, none⟩) (some ⟨q, 0, none⟩) b K h := by
  unfold m_derive_Root m_derive_root
  refine o_in x.ct (w_if' (fun c => ?_) fun c => ?_)
  · have e : rootD each all cs tk es l b = ((cap0, 19), tk, es, l) := by unfold rootD; rw [if_pos (by omega)]
    rw [e] at y
    exact x.no (by decide) fun h' x' k' => y o h' x' k'
  · refine o_qmay x.qu fun h1 k1 => ?_
    have x1 := x.keep k1
    refine w_ask (fun e v hv => ?_) fun e v h2 a2 k2 => ?_
    · refine w_isNil0 hv (w_ifF rfl (o_draw x1.dr x1.ow (fun hno => ?_) fun c' hc h2 dr2 k2 ow2 => ?_))
      · have e : rootD each all cs tk es l b = ((cap0, 11), tk, es, l) := by unfold rootD; rw [if_neg (by omega), if_pos e, hno]
        rw [e] at y
        refine w_ask (fun q => by cases q) fun ne v h2 a2 k2 => (x1.keep k2).some a2 ne fun h3 x3 k3 => y o h3 x3 ((OS.keeps (k1.trans k2)).trans k3)
      · have x2 := x1.draw dr2 k2 ow2
        refine w_ask (fun _ v hv => w_isNil0 hv (w_ifF rfl ?_)) fun ne => absurd rfl ne
        refine o_root x2.ct x2.ow fun o3 h3 ct3 k3 ow3 => ?_
        have x3 := x2.cat ct3 k3 ow3
        have kk : OS (· ≤ 3) o o3 h h3 := ((OS.keeps k1).trans (k2.os (by decide))).trans (k3.os (by decide))
        by_cases e3 : (rootOut es ⟨b, c'⟩ 31).1.2 = 0
        · have e' : rootD each all cs tk es l b = ((⟨b, c'⟩, 0), tk + 1, (rootOut es ⟨b, c'⟩ 31).2, addL each all l b) := by unfold rootD; rw [if_neg (by omega), if_pos e, hc]; simp only []; rw [if_pos e3]
          rw [e'] at y
          refine w_ifF (congrArg Bool.not (decide_eq_true e3)) (o_qadd x3.qu x3.ow x3.hi fun h4 qu4 k4 ow4 => ?_)
          have x4 := x3.quo qu4 k4 ow4
          exact w_ask (fun _ v hv => w_told0 hv fun h5 k5 => y o3 h5 (x4.keep k5) ((kk.trans (k4.os (by decide))).trans (OS.keeps k5))) fun ne => absurd e ne
        · have e' : rootD each all cs tk es l b = ((cap0, (rootOut es ⟨b, c'⟩ 31).1.2), tk + 1, (rootOut es ⟨b, c'⟩ 31).2, l) := by unfold rootD; rw [if_neg (by omega), if_pos e, hc]; simp only []; rw [if_neg e3]
          rw [e'] at y
          refine w_ifT (congrArg Bool.not (decide_eq_false e3)) ?_
          exact x3.no e3 fun h4 x4 k4 => y o3 h4 x4 (kk.trans k4)
    · have e' : rootD each all cs tk es l b = ((cap0, mayOf each all l b), tk, es, l) := by unfold rootD; rw [if_neg (by omega), if_neg e]
      rw [e'] at y
      exact (x1.keep k2).some a2 e fun h3 x3 k3 => y o h3 x3 ((OS.keeps (k1.trans k2)).trans k3)
theorem t_dChild (x : SetO h o d p q cs each all tk es l) {c : S_api_Cap} {r : Int} {K : S_api_Cap × Int → H → Prop}
    (y : ∀ o' h', SetO h' o' d p q cs each all (childD each all cs tk es l c r).2.1 (childD each all cs tk es l c r).2.2.1 (childD each all cs tk es l c r).2.2.2 → OS (· ≤ 3) o o' h h' → K (childD each all cs tk es l c r).1 h') :
    m_derive_Child (some ⟨d, 0, none⟩) (some ⟨p, 0, none⟩) (some ⟨q, 0, none⟩) c r K h := by
  unfold m_derive_Child m_derive_child
  refine o_find x.ct ?_
  cases hf : findE es c with
  | none =>
    have e : childD each all cs tk es l c r = ((cap0, 3), tk, es, l) := by unfold childD; rw [hf]
    rw [e] at y
    exact w_ifT rfl (x.no (by decide) fun h' x' k' => y o h' x' k')
  | some n =>
    refine w_ifF rfl (o_at x.ct ?_)
    show mPure (m_mask_Has (atOut es n).1.Rights 4) _ h
    refine w_pure (partOf 4 (atOut es n).1.Rights) (fun _ _ z => by unfold m_mask_Has; exact w_Part z) ?_
    refine w_joinV (!partOf 4 (atOut es n).1.Rights || !partOf r (atOut es n).1.Rights) (fun j hj => ?_) ?_
    · refine w_if (fun c1 => ?_) fun c1 => w_Part ?_
      · rw [c1] at hj; exact hj
      · rw [c1] at hj; exact hj
    · refine w_if (fun c1 => ?_) fun c1 => ?_
      · have e : childD each all cs tk es l c r = ((cap0, 4), tk, es, l) := by unfold childD; rw [hf]; simp only []; rw [if_pos c1]
        rw [e] at y
        exact x.no (by decide) fun h' x' k' => y o h' x' k'
      · refine o_qmay x.qu fun h1 k1 => ?_
        have x1 := x.keep k1
        have c2 : ¬ (!partOf 4 (atOut es n).1.Rights || !partOf r (atOut es n).1.Rights) = true := by rw [c1]; decide
        refine w_ask (fun e v hv => ?_) fun e v h2 a2 k2 => ?_
        · refine w_isNil0 hv (w_ifF rfl (o_issue x1.dr x1.ow x1.ct (by decide) fun h2 dr2 k2 ow2 => ?_))
          have x2 := x1.draw dr2 k2 ow2
          have kk2 : OS (· ≤ 3) o o h h2 := (OS.keeps k1).trans (k2.os (by decide))
          by_cases e2 : (issueO (fun v => (findE es ⟨c.Obj, v⟩).isSome) cs tk 9).1.2 = 0
          · refine w_ask (fun _ v hv => w_isNil0 hv (w_ifF rfl ?_)) fun ne => absurd e2 ne
            refine o_child x2.ct x2.ow fun o3 h3 ct3 k3 ow3 => ?_
            have x3 := x2.cat ct3 k3 ow3
            have kk : OS (· ≤ 3) o o3 h h3 := kk2.trans (k3.os (by decide))
            by_cases e3 : (childOut es n ⟨c.Obj, (issueO (fun v => (findE es ⟨c.Obj, v⟩).isSome) cs tk 9).1.1⟩ r).1.2 = 0
            · have e' : childD each all cs tk es l c r = ((⟨c.Obj, (issueO (fun v => (findE es ⟨c.Obj, v⟩).isSome) cs tk 9).1.1⟩, 0), (issueO (fun v => (findE es ⟨c.Obj, v⟩).isSome) cs tk 9).2, (childOut es n ⟨c.Obj, (issueO (fun v => (findE es ⟨c.Obj, v⟩).isSome) cs tk 9).1.1⟩ r).2, addL each all l c.Obj) := by
                unfold childD; rw [hf]; simp only []; rw [if_neg c2, if_pos e, if_pos e2, if_pos e3]
              rw [e'] at y
              refine w_ifF (congrArg Bool.not (decide_eq_true e3)) (o_qadd x3.qu x3.ow x3.hi fun h4 qu4 k4 ow4 => ?_)
              have x4 := x3.quo qu4 k4 ow4
              exact w_ask (fun _ v hv => w_told0 hv fun h5 k5 => y o3 h5 (x4.keep k5) ((kk.trans (k4.os (by decide))).trans (OS.keeps k5))) fun ne => absurd e ne
            · have e' : childD each all cs tk es l c r = ((cap0, (childOut es n ⟨c.Obj, (issueO (fun v => (findE es ⟨c.Obj, v⟩).isSome) cs tk 9).1.1⟩ r).1.2), (issueO (fun v => (findE es ⟨c.Obj, v⟩).isSome) cs tk 9).2, (childOut es n ⟨c.Obj, (issueO (fun v => (findE es ⟨c.Obj, v⟩).isSome) cs tk 9).1.1⟩ r).2, l) := by
                unfold childD; rw [hf]; simp only []; rw [if_neg c2, if_pos e, if_pos e2, if_neg e3]
              rw [e'] at y
              refine w_ifT (congrArg Bool.not (decide_eq_false e3)) ?_
              exact x3.no e3 fun h4 x4 k4 => y o3 h4 x4 (kk.trans k4)
          · have e' : childD each all cs tk es l c r = ((cap0, (issueO (fun v => (findE es ⟨c.Obj, v⟩).isSome) cs tk 9).1.2), (issueO (fun v => (findE es ⟨c.Obj, v⟩).isSome) cs tk 9).2, es, l) := by
              unfold childD; rw [hf]; simp only []; rw [if_neg c2, if_pos e, if_neg e2]
            rw [e'] at y
            exact w_ask (fun q => absurd q e2) fun ne v h3 a3 k3 => (x2.keep k3).some a3 ne fun h4 x4 k4 => y o h4 x4 ((kk2.trans (OS.keeps k3)).trans k4)
        · have e' : childD each all cs tk es l c r = ((cap0, mayOf each all l c.Obj), tk, es, l) := by unfold childD; rw [hf]; simp only []; rw [if_neg c2, if_neg e]
          rw [e'] at y
          exact (x1.keep k2).some a2 e fun h3 x3 k3 => y o h3 x3 ((OS.keeps (k1.trans k2)).trans k3)
end
end Go.Proofs.YtdleanjofhghnaaGreatDoor.K
namespace Go.Proofs.YtdleanjofhghnaaGreatDoor.K
open Go Go.Proofs
def m_ref03_Valid (a0 : Int) (K : (Bool) → H → Prop) : H → Prop :=
 K ((decide (1 ≤ a0)) && (decide (a0 ≤ 31)))
def x_ref03_Valid : Cx Tryz.prog := ⟨tys, [], [], [], mixed⟩
def h_ref03_Valid : Hint := (.seq .d (.seq (.reg (.run [3, 7, 11] (.sel 5 8 448 (.run [15, 19, 23] .nil) (.run [15, 19, 23] .nil) (.run [27] .nil)))) .d))
def s_ref03_Valid : Spec Tryz.prog := mkSpec x_ref03_Valid 75 Tryz.f75 [(tInt .i64)] [tBool] true h_ref03_Valid (fun a => m_ref03_Valid a) (fun a K h => by kernel_rfl) callee75 rfl
def m_ref03_has (a0 : Int) (a1 : Int) (K : (Bool) → H → Prop) : H → Prop :=
 mLoop (fun (rec2 : (Int × Int) → H → Prop) (s1 : Int × Int) =>
 mIf (decide (s1.2 < a1)) (
 rec2 ((iQuo .i64 s1.1 2), (iAdd .i64 s1.2 1))
 ) (
 K (decide ((iRem .i64 s1.1 2) = 1))
 )
 ) (a0, 0)
def x_ref03_has : Cx Tryz.prog := ⟨tys, [], [], [], mixed⟩
def h_ref03_has : Hint := (.seq .d (.seq (.seq .d (.blk (.loop [.slot 0 (tInt .i64), .slot 5 (tInt .i64)] 8161 [] .d))) .d))
def s_ref03_has : Spec Tryz.prog := mkSpec x_ref03_has 76 Tryz.f76 [(tInt .i64), (tInt .i64)] [tBool] true h_ref03_has (fun a => m_ref03_has a.1 a.2) (fun a K h => by kernel_rfl) callee76 rfl
def m_ref03_Part (a0 : Int) (a1 : Int) (K : (Bool) → H → Prop) : H → Prop :=
 mPure (m_ref03_Valid a0) fun r1 =>
 mJoin (fun (s3 : Bool) =>
 mIf s3 (
 K false
 ) (
 mLoop (fun (rec6 : Int → H → Prop) (s5 : Int) =>
 mIf (decide (s5 < 5)) (
 mPure (m_ref03_has a0 s5) fun r7 =>
 mJoin (fun (s9 : Bool) =>
 mIf s9 (
 K false
 ) (
 rec6 (iAdd .i64 s5 1)
 )
 ) (fun j10 =>
 mIf r7 (
 mPure (m_ref03_has a1 s5) fun r11 =>
 j10 (!r11)
 ) (
 j10 false
 ))
 ) (
 K true
 )
 ) 0
 )
 ) (fun j4 =>
 mIf (!r1) (
 j4 true
 ) (
 mPure (m_ref03_Valid a1) fun r12 =>
 j4 (!r12)
 ))
def x_ref03_Part : Cx Tryz.prog := ⟨tys, [s_ref03_Valid, s_ref03_has], [], [], mixed⟩
def h_ref03_Part : Hint := (.seq .d (.seq (.seq (.reg (.run [3, 7, 11, 15] (.join [.slot 13 tBool] 15360 [] (.split 9 (.run [19, 23, 27, 31] .nil) (.run [19, 23, 27, 31] .nil)) .nil))) .d) (.seq (.seq .d (.blk (.loop [.slot 5 (tInt .i64)] 134201392 [] (.seq .d (.seq (.blk (.seq (.reg (.run [3, 7, 11, 15] (.join [.slot 26 tBool] 130023424 [] (.split 21 (.run [19, 23, 27, 31, 35] .nil) (.run [19, 23, 27, 31, 35] .nil)) .nil))) .d)) .d))))) .d)))
def s_ref03_Part : Spec Tryz.prog := mkSpec x_ref03_Part 48 Tryz.f48 [(tInt .i64), (tInt .i64)] [tBool] true h_ref03_Part (fun a => m_ref03_Part a.1 a.2) (fun a K h => by kernel_rfl) callee48 rfl
def m_ref14_World_Root (a0 : S_ref14_World) (a1 : Int) (K : (S_api_Cap × Int) → H → Prop) : H → Prop :=
 m_ref11_Catalogue_In a0.C a1 fun r1 =>
 mIf (decide (0 < r1)) (
 K ((⟨0, ⟨0, 0⟩⟩ : S_api_Cap), 19)
 ) (
 m_ref12_Quota_May a0.Q a1 fun r2 =>
 mIf (!decide (r2 = 0)) (
 K ((⟨0, ⟨0, 0⟩⟩ : S_api_Cap), r2)
 ) (
 m_ref04_Draws_Draw a0.D fun r3 =>
 mIf (!decide (r3.2 = 0)) (
 K ((⟨0, ⟨0, 0⟩⟩ : S_api_Cap), r3.2)
 ) (
 m_ref11_Catalogue_Root a0.C (⟨a1, ⟨r3.1.Hi, r3.1.Lo⟩⟩ : S_api_Cap) 31 fun _ =>
 m_ref12_Quota_Add a0.Q a1 fun _ =>
 K ((⟨a1, ⟨r3.1.Hi, r3.1.Lo⟩⟩ : S_api_Cap), 0)
 )
 )
 )
def x_ref14_World_Root : Cx Tryz.prog := ⟨tys, [s_ref11_Catalogue_In, s_ref12_Quota_May, s_ref04_Draws_Draw, s_ref11_Catalogue_Root, s_ref12_Quota_Add], [2, 4, 7, 8], [], mixed⟩
def h_ref14_World_Root : Hint := .d
def s_ref14_World_Root : Spec Tryz.prog := mkSpec x_ref14_World_Root 21 Tryz.f21 [S_ref14_World.ty, (tInt .i64)] [S_api_Cap.ty, (tInt .i64)] false h_ref14_World_Root (fun a => m_ref14_World_Root a.1 a.2) (fun a K h => by kernel_rfl) callee21 rfl
def m_ref14_World_Child (a0 : S_ref14_World) (a1 : S_api_Cap) (a2 : Int) (K : (S_api_Cap × Int) → H → Prop) : H → Prop :=
 m_ref11_Catalogue_Find a0.C a1 fun r1 =>
 mIf (!r1.2) (
 K ((⟨0, ⟨0, 0⟩⟩ : S_api_Cap), 3)
 ) (
 m_ref11_Catalogue_At a0.C r1.1 fun r2 =>
 mPure (m_ref03_Part 4 r2.1.Rights) fun r3 =>
 mJoin (fun (s5 : Bool) =>
 mIf s5 (
 K ((⟨0, ⟨0, 0⟩⟩ : S_api_Cap), 4)
 ) (
 m_ref12_Quota_May a0.Q a1.Obj fun r7 =>
 mIf (!decide (r7 = 0)) (
 K ((⟨0, ⟨0, 0⟩⟩ : S_api_Cap), r7)
 ) (
 m_ref13_Of a0.D a0.C a1.Obj fun r8 =>
 mIf (!decide (r8.2 = 0)) (
 K ((⟨0, ⟨0, 0⟩⟩ : S_api_Cap), r8.2)
 ) (
 m_ref11_Catalogue_Child a0.C r1.1 (⟨a1.Obj, ⟨r8.1.Hi, r8.1.Lo⟩⟩ : S_api_Cap) a2 fun _ =>
 m_ref12_Quota_Add a0.Q a1.Obj fun _ =>
 K ((⟨a1.Obj, ⟨r8.1.Hi, r8.1.Lo⟩⟩ : S_api_Cap), 0)
 )
 )
 )
 ) (fun j6 =>
 mIf (!r3) (
 j6 true
 ) (
 mPure (m_ref03_Part a2 r2.1.Rights) fun r11 =>
 j6 (!r11)
 ))
 )
def x_ref14_World_Child : Cx Tryz.prog := ⟨tys, [s_ref11_Catalogue_Find, s_ref12_Quota_May, s_ref12_Quota_Add, s_ref11_Catalogue_At, s_ref03_Part, s_ref13_Of, s_ref11_Catalogue_Child], [3, 4, 6, 10, 13, 14], [], mixed⟩
def h_ref14_World_Child : Hint := (.seq .d (.seq .d (.seq .d (.seq .d (.seq (.seq (.reg (.run [3, 7, 11, 15, 19] (.join [.slot 42 tBool] 8658654068736 [] (.split 36 (.run [23, 27, 31, 35, 39, 43] .nil) (.run [23, 27, 31, 35, 39, 43] .nil)) .nil))) .d) .d)))))
def s_ref14_World_Child : Spec Tryz.prog := mkSpec x_ref14_World_Child 22 Tryz.f22 [S_ref14_World.ty, S_api_Cap.ty, (tInt .i64)] [S_api_Cap.ty, (tInt .i64)] false h_ref14_World_Child (fun a => m_ref14_World_Child a.1 a.2.1 a.2.2) (fun a K h => by kernel_rfl) callee22 rfl
end Go.Proofs.YtdleanjofhghnaaGreatDoor.K
