/- The book hears a create, an add, a spawn; a program that does nothing falls. -/
import Derived.Test.YtnmaknkbdfpbkaaBk3
import Derived.Test.YtnmaknkbdfpbkaaFlaw24
import Derived.Test.YtnmaknkbdfpbkaaU1
namespace Go.Proofs.Ytnmaknkbdfpbkaa.K
open Go
theorem nxt64 (j : Nat) (q : j < 2 ^ 62) : iAdd .i64 (j : Int) 1 = ((j + 1 : Nat) : Int) := by
  rw [iAdd_eq (by omega) (by omega)]; omega
theorem int_len : ∀ x : Int, (cInt .i64 x).length = 1 := fun _ => rfl
section
variable {h h1 h2 : H} {o : Own} {p : Nat} {S : BookS} {m : BM} {L : BL}
def BookS.step (S : BookS) : BookS := { S with steps := iAdd .i64 S.steps 1 }
/-- No way and no list is longer. -/
def Small (k : Nat) (S : BookS) : Prop := (∀ w l, alook S.ways w = some l → l.length ≤ k) ∧ ∀ q l, alook S.known q = some l → l.length ≤ k
theorem Small.way {k : Nat} (x : Small k S) (w : S_book_whom) : ((alook S.ways w).getD []).length ≤ k := by
  cases e : alook S.ways w with
  | none => exact Nat.zero_le _
  | some l => exact x.1 w l e
theorem Small.knows {k : Nat} (x : Small k S) (q : Int) : ((alook S.known q).getD []).length ≤ k := by
  cases e : alook S.known q with
  | none => exact Nat.zero_le _
  | some l => exact x.2 q l e
theorem Small.mono {k k' : Nat} (x : Small k S) (e : k ≤ k') : Small k' S := ⟨fun w l q => Nat.le_trans (x.1 w l q) e, fun w l q => Nat.le_trans (x.2 w l q) e⟩
theorem Small.tell {k : Nat} (x : Small k S) {wl : List S_book_Link} {l : S_book_Link} (hw : wl.length ≤ k) : Small (k + 1) (S.tell wl l) := by
  unfold BookS.tell
  split
  · exact x.mono (Nat.le_succ k)
  · refine ⟨fun w l' e => ?_, fun q l' e => ?_⟩
    · have e : alook (aset S.ways _ _) w = some l' := e
      rw [alook_set] at e
      split at e
      · cases e; simp; exact hw
      · exact Nat.le_trans (x.1 _ _ e) (Nat.le_succ k)
    · have e : alook (aset S.known _ _) q = some l' := e
      rw [alook_set] at e
      split at e
      · cases e; have := x.knows l.To; simp; omega
      · exact Nat.le_trans (x.2 _ _ e) (Nat.le_succ k)
/-- A create is heard. -/
theorem t_NoteCreate (x : BookAt h o p S m L) {a1 : S_api_Call} {a2 : S_api_Reply} (hop : a1.Op = 1) (hc : a2.Code = 0) (room : ((alook S.known a1.By).getD []).length ≤ 2 ^ 40) {K : Unit → H → Prop}
    (y : ∀ h' o' L', BookAt h' o' p (BookS.tell { S.step with live := aset S.live a2.Cap ⟨31, ⟨0, ⟨0, 0⟩⟩, true⟩ } [] ⟨0, 1, a1.By, a1.By, a2.Cap⟩) m L' → Moved (· ≠ .scratch) o o' h h' → K () h') : m_book_Book_Note (some ⟨p, 0, none⟩) a1 a2 K h := by
  unfold m_book_Book_Note
  refine w_deref (w_load x.f0 (w_deref (w_store (l1 := []) (l2 := cInt .i64 S.steps) (l3 := (S_book_Book.cells (m.book S.steps)).drop 1) rfl x.cell rfl rfl ?_)))
  obtain ⟨x1, mv1⟩ := x.setSteps (iAdd .i64 S.steps 1)
  refine w_ifF (by rw [hc]; rfl) (w_ifT (by rw [hop]; rfl) ?_)
  refine w_deref (w_load x1.f1 (w_mapSet key_cap x1.live rfl rfl fun h2 mp2 b2 d2 => ?_))
  obtain ⟨x2, mv2⟩ := x1.setLive b2 d2 mp2
  refine t_tell x2 (wl := []) ⟨rfl, Nat.le_refl _, fun e => absurd rfl e⟩ (by simp) room fun h3 o3 L3 x3 mv3 => ?_
  exact y h3 o3 L3 x3 (((mv1.trans mv2).trans mv3).mono fun t ht => by
    rcases ht with (rfl | rfl) | e
    · nofun
    · nofun
    · exact e)
/-- An add is heard. -/
theorem t_NoteAdd (x : BookAt h o p S m L) {a1 : S_api_Call} {a2 : S_api_Reply} (hop : a1.Op = 7) (hc : a2.Code = 0) (room : ((alook S.lists a1.By).getD []).length ≤ 2 ^ 40) {K : Unit → H → Prop}
    (y : ∀ h' o' L', BookAt h' o' p { S.step with lists := aset S.lists a1.By ((alook S.lists a1.By).getD [] ++ [a1.Cap]) } m L' → Moved (· ≠ .scratch) o o' h h' → K () h') : m_book_Book_Note (some ⟨p, 0, none⟩) a1 a2 K h := by
  unfold m_book_Book_Note
  refine w_deref (w_load x.f0 (w_deref (w_store (l1 := []) (l2 := cInt .i64 S.steps) (l3 := (S_book_Book.cells (m.book S.steps)).drop 1) rfl x.cell rfl rfl ?_)))
  obtain ⟨x1, mv1⟩ := x.setSteps (iAdd .i64 S.steps 1)
  refine w_ifF (by rw [hc]; rfl) (w_ifF (by rw [hop]; rfl) (w_ifF (by rw [hop]; rfl) (w_ifF (by rw [hop]; rfl) (w_ifF (by rw [hop]; rfl) (w_ifF (by rw [hop]; rfl) (w_ifF (by rw [hop]; rfl) (w_ifT (by rw [hop]; rfl) ?_)))))))
  replace x1 : BookAt (upd h p (.cells ([] ++ [Value.int .i64 (iAdd .i64 S.steps 1)] ++ (S_book_Book.cells (m.book S.steps)).drop 1).toArray N_book_Book (0, 0))) o p S.step m L := x1
  replace mv1 : Moved (· = .cell) o o h (upd h p (.cells ([] ++ [Value.int .i64 (iAdd .i64 S.steps 1)] ++ (S_book_Book.cells (m.book S.steps)).drop 1).toArray N_book_Book (0, 0))) := mv1
  generalize upd h p (.cells ([] ++ [Value.int .i64 (iAdd .i64 S.steps 1)] ++ (S_book_Book.cells (m.book S.steps)).drop 1).toArray N_book_Book (0, 0)) = g at x1 mv1 ⊢
  refine w_deref (w_deref (w_load x1.f2 (w_lookup (key_int (by kernel_rfl)) x1.lists ?_)))
  have st : Still S_api_Cap.cells g o ((alook L.lists a1.By).getD Sl.nil) ((alook S.lists a1.By).getD []) := x1.list a1.By
  have ld : ∀ {h1 : H}, Keeps g h1 → ∀ {K : Option Nat → H → Prop}, K (some m.lists) h1 → mLoad cMap ((⟨p, 0, none⟩ : Addr).add 2) K h1 := fun k _ r => w_load (x1.f2.keep k) r
  have clone : ∀ {h1 : H}, Keeps g h1 → ∀ {K : Sl → H → Prop}, (∀ s1 h2, Buf S_api_Cap.cells 3 N_api_Cap h2 s1 ((alook S.lists a1.By).getD []) → Keeps g h2 → (∀ c, s1.foot c → g c = none) → K s1 h2) → m_slices_Clone_api_Cap_api_Cap ((alook L.lists a1.By).getD Sl.nil) K h1 := fun k _ r => by
    unfold m_slices_Clone_api_Cap_api_Cap
    exact w_clone cap_len cap_plain rfl (st.arr.keep k) (by omega) fun s1 h2 bu k2 f => r s1 h2 bu (k.trans k2) fun c hc => k.fresh (f c hc)
  have app : ∀ {h1 : H} {s1 : Sl}, Buf S_api_Cap.cells 3 N_api_Cap h1 s1 ((alook S.lists a1.By).getD []) → Keeps g h1 → (∀ c, s1.foot c → g c = none) → ∀ {K : Sl → H → Prop}, (∀ s2 h2, Buf S_api_Cap.cells 3 N_api_Cap h2 s2 ((alook S.lists a1.By).getD [] ++ [a1.Cap]) → Keeps g h2 → (∀ c, s2.foot c → g c = none) → K s2 h2) → mApp N_api_Cap 3 24 #[(Value.int .i64 0), (Value.int .u64 0), (Value.int .u64 0)] 1 (S_api_Cap.cells a1.Cap) s1 K h1 := fun bu k f _ r =>
    w_app cap_len rfl bu [a1.Cap] (by simp [flat]) rfl (.inl (by simp only [List.length_singleton]; omega)) fun s2 h2 bu2 b2 f2 d2 => r s2 h2 bu2 (k.but b2 f) fun c hc => (f2 c hc).elim (f c) fun q => k.fresh q
  refine w_joinP (fun z h1 => z.1 = some m.lists ∧ Buf S_api_Cap.cells 3 N_api_Cap h1 z.2 ((alook S.lists a1.By).getD [] ++ [a1.Cap]) ∧ Keeps g h1 ∧ ∀ c, z.2.foot c → g c = none) (fun j hj => ?_) ?_
  · have J : ∀ {h1 : H} {s1 : Sl}, Buf S_api_Cap.cells 3 N_api_Cap h1 s1 ((alook S.lists a1.By).getD [] ++ [a1.Cap]) → Keeps g h1 → (∀ c, s1.foot c → g c = none) → j (some m.lists, s1) h1 := fun a b c => hj _ _ ⟨rfl, a, b, c⟩
    refine w_both (ld (.refl g) (w_both (clone (.refl g) fun s1 h1 b1 k1 f1 => app b1 k1 f1 fun s2 h2 b2 k2 f2 => J b2 k2 f2) (clone (.refl g) fun s1 h1 b1 k1 f1 => app b1 k1 f1 fun s2 h2 b2 k2 f2 => J b2 k2 f2))) (w_both (clone (.refl g) fun s1 h1 b1 k1 f1 => w_both (ld k1 (app b1 k1 f1 fun s2 h2 b2 k2 f2 => J b2 k2 f2)) (app b1 k1 f1 fun s2 h2 b2 k2 f2 => ld k2 (J b2 k2 f2))) (w_both (ld (.refl g) (clone (.refl g) fun s1 h1 b1 k1 f1 => app b1 k1 f1 fun s2 h2 b2 k2 f2 => J b2 k2 f2)) (clone (.refl g) fun s1 h1 b1 k1 f1 => w_both (ld k1 (app b1 k1 f1 fun s2 h2 b2 k2 f2 => J b2 k2 f2)) (app b1 k1 f1 fun s2 h2 b2 k2 f2 => ld k2 (J b2 k2 f2)))))
  rintro ⟨z1, z2⟩ h1 ⟨rfl, bu, k1, f1⟩
  have m1 : Moved (fun _ => False) o (tagged o z2 none) g h1 := Moved.tag (Moved.keeps k1) fun c f => .inl (f1 c f)
  have x2 := x1.moved m1 fun _ q => q.elim
  refine w_mapSet (key_int (by kernel_rfl)) x2.lists rfl rfl fun h2 mp b2 d2 => ?_
  obtain ⟨x3, mv3⟩ := x2.setLists bu.still b2 d2 mp
  exact y h2 _ _ x3 (((mv1.trans m1).trans mv3).mono fun t ht => by
    rcases ht with (rfl | e) | rfl
    · nofun
    · exact e.elim
    · nofun)
/-- What a gift does. -/
def giftS (mine : List S_api_Cap) (by_ n : Int) (st : List S_api_Cap × BookS) (g : Int) : List S_api_Cap × BookS :=
  match if g < 0 then none else mine[g.toNat]? with
  | none => st
  | some c => (st.1 ++ [c], match alook st.2.ways ⟨by_, c⟩ with
    | none => st.2
    | some w => st.2.tell w ⟨0, 4, by_, n, c⟩)
def BookS.spawned (S : BookS) (by_ n : Int) (gl : List Int) : BookS :=
  let r := gl.foldl (giftS ((alook S.lists by_).getD []) by_ n) ([], S)
  { r.2 with lists := aset r.2.lists n r.1 }
theorem gifts_small {mine : List S_api_Cap} {by_ n : Int} {k : Nat} : ∀ (gl : List Int) (st : List S_api_Cap × BookS) (j : Nat), Small (k + j) st.2 → st.1.length ≤ j → Small (k + (j + gl.length)) (gl.foldl (giftS mine by_ n) st).2 ∧ (gl.foldl (giftS mine by_ n) st).1.length ≤ j + gl.length := by
  intro gl
  induction gl with
  | nil => intro st j a b; exact ⟨a, b⟩
  | cons g r ih =>
    intro st j a b
    rw [List.foldl_cons, List.length_cons]
    have := ih (giftS mine by_ n st g) (j + 1) (by
      unfold giftS
      split
      · exact a.mono (by omega)
      · show Small (k + (j + 1)) (match alook st.2.ways _ with | none => st.2 | some w => _)
        split
        · exact a.mono (by omega)
        · rename_i w e
          exact (a.tell (a.1 _ _ e)).mono (by omega)) (by
      unfold giftS
      split
      · omega
      · simp; omega)
    rw [show j + (r.length + 1) = j + 1 + r.length from by omega]
    exact this
/-- A spawn's gifts. -/
theorem t_spawned (x : BookAt h o p S m L) {a1 : S_api_Call} {n : Int} {gl : List Int} (hg : Still (cInt .i64) h o a1.Gifts gl) {k : Nat} (sm : Small k S) (hk : k + gl.length ≤ 2 ^ 40) {K : Unit → H → Prop}
    (y : ∀ h' o' L', BookAt h' o' p (S.spawned a1.By n gl) m L' → Moved (fun _ => True) o o' h h' → K () h') : m_book_Book_spawned (some ⟨p, 0, none⟩) a1 n K h := by
  unfold m_book_Book_spawned
  refine w_deref (w_load x.f2 (w_lookup (key_int (by kernel_rfl)) x.lists ?_))
  have mi := x.list a1.By
  have hgl := hg.arr.len
  unfold BookS.spawned at y
  generalize (alook L.lists a1.By).getD Sl.nil = ms at mi ⊢
  generalize (alook S.lists a1.By).getD [] = mine at mi y
  have hml := mi.arr.len
  let st : Nat → List S_api_Cap × BookS := fun j => (gl.take j).foldl (giftS mine a1.By n) ([], S)
  have st0 : st 0 = ([], S) := rfl
  have sts : ∀ j, Small (k + (0 + (gl.take j).length)) (st j).2 ∧ (st j).1.length ≤ 0 + (gl.take j).length := fun j => gifts_small (gl.take j) ([], S) 0 sm (Nat.le_refl _)
  refine w_for gl.length (fun j s h' => s.2 = (j : Int) ∧ ∃ o' L', BookAt h' o' p (st j).2 m L' ∧ Moved (fun _ => True) o o' h h' ∧ Buf S_api_Cap.cells 3 N_api_Cap h' s.1 (st j).1 ∧ ∀ c, s.1.foot c → o' c = some .scratch) ?_ ⟨rfl, o, L, x, .refl _ _ _, Buf.nil, fun c ⟨a, ha, _⟩ => by cases ha⟩
  rintro rec j ⟨s1, _⟩ h1 hj ⟨rfl, o1, L1, x1, mv1, bu1, fo1⟩ more
  refine w_if' (fun c => ?_) fun c => ?_
  · have c : (j : Int) < (a1.Gifts.len : Int) := c
    have hlt : j < gl.length := by omega
    have eg : gl[j]? = some gl[j] := List.getElem?_eq_getElem hlt
    refine w_get int_len (hg.moved mv1).arr eg rfl (v' := gl[j]) rfl ?_
    have stj : st (j + 1) = giftS mine a1.By n (st j) gl[j] := by
      show (gl.take (j + 1)).foldl _ _ = _
      rw [List.take_add_one, eg, Option.toList_some, List.foldl_append]; rfl
    have hs := sts j
    have hs1 := hs.1
    have hs2 := hs.2
    rw [List.length_take] at hs1 hs2
    generalize gl[j] = g at stj ⊢
    have mi1 := mi.moved mv1
    unfold giftS at stj
    refine w_if (fun c2 => ?_) fun c2 => ?_
    · rw [nxt64 j (by omega)]
      have hn : (if g < 0 then none else mine[g.toNat]?) = none := by
        have c2 : (decide (g < 0) || decide ((ms.len : Int) ≤ g)) = true := c2
        rw [Bool.or_eq_true, decide_eq_true_eq, decide_eq_true_eq] at c2
        split
        · rfl
        · rename_i q
          rw [List.getElem?_eq_none]
          omega
      rw [hn] at stj
      refine more _ _ hlt ⟨rfl, o1, L1, ?_, mv1, ?_, fo1⟩
      · rw [stj]; exact x1
      · rw [stj]; exact bu1
    have c2 : (decide (g < 0) || decide ((ms.len : Int) ≤ g)) = false := c2
    rw [Bool.or_eq_false_iff, decide_eq_false_iff_not, decide_eq_false_iff_not] at c2
    have hgt : g.toNat < mine.length := by omega
    have em : mine[g.toNat]? = some mine[g.toNat] := List.getElem?_eq_getElem hgt
    have eq : g = ((g.toNat : Nat) : Int) := by omega
    rw [if_neg c2.1, em] at stj
    generalize mine[g.toNat] = cp at em stj
    have gm : ∀ {h' : H} {o' : Own}, Still S_api_Cap.cells h' o' ms mine → ∀ {K : S_api_Cap → H → Prop}, K cp h' → mIdx ms g 3 (fun a => mLoad S_api_Cap.cells a K) h' := fun z _ r => w_get cap_len z.arr em eq (v' := cp) rfl r
    refine gm mi1 ?_
    refine w_app cap_len rfl bu1 [cp] (by simp [flat, S_api_Cap.cells]) rfl (.inl (by simp only [List.length_singleton]; omega)) fun s2 h2 bu2 b2 f2 d2 => ?_
    have mvA : Moved (· = .scratch) o1 (tagged o1 s2 (some .scratch)) h1 h2 := Moved.tag (T := (· = .scratch)) ⟨fun c z e nt => b2 c z e fun f => nt _ (fo1 c f) rfl, fun _ _ _ => rfl, d2⟩ fun c f => (f2 c f).symm.imp id (fo1 c)
    have x2 := x1.moved mvA fun _ q => q
    have mi2 := mi1.moved mvA
    have fo2 : ∀ c, s2.foot c → tagged o1 s2 (some .scratch) c = some .scratch := fun c f => tagged_in f
    have mv2 := mv1.seq mvA
    revert x2 mi2 fo2 mv2
    generalize tagged o1 s2 (some .scratch) = o2
    intro x2 mi2 fo2 mv2
    refine w_deref ?_
    obtain ⟨ad, had, hat⟩ := mi2.arr.idx cap_len em
    refine ⟨ad, by rw [eq]; exact had, ?_⟩
    refine w_load x2.f3 (w_load (v := cp) hat (t_lookW x2 ?_))
    have wy := x2.way ⟨a1.By, cp⟩
    have ws := ways_some x2 ⟨a1.By, cp⟩
    refine w_if (fun c3 => ?_) fun c3 => ?_
    · have c3 : (alook L1.ways ⟨a1.By, cp⟩).isSome = true := c3
      rw [ws] at c3
      obtain ⟨w, hw⟩ := Option.isSome_iff_exists.1 c3
      rw [hw] at wy
      simp only [hw] at stj
      refine gm mi2 ?_
      refine t_tell x2 wy.arr (by have := hs1.1 _ _ hw; show w.length ≤ _; omega) (by have := hs1.knows n; show ((alook (st j).2.known n).getD []).length ≤ _; omega) fun h3 o3 L3 x3 mv3 => ?_
      rw [nxt64 j (by omega)]
      refine more _ _ hlt ⟨rfl, o3, L3, by rw [stj]; exact x3, mv2.seq mv3, ?_, fun c f => ?_⟩
      · rw [stj]
        exact bu2.moved mv3 fun c f t e => by rw [fo2 c f] at e; cases e; exact fun z => z rfl
      · exact (mv3.own c (bu2.has f) fun t e => by rw [fo2 c f] at e; cases e; exact fun z => z rfl).trans (fo2 c f)
    · have c3 : (alook L1.ways ⟨a1.By, cp⟩).isSome = false := c3
      rw [ws] at c3
      have hw : alook (st j).2.ways ⟨a1.By, cp⟩ = none := by
        cases q : alook (st j).2.ways ⟨a1.By, cp⟩ with
        | none => rfl
        | some w => rw [q] at c3; cases c3
      simp only [hw] at stj
      rw [nxt64 j (by omega)]
      exact more _ _ hlt ⟨rfl, o2, L1, by rw [stj]; exact x2, mv2, by rw [stj]; exact bu2, fo2⟩
  · have c : ¬ (j : Int) < (a1.Gifts.len : Int) := c
    obtain rfl : j = gl.length := by omega
    have stE : st gl.length = gl.foldl (giftS mine a1.By n) ([], S) := by
      show (gl.take gl.length).foldl _ _ = _
      rw [List.take_length]
    rw [stE] at x1 bu1
    have mvT : Moved (· = .scratch) o1 (tagged o1 s1 none) h1 h1 := ⟨fun _ _ e _ => e, fun c _ nt => by
      by_cases q : s1.foot c
      · exact absurd rfl (nt _ (fo1 c q))
      · exact tagged_out q, fun _ e => e⟩
    have x2 := x1.moved mvT fun _ q => q
    refine w_deref (w_load x2.f2 (w_mapSet (key_int (by kernel_rfl)) x2.lists rfl rfl fun h2 mp b2 d2 => ?_))
    obtain ⟨x3, mv3⟩ := x2.setLists bu1.still b2 d2 mp
    exact y h2 _ _ x3 ((mv1.seq mvT).seq mv3)
theorem t_NoteSpawn (x : BookAt h o p S m L) {a1 : S_api_Call} {a2 : S_api_Reply} (hop : a1.Op = 9) (hc : a2.Code = 0) {gl : List Int} (hg : Still (cInt .i64) h o a1.Gifts gl) {k : Nat} (sm : Small k S) (hk : k + gl.length ≤ 2 ^ 40) {K : Unit → H → Prop}
    (y : ∀ h' o' L', BookAt h' o' p (S.step.spawned a1.By a2.Number gl) m L' → Moved (fun _ => True) o o' h h' → K () h') : m_book_Book_Note (some ⟨p, 0, none⟩) a1 a2 K h := by
  unfold m_book_Book_Note
  refine w_deref (w_load x.f0 (w_deref (w_store (l1 := []) (l2 := cInt .i64 S.steps) (l3 := (S_book_Book.cells (m.book S.steps)).drop 1) rfl x.cell rfl rfl ?_)))
  obtain ⟨x1, mv1⟩ := x.setSteps (iAdd .i64 S.steps 1)
  refine w_ifF (by rw [hc]; rfl) (w_ifF (by rw [hop]; rfl) (w_ifF (by rw [hop]; rfl) (w_ifF (by rw [hop]; rfl) (w_ifF (by rw [hop]; rfl) (w_ifF (by rw [hop]; rfl) (w_ifF (by rw [hop]; rfl) (w_ifF (by rw [hop]; rfl) (w_ifF (by rw [hop]; rfl) (w_ifT (by rw [hop]; rfl) ?_)))))))))
  exact t_spawned x1 (hg.moved mv1) (k := k) sm hk fun h2 o2 L2 x2 mv2 => y h2 o2 L2 x2 (mv1.all.seq mv2)
end
end Go.Proofs.Ytnmaknkbdfpbkaa.K
