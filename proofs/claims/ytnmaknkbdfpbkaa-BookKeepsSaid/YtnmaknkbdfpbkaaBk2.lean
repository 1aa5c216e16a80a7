/- The book's state in memory: each block that it may write bears a tag. -/
import Derived.Test.YtnmaknkbdfpbkaaBk1
import Derived.Test.YtnmaknkbdfpbkaaFbookx2
import Derived.Test.YtnmaknkbdfpbkaaCl
namespace Go.Proofs.Ytnmaknkbdfpbkaa.K
open Go

/-- What a book holds. -/
structure BookS where
  steps : Int
  live : List (S_api_Cap × S_book_token)
  lists : List (Int × List S_api_Cap)
  ways : List (S_book_whom × List S_book_Link)
  known : List (Int × List S_api_Cap)
  bytes : List (Int × List (Int × (Int × S_api_Cap × List S_book_Link)))
/-- Rows of one list stand for those of another, key by key. -/
def Rows {K V W : Type} (R : K → V → W → Prop) : List (K × V) → List (K × W) → Prop
  | [], [] => True
  | (a, v) :: r, (b, w) :: q => a = b ∧ R a v w ∧ Rows R r q
  | _, _ => False
theorem Rows.mono {K V W : Type} {R R' : K → V → W → Prop} (hR : ∀ k v w, R k v w → R' k v w) : ∀ {l : List (K × V)} {m : List (K × W)}, Rows R l m → Rows R' l m := by
  intro l
  induction l with
  | nil => intro m h; cases m <;> exact h
  | cons p r ih =>
    intro m h
    cases m with
    | nil => exact h
    | cons q s => exact ⟨h.1, hR _ _ _ h.2.1, ih h.2.2⟩
theorem Rows.look {K V W : Type} [DecidableEq K] {R : K → V → W → Prop} {k : K} : ∀ {l : List (K × V)} {m : List (K × W)}, Rows R l m → (alook l k = none ∧ alook m k = none) ∨ ∃ v w, alook l k = some v ∧ alook m k = some w ∧ R k v w := by
  intro l
  induction l with
  | nil => intro m h; cases m with
    | nil => exact .inl ⟨rfl, rfl⟩
    | cons => exact h.elim
  | cons p r ih =>
    intro m h
    cases m with
    | nil => exact h.elim
    | cons q s =>
      obtain ⟨a, v⟩ := p
      obtain ⟨b, w⟩ := q
      obtain ⟨rfl, hv, ht⟩ := h
      rw [alook_cons, alook_cons]
      by_cases e : k = a
      · rw [if_pos e, if_pos e]; subst e; exact .inr ⟨v, w, rfl, rfl, hv⟩
      · rw [if_neg e, if_neg e]; exact ih ht
theorem Rows.keys {K V W : Type} {R : K → V → W → Prop} : ∀ {l : List (K × V)} {m : List (K × W)}, Rows R l m → l.map (·.1) = m.map (·.1) := by
  intro l
  induction l with
  | nil => intro m h; cases m with
    | nil => rfl
    | cons => exact h.elim
  | cons p r ih =>
    intro m h
    cases m with
    | nil => exact h.elim
    | cons q s => rw [List.map_cons, List.map_cons, h.1, ih h.2.2]
/-- .. a row set; the others may go on by another relation. -/
theorem Rows.set {K V W : Type} [DecidableEq K] {R R' : K → V → W → Prop} {k : K} {v : V} {w : W} (hvw : R' k v w) : ∀ {l : List (K × V)} {m : List (K × W)}, Rows R l m → (l.map (·.1)).Nodup → (∀ k' v' w', k' ≠ k → R k' v' w' → R' k' v' w') → Rows R' (aset l k v) (aset m k w) := by
  intro l
  induction l with
  | nil => intro m h _ _; cases m with
    | nil => exact ⟨rfl, hvw, trivial⟩
    | cons => exact h.elim
  | cons p r ih =>
    intro m h hn hR
    cases m with
    | nil => exact h.elim
    | cons q s =>
      obtain ⟨a, x⟩ := p
      obtain ⟨b, y⟩ := q
      obtain ⟨rfl, hv, ht⟩ := h
      rw [List.map_cons, List.nodup_cons] at hn
      rw [aset_cons, aset_cons]
      by_cases e : k = a
      · rw [if_pos e, if_pos e]
        refine ⟨rfl, hvw, ?_⟩
        clear ih
        subst e
        have hk := hn.1
        clear hn
        induction r generalizing s with
        | nil => cases s with
          | nil => trivial
          | cons => exact ht.elim
        | cons p r ih2 =>
          cases s with
          | nil => exact ht.elim
          | cons q s =>
            rw [List.map_cons, List.mem_cons, not_or] at hk
            exact ⟨ht.1, hR _ _ _ (fun z => hk.1 z.symm) ht.2.1, ih2 s ht.2.2 hk.2⟩
      · rw [if_neg e, if_neg e]
        exact ⟨rfl, hR _ _ _ (fun z => e z.symm) hv, ih ht hn.2 hR⟩
theorem cap_len : ∀ x : S_api_Cap, (S_api_Cap.cells x).length = 3 := fun _ => rfl
theorem cap_plain : ∀ x : S_api_Cap, (S_api_Cap.cells x).all plainVal = true := fun _ => rfl
theorem link_len : ∀ x : S_book_Link, (S_book_Link.cells x).length = 7 := fun _ => rfl
theorem link_plain : ∀ x : S_book_Link, (S_book_Link.cells x).all plainVal = true := fun _ => rfl

/-! Who may write a block. -/
inductive Tag where
  | cell | live | lists | ways | known | bytes
  | kn (q : Int)
  | inn (o : Int)
  | scratch
abbrev Own := Nat → Option Tag
/-- Memory and tags behind a step that writes blocks of the tags 'T' alone. -/
structure Moved (T : Tag → Prop) (o o' : Own) (h h' : H) : Prop where
  mem : ∀ c x, h c = some x → (∀ t, o c = some t → ¬ T t) → h' c = some x
  own : ∀ c, h c ≠ none → (∀ t, o c = some t → ¬ T t) → o' c = o c
  dom : ∀ c, h' c = none → h c = none
section
variable {T T' : Tag → Prop} {o o' o'' : Own} {h h' h'' : H}
theorem Moved.refl (T : Tag → Prop) (o : Own) (h : H) : Moved T o o h h := ⟨fun _ _ e _ => e, fun _ _ _ => rfl, fun _ e => e⟩
theorem Moved.mono (x : Moved T o o' h h') (e : ∀ t, T t → T' t) : Moved T' o o' h h' := ⟨fun c y hc n => x.mem c y hc fun t ht hT => n t ht (e t hT), fun c hc n => x.own c hc fun t ht hT => n t ht (e t hT), x.dom⟩
theorem Moved.trans (x : Moved T o o' h h') (y : Moved T' o' o'' h' h'') : Moved (fun t => T t ∨ T' t) o o'' h h'' := by
  have live : ∀ c, h c ≠ none → h' c ≠ none := fun c e q => e (x.dom c q)
  refine ⟨fun c z hc n => ?_, fun c e n => ?_, fun c e => x.dom c (y.dom c e)⟩
  · have q := x.own c (by rw [hc]; simp) fun t ht hT => n t ht (.inl hT)
    exact y.mem c z (x.mem c z hc fun t ht hT => n t ht (.inl hT)) fun t ht hT => n t (q ▸ ht) (.inr hT)
  · have q := x.own c e fun t ht hT => n t ht (.inl hT)
    exact (y.own c (live c e) fun t ht hT => n t (q ▸ ht) (.inr hT)).trans q
theorem Moved.all (x : Moved T o o' h h') : Moved (fun _ => True) o o' h h' := x.mono fun _ _ => trivial
theorem Moved.seq (x : Moved (fun _ => True) o o' h h') (y : Moved T' o' o'' h' h'') : Moved (fun _ => True) o o'' h h'' := (x.trans y).all
theorem Moved.keeps (k : Keeps h h') : Moved T o o h h' := ⟨fun c x e _ => k c x e, fun _ _ _ => rfl, fun _ e => k.fresh e⟩
theorem Moved.one {b : Nat} {t : Tag} (k : But (· = b) h h') (d : ∀ c, h' c = none → h c = none) (hb : o b = some t) : Moved (· = t) o o h h' :=
  ⟨fun c x e n => k c x e fun q => n t (q ▸ hb) rfl, fun _ _ _ => rfl, d⟩
theorem Moved.but (x : Moved T o o' h h') : But (fun c => ∃ t, o c = some t ∧ T t) h h' := fun c y e n => x.mem c y e fun t ht hT => n ⟨t, ht, hT⟩
/-- A slice's block bears a tag, or none. -/
def tagged (o : Own) (s : Sl) (t : Option Tag) : Own := fun c => match s.a with
  | none => o c
  | some a => if a.block = c then t else o c
theorem tagged_in {s : Sl} {t : Option Tag} {c : Nat} (f : s.foot c) : tagged o s t c = t := by
  obtain ⟨a, ha, e⟩ := f
  unfold tagged; rw [ha]; simp only; rw [if_pos e]
theorem tagged_out {s : Sl} {t : Option Tag} {c : Nat} (f : ¬ s.foot c) : tagged o s t c = o c := by
  unfold tagged
  split
  · rfl
  · rename_i a ha
    rw [if_neg fun e => f ⟨a, ha, e⟩]
theorem Moved.tag (x : Moved T o o' h h') {s : Sl} {t : Option Tag} (f : ∀ c, s.foot c → h c = none ∨ o c = t) : Moved T o (tagged o' s t) h h' := by
  refine ⟨x.mem, fun c e n => ?_, x.dom⟩
  by_cases q : s.foot c
  · rw [tagged_in q]; exact ((f c q).resolve_left e).symm
  · rw [tagged_out q]; exact x.own c e n
theorem MapOf.has {K V : Type} {kc : K → Value} {vc : V → Value} {b : Nat} {l : List (K × V)} (x : MapOf kc vc h b l) : ∃ o, h b = some o := by
  obtain ⟨_, _, e, _⟩ := x.ex; exact ⟨_, e⟩
theorem Moved.map {K V : Type} {kc : K → Value} {vc : V → Value} {b : Nat} {l : List (K × V)} {t : Tag} (m : Moved T o o' h h') (nt : ¬ T t) (x : MapOf kc vc h b l) (ob : o b = some t) : MapOf kc vc h' b l ∧ o' b = some t := by
  obtain ⟨z, hz⟩ := x.has
  have n : ∀ t', o b = some t' → ¬ T t' := fun t' e hT => by rw [ob] at e; cases e; exact nt hT
  exact ⟨x.but m.but fun ⟨t', e, hT⟩ => n t' e hT, (m.own b (by rw [hz]; simp) n).trans ob⟩
/-- A row that is read only: it lies outside what may be written. -/
structure Still {V : Type} (cells : V → List Value) (h : H) (o : Own) (s : Sl) (xs : List V) : Prop where
  arr : Arr cells h s xs
  far : ∀ c, s.foot c → o c = none ∧ h c ≠ none
theorem Still.nil {V : Type} {cells : V → List Value} : Still cells h o Sl.nil ([] : List V) := ⟨⟨rfl, Nat.le_refl _, fun e => absurd rfl e⟩, fun c ⟨a, ha, _⟩ => by cases ha⟩
theorem Still.moved {V : Type} {cells : V → List Value} {s : Sl} {xs : List V} (m : Moved T o o' h h') (x : Still cells h o s xs) : Still cells h' o' s xs := by
  refine ⟨x.arr.but m.but fun _ a ha ⟨t, e, _⟩ => ?_, fun c f => ?_⟩
  · rw [(x.far _ ⟨a, ha, rfl⟩).1] at e; cases e
  · obtain ⟨h1, h2⟩ := x.far c f
    exact ⟨(m.own c h2 fun t e => by rw [h1] at e; cases e).trans h1, fun q => h2 (m.dom c q)⟩
theorem Buf.has {V : Type} {cells : V → List Value} {sz : Nat} {e : TypeId} {s : Sl} {xs : List V} (x : Buf cells sz e h s xs) {c : Nat} (f : s.foot c) : h c ≠ none := by
  obtain ⟨a, ha, rfl⟩ := f
  rcases x.at_ with ⟨q, _⟩ | ⟨b, z, fz, q, hb, _⟩
  · rw [q] at ha; cases ha
  · rw [q] at ha; cases ha; rw [hb]; simp
theorem Buf.still {V : Type} {cells : V → List Value} {sz : Nat} {e : TypeId} {s : Sl} {xs : List V} (x : Buf cells sz e h s xs) : Still cells h (tagged o s none) s xs := ⟨x.arr, fun _ f => ⟨tagged_in f, x.has f⟩⟩
theorem Buf.moved {V : Type} {cells : V → List Value} {sz : Nat} {e : TypeId} {s : Sl} {xs : List V} (m : Moved T o o' h h') (x : Buf cells sz e h s xs) (f : ∀ c, s.foot c → ∀ t, o c = some t → ¬ T t) : Buf cells sz e h' s xs :=
  x.but m.but fun a ha ⟨t, e, hT⟩ => f _ ⟨a, ha, rfl⟩ t e hT
/-- A row that may be lengthened. -/
structure OwnK (h : H) (o : Own) (q : Int) (s : Sl) (xs : List S_api_Cap) : Prop where
  buf : Buf S_api_Cap.cells 3 N_api_Cap h s xs
  mine : ∀ c, s.foot c → o c = some (.kn q)
theorem OwnK.moved {q : Int} {s : Sl} {xs : List S_api_Cap} (m : Moved T o o' h h') (nt : ¬ T (.kn q)) (x : OwnK h o q s xs) : OwnK h' o' q s xs :=
  ⟨x.buf.moved m fun c f t e hT => by rw [x.mine c f] at e; cases e; exact nt hT, fun c f => (m.own c (x.buf.has f) fun t e hT => by rw [x.mine c f] at e; cases e; exact nt hT).trans (x.mine c f)⟩
def LaidR (h : H) (o : Own) (_ : Int) (x : S_book_laid) (y : Int × S_api_Cap × List S_book_Link) : Prop := x.xby = y.1 ∧ x.xc = y.2.1 ∧ Still S_book_Link.cells h o x.xway y.2.2
/-- An object's whole capabilities. -/
def Inn (h : H) (o : Own) (q : Int) (b : Option Nat) (l : List (Int × (Int × S_api_Cap × List S_book_Link))) : Prop :=
  ∃ b' rows, b = some b' ∧ o b' = some (.inn q) ∧ MapOf (Value.int .i64) S_book_laid.val h b' rows ∧ Rows (LaidR h o) rows l
theorem LaidR.moved {q : Int} {x : S_book_laid} {y : Int × S_api_Cap × List S_book_Link} (m : Moved T o o' h h') (z : LaidR h o q x y) : LaidR h' o' q x y := ⟨z.1, z.2.1, z.2.2.moved m⟩
theorem Inn.moved {q : Int} {b : Option Nat} {l : List (Int × (Int × S_api_Cap × List S_book_Link))} (m : Moved T o o' h h') (nt : ¬ T (.inn q)) (x : Inn h o q b l) : Inn h' o' q b l := by
  obtain ⟨b', rows, e, ob, hm, hr⟩ := x
  obtain ⟨h1, h2⟩ := m.map nt hm ob
  exact ⟨b', rows, e, h2, h1, hr.mono fun _ _ _ z => z.moved m⟩
end
/-- The book's maps. -/
structure BM where
  live : Nat
  lists : Nat
  ways : Nat
  known : Nat
  bytes : Nat
def BM.book (m : BM) (steps : Int) : S_book_Book := ⟨steps, some m.live, some m.lists, some m.ways, some m.known, some m.bytes⟩
/-- What stands in them. -/
structure BL where
  lists : List (Int × Sl)
  ways : List (S_book_whom × Sl)
  known : List (Int × Sl)
  bytes : List (Int × Option Nat)
/-- A book in memory. -/
structure BookAt (h : H) (o : Own) (p : Nat) (S : BookS) (m : BM) (L : BL) : Prop where
  cell : h p = some (.cells (S_book_Book.cells (m.book S.steps)).toArray N_book_Book (0, 0))
  cellO : o p = some .cell
  live : MapOf S_api_Cap.val S_book_token.val h m.live S.live
  liveO : o m.live = some .live
  lists : MapOf (Value.int .i64) Sl.val h m.lists L.lists
  listsO : o m.lists = some .lists
  ways : MapOf S_book_whom.val Sl.val h m.ways L.ways
  waysO : o m.ways = some .ways
  known : MapOf (Value.int .i64) Sl.val h m.known L.known
  knownO : o m.known = some .known
  bytes : MapOf (Value.int .i64) Value.map h m.bytes L.bytes
  bytesO : o m.bytes = some .bytes
  listsR : Rows (fun _ => Still S_api_Cap.cells h o) L.lists S.lists
  waysR : Rows (fun _ => Still S_book_Link.cells h o) L.ways S.ways
  knownR : Rows (OwnK h o) L.known S.known
  bytesR : Rows (Inn h o) L.bytes S.bytes
  once : Once S.live ∧ Once S.lists ∧ Once S.ways ∧ Once S.known ∧ Once S.bytes
section
variable {T : Tag → Prop} {h h' : H} {o o' : Own} {p : Nat} {S : BookS} {m : BM} {L : BL}
theorem BookAt.cellM (x : BookAt h o p S m L) (k : Moved T o o' h h') (nt : ¬ T .cell) : h' p = some (.cells (S_book_Book.cells (m.book S.steps)).toArray N_book_Book (0, 0)) ∧ o' p = some .cell :=
  ⟨k.mem _ _ x.cell fun t e hT => by rw [x.cellO] at e; cases e; exact nt hT, (k.own p (by rw [x.cell]; simp) fun t e hT => by rw [x.cellO] at e; cases e; exact nt hT).trans x.cellO⟩
theorem BookAt.listsM (x : BookAt h o p S m L) (k : Moved T o o' h h') : Rows (fun _ => Still S_api_Cap.cells h' o') L.lists S.lists := x.listsR.mono fun _ _ _ z => z.moved k
theorem BookAt.waysM (x : BookAt h o p S m L) (k : Moved T o o' h h') : Rows (fun _ => Still S_book_Link.cells h' o') L.ways S.ways := x.waysR.mono fun _ _ _ z => z.moved k
theorem BookAt.knownM (x : BookAt h o p S m L) (k : Moved T o o' h h') (nt : ∀ q, ¬ T (.kn q)) : Rows (OwnK h' o') L.known S.known := x.knownR.mono fun q _ _ z => z.moved k (nt q)
theorem BookAt.bytesM (x : BookAt h o p S m L) (k : Moved T o o' h h') (nt : ∀ q, ¬ T (.inn q)) : Rows (Inn h' o') L.bytes S.bytes := x.bytesR.mono fun q _ _ z => z.moved k (nt q)
/-- Nothing of it is written. -/
theorem BookAt.moved (x : BookAt h o p S m L) (k : Moved T o o' h h') (ns : ∀ t, T t → t = .scratch) : BookAt h' o' p S m L :=
  have nt : ∀ t, t ≠ .scratch → ¬ T t := fun t n q => n (ns t q)
  have a := x.cellM k (nt .cell nofun)
  have b := k.map (nt .live nofun) x.live x.liveO
  have c := k.map (nt .lists nofun) x.lists x.listsO
  have d := k.map (nt .ways nofun) x.ways x.waysO
  have e := k.map (nt .known nofun) x.known x.knownO
  have f := k.map (nt .bytes nofun) x.bytes x.bytesO
  ⟨a.1, a.2, b.1, b.2, c.1, c.2, d.1, d.2, e.1, e.2, f.1, f.2, x.listsM k, x.waysM k, x.knownM k fun _ => nt _ nofun, x.bytesM k fun _ => nt _ nofun, x.once⟩
theorem BookAt.keeps (x : BookAt h o p S m L) (k : Keeps h h') : BookAt h' o p S m L := x.moved (Moved.keeps (T := fun _ => False) k) fun _ q => q.elim
theorem BookAt.f0 (x : BookAt h o p S m L) : At h ((⟨p, 0, none⟩ : Addr).add 0) (cInt .i64 S.steps) := At.own (l1 := []) (l3 := (S_book_Book.cells (m.book S.steps)).drop 1) x.cell rfl
theorem BookAt.f1 (x : BookAt h o p S m L) : At h ((⟨p, 0, none⟩ : Addr).add 1) (cMap (some m.live)) := At.own (l1 := (S_book_Book.cells (m.book S.steps)).take 1) (l3 := (S_book_Book.cells (m.book S.steps)).drop 2) x.cell rfl
theorem BookAt.f2 (x : BookAt h o p S m L) : At h ((⟨p, 0, none⟩ : Addr).add 2) (cMap (some m.lists)) := At.own (l1 := (S_book_Book.cells (m.book S.steps)).take 2) (l3 := (S_book_Book.cells (m.book S.steps)).drop 3) x.cell rfl
theorem BookAt.f3 (x : BookAt h o p S m L) : At h ((⟨p, 0, none⟩ : Addr).add 3) (cMap (some m.ways)) := At.own (l1 := (S_book_Book.cells (m.book S.steps)).take 3) (l3 := (S_book_Book.cells (m.book S.steps)).drop 4) x.cell rfl
theorem BookAt.f4 (x : BookAt h o p S m L) : At h ((⟨p, 0, none⟩ : Addr).add 4) (cMap (some m.known)) := At.own (l1 := (S_book_Book.cells (m.book S.steps)).take 4) (l3 := (S_book_Book.cells (m.book S.steps)).drop 5) x.cell rfl
theorem t_Steps (x : BookAt h o p S m L) {K : Int → H → Prop} (y : K S.steps h) : m_book_Book_Steps (some ⟨p, 0, none⟩) K h := by
  unfold m_book_Book_Steps
  exact w_deref (w_load x.f0 y)
theorem t_lookW (x : BookAt h o p S m L) {k : S_book_whom} {K : Sl × Bool → H → Prop} (y : K ((alook L.ways k).getD Sl.nil, (alook L.ways k).isSome) h) : m_book_look_book_whom_book_Link (some m.ways) k K h := by
  unfold m_book_look_book_whom_book_Link
  exact w_lookup key_whom x.ways y
theorem ways_some (x : BookAt h o p S m L) (k : S_book_whom) : (alook L.ways k).isSome = (alook S.ways k).isSome := by
  rcases x.waysR.look (k := k) with ⟨a, b⟩ | ⟨v, w, a, b, _⟩
  · rw [a, b]; rfl
  · rw [a, b]; rfl
theorem t_Told (x : BookAt h o p S m L) {q : Int} {c : S_api_Cap} {K : Bool → H → Prop} (y : K (alook S.ways ⟨q, c⟩).isSome h) : m_book_Book_Told (some ⟨p, 0, none⟩) q c K h := by
  unfold m_book_Book_Told
  refine w_deref (w_load x.f3 (t_lookW x ?_))
  rw [ways_some x]; exact y
theorem BookAt.way (x : BookAt h o p S m L) (k : S_book_whom) : Still S_book_Link.cells h o ((alook L.ways k).getD Sl.nil) ((alook S.ways k).getD []) := by
  rcases x.waysR.look (k := k) with ⟨a, b⟩ | ⟨v, w, a, b, r⟩
  · rw [a, b]; exact .nil
  · rw [a, b]; exact r
theorem BookAt.list (x : BookAt h o p S m L) (k : Int) : Still S_api_Cap.cells h o ((alook L.lists k).getD Sl.nil) ((alook S.lists k).getD []) := by
  rcases x.listsR.look (k := k) with ⟨a, b⟩ | ⟨v, w, a, b, r⟩
  · rw [a, b]; exact .nil
  · rw [a, b]; exact r
theorem BookAt.knowns (x : BookAt h o p S m L) (k : Int) : OwnK h o k ((alook L.known k).getD Sl.nil) ((alook S.known k).getD []) := by
  rcases x.knownR.look (k := k) with ⟨a, b⟩ | ⟨v, w, a, b, r⟩
  · rw [a, b]; exact ⟨Buf.nil, fun c ⟨a, ha, _⟩ => by cases ha⟩
  · rw [a, b]; exact r
/-- Known: a fresh copy. -/
theorem t_Known (x : BookAt h o p S m L) {q : Int} {K : Sl → H → Prop} (room : ((alook S.known q).getD []).length ≤ 2 ^ 40)
    (y : ∀ s h', Buf S_api_Cap.cells 3 N_api_Cap h' s ((alook S.known q).getD []) → Keeps h h' → (∀ b, s.foot b → h b = none) → K s h') : m_book_Book_Known (some ⟨p, 0, none⟩) q K h := by
  unfold m_book_Book_Known
  refine w_deref (w_load x.f4 (w_lookup (key_int (by kernel_rfl)) x.known ?_))
  unfold m_slices_Clone_api_Cap_api_Cap
  exact w_clone cap_len cap_plain rfl (x.knowns q).buf.arr (by omega) y
/-- Way: a fresh copy. -/
theorem t_Way (x : BookAt h o p S m L) {q : Int} {c : S_api_Cap} {K : Sl × Bool → H → Prop} (room : ((alook S.ways ⟨q, c⟩).getD []).length ≤ 2 ^ 40)
    (y : ∀ s h', Buf S_book_Link.cells 7 N_book_Link h' s ((alook S.ways ⟨q, c⟩).getD []) → Keeps h h' → (∀ b, s.foot b → h b = none) → K (s, (alook S.ways ⟨q, c⟩).isSome) h') : m_book_Book_Way (some ⟨p, 0, none⟩) q c K h := by
  unfold m_book_Book_Way
  refine w_deref (w_load x.f3 (t_lookW x ?_))
  unfold m_slices_Clone_book_Link_book_Link
  rw [ways_some x]
  exact w_clone link_len link_plain rfl (x.way ⟨q, c⟩).arr (by omega) y
def tok0 : S_book_token := ⟨0, ⟨0, ⟨0, 0⟩⟩, false⟩
theorem t_lookT (x : BookAt h o p S m L) {k : S_api_Cap} {K : S_book_token × Bool → H → Prop} (y : K ((alook S.live k).getD tok0, (alook S.live k).isSome) h) : m_book_look_api_Cap_book_token (some m.live) k K h := by
  unfold m_book_look_api_Cap_book_token
  exact w_lookup key_cap x.live y
theorem t_Rights (x : BookAt h o p S m L) {c : S_api_Cap} {K : Int × Bool → H → Prop} (y : ∀ h', Keeps h h' → K (((alook S.live c).getD tok0).xrights, (alook S.live c).isSome) h') : m_book_Book_Rights (some ⟨p, 0, none⟩) c K h := by
  unfold m_book_Book_Rights
  refine w_deref (w_load x.f1 ?_)
  refine w_joinP (fun s h' => ∃ b t, s = (⟨b, 0, none⟩, (alook S.live c).getD tok0, (alook S.live c).isSome) ∧ h b = none ∧ h' = upd h b (.cells ([] ++ S_book_token.cells tok0 ++ []).toArray t (0, 0))) (fun rest hr => ?_) ?_
  · refine w_both (t_lookT x (w_new fun b hb => hr _ _ ⟨b, _, rfl, hb, rfl⟩)) (w_new fun b hb => ?_)
    unfold m_book_look_api_Cap_book_token
    exact w_lookup key_cap (x.live.keep (.new hb)) (hr _ _ ⟨b, _, rfl, hb, rfl⟩)
  · rintro _ _ ⟨b, t, rfl, hb, rfl⟩
    refine w_store (l1 := []) (l3 := []) rfl (upd_same _ _ _) rfl rfl (w_load (v := ((alook S.live c).getD tok0).xrights) ?_ (y _ ?_))
    · exact At.own (l1 := []) (l2 := cInt .i64 ((alook S.live c).getD tok0).xrights) (l3 := (S_book_token.cells ((alook S.live c).getD tok0)).drop 1) (upd_same _ _ _) rfl
    · rw [upd_upd]; exact .new hb
end
/-- A new book is empty. -/
theorem t_New {h : H} {K : Option Addr → H → Prop} (y : ∀ p m h' o, BookAt h' o p ⟨0, [], [], [], [], []⟩ m ⟨[], [], [], []⟩ → (∀ c t, o c = some t → h c = none) → Keeps h h' → K (some ⟨p, 0, none⟩) h') : m_book_New K h := by
  unfold m_book_New
  refine w_makeMap S_api_Cap.val S_book_token.val fun b1 h1 f1 x1 k1 => w_makeMap (Value.int .i64) Sl.val fun b2 h2 f2 x2 k2 => w_makeMap S_book_whom.val Sl.val fun b3 h3 f3 x3 k3 => w_makeMap (Value.int .i64) Sl.val fun b4 h4 f4 x4 k4 => w_makeMap (Value.int .i64) Value.map fun b5 h5 f5 x5 k5 => w_new fun p fp => ?_
  have kp : Keeps h5 (upd h5 p (.cells #[(Value.int .i64 0), (Value.map (some b1)), (Value.map (some b2)), (Value.map (some b3)), (Value.map (some b4)), (Value.map (some b5))] N_book_Book (0, 0))) := .new fp
  have ne : ∀ {a b : Nat} {ha : H}, (∃ o, ha a = some o) → ha b = none → b ≠ a := fun ⟨o, e⟩ f q => by subst q; rw [e] at f; cases f
  have e1 := x1.has
  have e2 := x2.has
  have e3 := x3.has
  have e4 := x4.has
  have e5 := x5.has
  have up : ∀ {b : Nat} {ha hb : H}, (∃ o, ha b = some o) → Keeps ha hb → ∃ o, hb b = some o := fun ⟨o, e⟩ k => ⟨o, k _ _ e⟩
  have n21 := ne e1 f2
  have n31 := ne (up e1 k2) f3
  have n32 := ne e2 f3
  have n41 := ne (up e1 (k2.trans k3)) f4
  have n42 := ne (up e2 k3) f4
  have n43 := ne e3 f4
  have n51 := ne (up e1 ((k2.trans k3).trans k4)) f5
  have n52 := ne (up e2 (k3.trans k4)) f5
  have n53 := ne (up e3 k4) f5
  have n54 := ne e4 f5
  have np1 := ne (up e1 (((k2.trans k3).trans k4).trans k5)) fp
  have np2 := ne (up e2 ((k3.trans k4).trans k5)) fp
  have np3 := ne (up e3 (k4.trans k5)) fp
  have np4 := ne (up e4 k5) fp
  have np5 := ne e5 fp
  have K5 := (((k1.trans k2).trans k3).trans k4).trans k5
  refine y p ⟨b1, b2, b3, b4, b5⟩ _ (fun c => if c = p then some .cell else if c = b1 then some .live else if c = b2 then some .lists else if c = b3 then some .ways else if c = b4 then some .known else if c = b5 then some .bytes else none) ⟨upd_same _ _ _, by simp, x1.keep ((((k2.trans k3).trans k4).trans k5).trans kp), by simp [np1.symm], x2.keep (((k3.trans k4).trans k5).trans kp), by simp [np2.symm, n21], x3.keep ((k4.trans k5).trans kp), by simp [np3.symm, n31, n32], x4.keep (k5.trans kp), by simp [np4.symm, n41, n42, n43], x5.keep kp, by simp [np5.symm, n51, n52, n53, n54], trivial, trivial, trivial, trivial, ⟨List.nodup_nil, List.nodup_nil, List.nodup_nil, List.nodup_nil, List.nodup_nil⟩⟩ (fun c t e => ?_) (K5.trans kp)
  by_cases q0 : c = p
  · subst q0; exact K5.fresh fp
  by_cases q1 : c = b1
  · subst q1; exact f1
  by_cases q2 : c = b2
  · subst q2; exact k1.fresh f2
  by_cases q3 : c = b3
  · subst q3; exact (k1.trans k2).fresh f3
  by_cases q4 : c = b4
  · subst q4; exact ((k1.trans k2).trans k3).fresh f4
  by_cases q5 : c = b5
  · subst q5; exact (((k1.trans k2).trans k3).trans k4).fresh f5
  rw [if_neg q0, if_neg q1, if_neg q2, if_neg q3, if_neg q4, if_neg q5] at e
  cases e
end Go.Proofs.Ytnmaknkbdfpbkaa.K
