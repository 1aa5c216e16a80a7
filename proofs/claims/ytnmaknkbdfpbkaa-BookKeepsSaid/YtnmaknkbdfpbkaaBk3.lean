/- The book is told: tell, Note of a create, an add, a spawn. -/
import Derived.Test.YtnmaknkbdfpbkaaBk2
namespace Go.Proofs.Ytnmaknkbdfpbkaa.K
open Go
section
variable {h h1 h2 : H} {o : Own} {p : Nat} {S : BookS} {m : BM} {L : BL}
/-- A way more. -/
theorem BookAt.setWays (x : BookAt h o p S m L) {w : S_book_whom} {s : Sl} {l : List S_book_Link} (k : Keeps h h1) (bu : Buf S_book_Link.cells 7 N_book_Link h1 s l) (fr : ∀ c, s.foot c → h c = none)
    (b : But (· = m.ways) h1 h2) (d : ∀ c, h2 c = none → h1 c = none) (mp : MapOf S_book_whom.val Sl.val h2 m.ways (aset L.ways w s)) :
    BookAt h2 (tagged o s none) p { S with ways := aset S.ways w l } m { L with ways := aset L.ways w s } ∧ Moved (· = .ways) o (tagged o s none) h h2 := by
  have m1 : Moved (fun _ => False) o (tagged o s none) h h1 := Moved.tag (Moved.keeps k) fun c f => .inl (fr c f)
  have x1 := x.moved m1 fun _ q => q.elim
  have st : Still S_book_Link.cells h1 (tagged o s none) s l := bu.still
  have m2 : Moved (· = .ways) (tagged o s none) (tagged o s none) h1 h2 := .one b d x1.waysO
  have a1 := x1.cellM m2 (by nofun)
  have a2 := m2.map (by nofun) x1.live x1.liveO
  have a3 := m2.map (by nofun) x1.lists x1.listsO
  have a5 := m2.map (by nofun) x1.known x1.knownO
  have a6 := m2.map (by nofun) x1.bytes x1.bytesO
  refine ⟨⟨a1.1, a1.2, a2.1, a2.2, a3.1, a3.2, mp, x1.waysO, a5.1, a5.2, a6.1, a6.2, x1.listsM m2, ?_, x1.knownM m2 fun _ => by nofun, x1.bytesM m2 fun _ => by nofun, x.once.1, x.once.2.1, x.once.2.2.1.set _ _, x.once.2.2.2⟩, (m1.trans m2).mono fun t ht => ht.resolve_left id⟩
  exact Rows.set (R' := fun _ => Still S_book_Link.cells h2 (tagged o s none)) (st.moved m2) (x1.waysM m2) (by rw [x.waysR.keys]; exact x.once.2.2.1) fun _ _ _ _ z => z
/-- A list more, or another. -/
theorem BookAt.setLists (x : BookAt h o p S m L) {w : Int} {s : Sl} {l : List S_api_Cap} (st : Still S_api_Cap.cells h o s l)
    (b : But (· = m.lists) h h2) (d : ∀ c, h2 c = none → h c = none) (mp : MapOf (Value.int .i64) Sl.val h2 m.lists (aset L.lists w s)) :
    BookAt h2 o p { S with lists := aset S.lists w l } m { L with lists := aset L.lists w s } ∧ Moved (· = .lists) o o h h2 := by
  have m2 : Moved (· = .lists) o o h h2 := .one b d x.listsO
  have a1 := x.cellM m2 (by nofun)
  have a2 := m2.map (by nofun) x.live x.liveO
  have a4 := m2.map (by nofun) x.ways x.waysO
  have a5 := m2.map (by nofun) x.known x.knownO
  have a6 := m2.map (by nofun) x.bytes x.bytesO
  refine ⟨⟨a1.1, a1.2, a2.1, a2.2, mp, x.listsO, a4.1, a4.2, a5.1, a5.2, a6.1, a6.2, ?_, x.waysM m2, x.knownM m2 fun _ => by nofun, x.bytesM m2 fun _ => by nofun, x.once.1, x.once.2.1.set _ _, x.once.2.2⟩, m2⟩
  exact Rows.set (R' := fun _ => Still S_api_Cap.cells h2 o) (st.moved m2) (x.listsM m2) (by rw [x.listsR.keys]; exact x.once.2.1) fun _ _ _ _ z => z
/-- One more that is known. -/
theorem BookAt.setKnown (x : BookAt h o p S m L) {q : Int} {s : Sl} {l : List S_api_Cap} (k : But ((alook L.known q).getD Sl.nil).foot h h1) (bu : Buf S_api_Cap.cells 3 N_api_Cap h1 s l) (fr : ∀ c, s.foot c → ((alook L.known q).getD Sl.nil).foot c ∨ h c = none)
    (d1 : ∀ c, h1 c = none → h c = none) (b : But (· = m.known) h1 h2) (d : ∀ c, h2 c = none → h1 c = none) (mp : MapOf (Value.int .i64) Sl.val h2 m.known (aset L.known q s)) :
    BookAt h2 (tagged o s (some (.kn q))) p { S with known := aset S.known q l } m { L with known := aset L.known q s } ∧ Moved (fun t => t = .kn q ∨ t = .known) o (tagged o s (some (.kn q))) h h2 := by
  have own := x.knowns q
  have m0 : Moved (· = .kn q) o o h h1 := ⟨fun c y e n => k c y e fun f => n _ (own.mine c f) rfl, fun _ _ _ => rfl, d1⟩
  have m1 : Moved (· = .kn q) o (tagged o s (some (.kn q))) h h1 := m0.tag fun c f => (fr c f).symm.imp id (own.mine c)
  have kO : tagged o s (some (.kn q)) m.known = some .known := (m1.map (by nofun) x.known x.knownO).2
  have m2 : Moved (· = .known) (tagged o s (some (.kn q))) (tagged o s (some (.kn q))) h1 h2 := .one b d kO
  have mm := m1.trans m2
  have a1 := x.cellM mm (by nofun)
  have a2 := mm.map (by nofun) x.live x.liveO
  have a3 := mm.map (by nofun) x.lists x.listsO
  have a4 := mm.map (by nofun) x.ways x.waysO
  have a6 := mm.map (by nofun) x.bytes x.bytesO
  refine ⟨⟨a1.1, a1.2, a2.1, a2.2, a3.1, a3.2, a4.1, a4.2, mp, kO, a6.1, a6.2, x.listsM mm, x.waysM mm, ?_, x.bytesM mm fun _ => by nofun, x.once.1, x.once.2.1, x.once.2.2.1, x.once.2.2.2.1.set _ _, x.once.2.2.2.2⟩, mm⟩
  refine Rows.set (R' := OwnK h2 (tagged o s (some (.kn q)))) ⟨bu.moved m2 fun c f t e hT => ?_, fun c f => tagged_in f⟩ x.knownR (by rw [x.knownR.keys]; exact x.once.2.2.2.1) fun k' _ _ hk z => z.moved mm ?_
  · rw [tagged_in f] at e; cases e; cases hT
  · rintro (e | e)
    · exact hk (by injection e)
    · cases e
/-- A live token. -/
theorem BookAt.setLive (x : BookAt h o p S m L) {c : S_api_Cap} {t : S_book_token} (b : But (· = m.live) h h2) (d : ∀ c, h2 c = none → h c = none) (mp : MapOf S_api_Cap.val S_book_token.val h2 m.live (aset S.live c t)) :
    BookAt h2 o p { S with live := aset S.live c t } m L ∧ Moved (· = .live) o o h h2 := by
  have m2 : Moved (· = .live) o o h h2 := .one b d x.liveO
  have a1 := x.cellM m2 (by nofun)
  have a3 := m2.map (by nofun) x.lists x.listsO
  have a4 := m2.map (by nofun) x.ways x.waysO
  have a5 := m2.map (by nofun) x.known x.knownO
  have a6 := m2.map (by nofun) x.bytes x.bytesO
  exact ⟨⟨a1.1, a1.2, mp, x.liveO, a3.1, a3.2, a4.1, a4.2, a5.1, a5.2, a6.1, a6.2, x.listsM m2, x.waysM m2, x.knownM m2 fun _ => by nofun, x.bytesM m2 fun _ => by nofun, x.once.1.set _ _, x.once.2⟩, m2⟩
/-- The count of steps. -/
theorem BookAt.setSteps (x : BookAt h o p S m L) (n : Int) : BookAt (upd h p (.cells (S_book_Book.cells (m.book n)).toArray N_book_Book (0, 0))) o p { S with steps := n } m L ∧ Moved (· = .cell) o o h (upd h p (.cells (S_book_Book.cells (m.book n)).toArray N_book_Book (0, 0))) := by
  have m2 : Moved (· = .cell) o o h (upd h p (.cells (S_book_Book.cells (m.book n)).toArray N_book_Book (0, 0))) := .one (But.upd rfl) (fun c e => (upd_none.1 e).2) x.cellO
  have a2 := m2.map (by nofun) x.live x.liveO
  have a3 := m2.map (by nofun) x.lists x.listsO
  have a4 := m2.map (by nofun) x.ways x.waysO
  have a5 := m2.map (by nofun) x.known x.knownO
  have a6 := m2.map (by nofun) x.bytes x.bytesO
  exact ⟨⟨upd_same _ _ _, x.cellO, a2.1, a2.2, a3.1, a3.2, a4.1, a4.2, a5.1, a5.2, a6.1, a6.2, x.listsM m2, x.waysM m2, x.knownM m2 fun _ => by nofun, x.bytesM m2 fun _ => by nofun, x.once⟩, m2⟩
/-- What a telling does. -/
def BookS.tell (S : BookS) (wl : List S_book_Link) (l : S_book_Link) : BookS :=
  if (alook S.ways ⟨l.To, l.Cap⟩).isSome = true then S
  else { S with ways := aset S.ways ⟨l.To, l.Cap⟩ (wl ++ [⟨S.steps, l.Kind, l.By, l.To, l.Cap⟩]), known := aset S.known l.To ((alook S.known l.To).getD [] ++ [l.Cap]) }
theorem t_tell (x : BookAt h o p S m L) {s : Sl} {wl : List S_book_Link} {l : S_book_Link} (sw : Arr S_book_Link.cells h s wl) (room : wl.length ≤ 2 ^ 40) (roomK : ((alook S.known l.To).getD []).length ≤ 2 ^ 40) {K : Unit → H → Prop}
    (y : ∀ h' o' L', BookAt h' o' p (S.tell wl l) m L' → Moved (· ≠ .scratch) o o' h h' → K () h') : m_book_Book_tell (some ⟨p, 0, none⟩) s l K h := by
  unfold m_book_Book_tell
  refine w_deref (w_load x.f3 (t_lookW x ?_))
  refine w_if (fun c => ?_) fun c => ?_
  · refine y h o L ?_ (.refl _ _ _)
    unfold BookS.tell
    rw [if_pos (by rw [← ways_some x]; exact c)]; exact x
  have hn : ¬ (alook S.ways ⟨l.To, l.Cap⟩).isSome = true := by rw [← ways_some x]; exact fun q => by rw [show (alook L.ways ⟨l.To, l.Cap⟩).isSome = false from c] at q; cases q
  unfold BookS.tell at y
  rw [if_neg hn] at y
  refine w_deref (w_load x.f0 (w_deref ?_))
  let l' : S_book_Link := ⟨S.steps, l.Kind, l.By, l.To, l.Cap⟩
  have ld : ∀ {h1 : H}, Keeps h h1 → ∀ {K : Option Nat → H → Prop}, K (some m.ways) h1 → mLoad cMap ((⟨p, 0, none⟩ : Addr).add 3) K h1 := fun k _ r => w_load (x.f3.keep k) r
  have clone : ∀ {h1 : H}, Keeps h h1 → ∀ {K : Sl → H → Prop}, (∀ s1 h2, Buf S_book_Link.cells 7 N_book_Link h2 s1 wl → Keeps h h2 → (∀ c, s1.foot c → h c = none) → K s1 h2) → m_slices_Clone_book_Link_book_Link s K h1 := fun k _ r => by
    unfold m_slices_Clone_book_Link_book_Link
    exact w_clone link_len link_plain rfl (sw.keep k) (by omega) fun s1 h2 bu k2 f => r s1 h2 bu (k.trans k2) fun c hc => k.fresh (f c hc)
  have app : ∀ {h1 : H} {s1 : Sl}, Buf S_book_Link.cells 7 N_book_Link h1 s1 wl → Keeps h h1 → (∀ c, s1.foot c → h c = none) → ∀ {K : Sl → H → Prop}, (∀ s2 h2, Buf S_book_Link.cells 7 N_book_Link h2 s2 (wl ++ [l']) → Keeps h h2 → (∀ c, s2.foot c → h c = none) → K s2 h2) → mApp N_book_Link 7 56 #[(Value.int .i64 0), (Value.int .i64 0), (Value.int .i64 0), (Value.int .i64 0), (Value.int .i64 0), (Value.int .u64 0), (Value.int .u64 0)] 1 (S_book_Link.cells l') s1 K h1 := fun bu k f _ r =>
    w_app link_len rfl bu [l'] (by simp [flat]) rfl (.inl (by simp only [List.length_singleton]; omega)) fun s2 h2 bu2 b2 f2 d2 => r s2 h2 bu2 (k.but b2 f) fun c hc => (f2 c hc).elim (f c) fun q => k.fresh q
  refine w_joinP (fun z h1 => z.1 = some m.ways ∧ Buf S_book_Link.cells 7 N_book_Link h1 z.2 (wl ++ [l']) ∧ Keeps h h1 ∧ ∀ c, z.2.foot c → h c = none) (fun j hj => ?_) ?_
  · have J : ∀ {h1 : H} {s1 : Sl}, Buf S_book_Link.cells 7 N_book_Link h1 s1 (wl ++ [l']) → Keeps h h1 → (∀ c, s1.foot c → h c = none) → j (some m.ways, s1) h1 := fun a b c => hj _ _ ⟨rfl, a, b, c⟩
    refine w_both (ld (.refl h) (w_both (clone (.refl h) fun s1 h1 b1 k1 f1 => app b1 k1 f1 fun s2 h2 b2 k2 f2 => J b2 k2 f2) (clone (.refl h) fun s1 h1 b1 k1 f1 => app b1 k1 f1 fun s2 h2 b2 k2 f2 => J b2 k2 f2))) (w_both (clone (.refl h) fun s1 h1 b1 k1 f1 => w_both (ld k1 (app b1 k1 f1 fun s2 h2 b2 k2 f2 => J b2 k2 f2)) (app b1 k1 f1 fun s2 h2 b2 k2 f2 => ld k2 (J b2 k2 f2))) (w_both (ld (.refl h) (clone (.refl h) fun s1 h1 b1 k1 f1 => app b1 k1 f1 fun s2 h2 b2 k2 f2 => J b2 k2 f2)) (clone (.refl h) fun s1 h1 b1 k1 f1 => w_both (ld k1 (app b1 k1 f1 fun s2 h2 b2 k2 f2 => J b2 k2 f2)) (app b1 k1 f1 fun s2 h2 b2 k2 f2 => ld k2 (J b2 k2 f2)))))
  rintro ⟨z1, z2⟩ h1 ⟨rfl, bu, k1, f1⟩
  refine w_mapSet key_whom (x.ways.keep k1) rfl rfl fun h2 mp b2 d2 => ?_
  obtain ⟨x2, mv2⟩ := x.setWays k1 bu f1 b2 d2 mp
  refine w_deref (w_deref (w_load x2.f4 (w_lookup (key_int (by kernel_rfl)) x2.known ?_)))
  have own := x2.knowns l.To
  have ld : ∀ {h3 : H}, But ((alook L.known l.To).getD Sl.nil).foot h2 h3 → ∀ {K : Option Nat → H → Prop}, K (some m.known) h3 → mLoad cMap ((⟨p, 0, none⟩ : Addr).add 4) K h3 := fun k _ r => w_load (x2.f4.but k fun f => by have := own.mine _ f; rw [add_block] at this; rw [show tagged o z2 none p = some .cell from x2.cellO] at this; cases this) r
  have app : ∀ {K : Sl → H → Prop}, (∀ s2 h3, Buf S_api_Cap.cells 3 N_api_Cap h3 s2 ((alook S.known l.To).getD [] ++ [l.Cap]) → But ((alook L.known l.To).getD Sl.nil).foot h2 h3 → (∀ c, s2.foot c → ((alook L.known l.To).getD Sl.nil).foot c ∨ h2 c = none) → (∀ c, h3 c = none → h2 c = none) → K s2 h3) → mApp N_api_Cap 3 24 #[(Value.int .i64 0), (Value.int .u64 0), (Value.int .u64 0)] 1 (S_api_Cap.cells l.Cap) ((alook L.known l.To).getD Sl.nil) K h2 := fun r =>
    w_app cap_len rfl own.buf [l.Cap] (by simp [flat]) rfl (.inl (by simp only [List.length_singleton]; omega)) r
  refine w_joinP (fun z h3 => z.1 = some m.known ∧ Buf S_api_Cap.cells 3 N_api_Cap h3 z.2 ((alook S.known l.To).getD [] ++ [l.Cap]) ∧ But ((alook L.known l.To).getD Sl.nil).foot h2 h3 ∧ (∀ c, z.2.foot c → ((alook L.known l.To).getD Sl.nil).foot c ∨ h2 c = none) ∧ (∀ c, h3 c = none → h2 c = none)) (fun j hj => ?_) ?_
  · exact w_both (ld (.refl _ _) (app fun s2 h3 b3 k3 f3 d3 => hj _ _ ⟨rfl, b3, k3, f3, d3⟩)) (app fun s2 h3 b3 k3 f3 d3 => ld k3 (hj _ _ ⟨rfl, b3, k3, f3, d3⟩))
  rintro ⟨y1, y2⟩ h3 ⟨rfl, b3, k3, f3, d3⟩
  refine w_mapSet (key_int (by kernel_rfl)) (x2.known.but k3 fun f => ?_) rfl rfl fun h4 mp4 b4 d4 => ?_
  · have := own.mine _ f; rw [x2.knownO] at this; cases this
  obtain ⟨x4, mv4⟩ := x2.setKnown k3 b3 f3 d3 b4 d4 mp4
  exact y h4 _ _ x4 ((mv2.trans mv4).mono fun t ht => by rcases ht with rfl | rfl | rfl <;> nofun)
end
end Go.Proofs.Ytnmaknkbdfpbkaa.K
