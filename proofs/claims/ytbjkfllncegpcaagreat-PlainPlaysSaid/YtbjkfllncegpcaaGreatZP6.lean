/- plainPlays: true at every input, the arguments as they were: no condition. Part 6 of 6. -/
import Derived.Test.YtbjkfllncegpcaaGreatZP5
namespace Go.Proofs.YtbjkfllncegpcaaGreat.K
open Go
section
variable {T : Type}
def filI (P : Nat → T → Bool) : Nat → List T → List T
  | _, [] => []
  | i, a :: r => if P i a = true then a :: filI P (i + 1) r else filI P (i + 1) r
theorem filI_len (P : Nat → T → Bool) : ∀ (i : Nat) (l : List T), (filI P i l).length ≤ l.length
  | _, [] => Nat.le_refl _
  | i, a :: r => by
    have := filI_len P (i + 1) r
    rw [filI]; split <;> simp only [List.length_cons] <;> omega
theorem filI_app (P : Nat → T → Bool) : ∀ (i : Nat) (l k : List T), filI P i (l ++ k) = filI P i l ++ filI P (i + l.length) k
  | i, [], k => rfl
  | i, a :: r, k => by
    rw [List.cons_append, filI, filI, filI_app P (i + 1) r k, List.length_cons, show i + 1 + r.length = i + (r.length + 1) by omega]
    split <;> rfl
theorem filI_all {Q : T → Bool} : ∀ (i : Nat) (l : List T), filI (fun _ => Q) i l = l.filter Q
  | _, [] => rfl
  | i, a :: r => by rw [filI, List.filter_cons, filI_all (i + 1) r]
theorem filI_era (n : Nat) : ∀ (i : Nat) (l : List T), filI (fun j _ => !decide (j = i + n)) i l = l.eraseIdx n
  | _, [] => rfl
  | i, a :: r => by
    rw [filI]
    cases n with
    | zero =>
      rw [if_neg (by simp)]
      show filI _ (i + 1) r = r
      have : ∀ (k : Nat) (l : List T), i < k → filI (fun j _ => !decide (j = i + 0)) k l = l := by
        intro k l
        induction l generalizing k with
        | nil => intro _; rfl
        | cons b s ih =>
          intro hk
          rw [filI, if_pos (by simp; omega), ih (k + 1) (by omega)]
      exact this (i + 1) r (by omega)
    | succ n =>
      rw [if_pos (by simp)]
      have := filI_era n (i + 1) r
      rw [show i + 1 + n = i + (n + 1) by omega] at this
      show a :: filI _ (i + 1) r = a :: r.eraseIdx n
      rw [this]
theorem w_filter {cells : T → List Value} {sz by_ : Nat} {e : TypeId} (hs : ∀ x, (cells x).length = sz) {zero : Array Value} (hz : zero.size = sz) {h : H} (src : (Sl → H → Prop) → H → Prop) (test : Int → (Bool → H → Prop) → H → Prop) {v : Sl} {xs : List T} (P : Nat → T → Bool)
    (hsrc : ∀ hh (k : Sl → H → Prop), Keeps h hh → k v hh → src k hh) (htest : ∀ (i : Nat) t hh (k : Bool → H → Prop), xs[i]? = some t → Keeps h hh → k (P i t) hh → test i k hh) (ar : Arr cells h v xs) (hn : xs.length ≤ 2 ^ 20) (room : (2 * (xs.length + 1) + 192) * by_ ≤ 2 ^ 48) {E : Sl × Int → H → Prop}
    (y : ∀ s' h', Buf cells sz e h' s' (filI P 0 xs) → Keeps h h' → (∀ c, s'.foot c → h c = none) → E (s', (xs.length : Int)) h') :
    mLoop (fun (rec : (Sl × Int) → H → Prop) (s : Sl × Int) => src fun x => mIf (decide (s.2 < (x.len : Int))) (test s.2 fun b => mIf b (src fun x' => mIdx x' s.2 sz fun ad => mLoad cells ad fun z => mApp e sz by_ zero 1 (cells z) s.1 fun s' => rec (s', (iAdd .i64 s.2 1))) (rec (s.1, (iAdd .i64 s.2 1)))) (E s)) (Sl.nil, 0) h := by
  have al := ar.len
  refine w_for xs.length (fun i (z : Sl × Int) hh => ∃ sg, z = (sg, (i : Int)) ∧ Buf cells sz e hh sg (filI P 0 (xs.take i)) ∧ Keeps h hh ∧ ∀ c, sg.foot c → h c = none) ?_ ⟨Sl.nil, rfl, by rw [List.take_zero]; exact Buf.nil, .refl _, fun _ ⟨_, q, _⟩ => (by cases q)⟩
  rintro rec i _ hh hi ⟨sg, rfl, bg, kh, fg⟩ more
  refine hsrc hh _ kh (w_if' (fun q => ?_) fun q => ?_)
  · have q : (i : Int) < (v.len : Int) := q
    have hil : i < xs.length := by omega
    have ht := List.getElem?_eq_getElem hil
    generalize xs[i] = t at ht
    have fs : filI P 0 (xs.take (i + 1)) = filI P 0 (xs.take i) ++ (if P i t = true then [t] else []) := by
      rw [List.take_add_one, ht, filI_app, List.length_take, Nat.min_eq_left (by omega), Nat.zero_add]
      show _ ++ filI P i [t] = _
      rw [filI]; rfl
    have fl := filI_len P 0 (xs.take i)
    rw [List.length_take] at fl
    refine htest i t hh _ ht kh (w_if (fun q1 => ?_) fun q1 => ?_)
    · rw [if_pos q1] at fs
      refine hsrc hh _ kh (w_get hs (ar.keep kh) ht rfl rfl ?_)
      refine w_app hs hz bg [t] (by simp [flat]) rfl (.inl (Nat.le_trans (Nat.mul_le_mul_right _ (by simp only [List.length_singleton]; omega)) room)) fun s2 h2 b2 bt2 f2 d2 => ?_
      exact more _ _ hil ⟨s2, by rw [ia1 i (by omega)], by rw [fs]; exact b2, kh.but bt2 fun c g => fg c g, fun c g => (f2 c g).elim (fg c) fun z => kh.fresh z⟩
    · rw [if_neg (by rw [q1]; decide), List.append_nil] at fs
      exact more _ _ hil ⟨sg, by rw [ia1 i (by omega)], by rw [fs]; exact bg, kh, fg⟩
  · have q : ¬ (i : Int) < (v.len : Int) := q
    have ei : i = xs.length := by omega
    rw [ei, List.take_length] at bg
    rw [ei]
    exact y sg hh bg kh fg
end
theorem adel_filter {V : Type} {k : Int} : ∀ {l : List (Int × V)}, Once l → adel l k = l.filter fun q => !decide (q.1 = k)
  | [], _ => rfl
  | (a, w) :: r, o => by
    unfold Once at o
    rw [List.map_cons, List.nodup_cons] at o
    rw [adel_cons, List.filter_cons]
    by_cases c : k = a
    · rw [if_pos c, if_neg (by simp [c])]
      refine (List.filter_eq_self.2 fun q hq => ?_).symm
      have : q.1 ≠ k := fun e => o.1 (by rw [← c, ← e]; exact List.mem_map_of_mem (f := (·.1)) hq)
      simp [this]
    · rw [if_neg c, if_pos (by simp; exact fun e => c e.symm), adel_filter o.2]
section
variable {h h' : H} {p : Nat} {sd st vo vp : Sl} {so sl : List (Int × Sl)} {F F' G : Nat → Prop} {m m' : MdS}
theorem RMA.setT (x : RMA h p sd st vo vp so sl F m) {s : Sl} {ts' : List Tk} (b : Buf cHd 6 N_ref21_Held h s (ts'.map heldOf)) {k : H → Prop} (y : ∀ h', RMA h' p sd s vo vp so sl (fun c => F c ∨ s.foot c) { m with ts := ts' } → But (· = p) h h' → (∀ c, h' c = none → h c = none) → k h') : mStore ((⟨p, 0, none⟩ : Addr).add 13) [Sl.val s] k h := by
  refine x.put (m' := { m with ts := ts' }) (st' := s) (vo' := vo) (vp' := vp) (l1 := x.cs.take 13) (l2 := cSl st) (l3 := x.cs.drop 14) (new := [Sl.val s]) rfl rfl rfl rfl fun h' c b' d => y h' ?_ b' d
  have nG : OfT (fun _ => false) h p (· = p) := fun c e => .inl e
  have bb := b.but b' fun ad ha e => (b.typed ⟨ad, ha, rfl⟩).ne x.tagP (by decide) e
  exact ⟨c, x.kDr b' nG rfl, bb, x.kMo b' nG rfl, x.kMl b' nG rfl, (x.kOb b' nG rfl).mono fun _ g => .inl g, (x.kLs b' nG rfl).mono fun _ g => .inl g, .inl x.fp, fun c g => .inl (x.fd c g), fun c g => .inr g, fun c g => .inl (x.fo c g), fun c g => .inl (x.fl c g), fun c g => g.elim (fun g z => x.has c g (d c z)) fun g => bb.has g⟩
theorem RMA.setO (x : RMA h p sd st vo vp so sl F m) {s : Sl} {so' : List (Int × Sl)} {ob' : List (Int × List UInt8)} (b : Buf S_api_Object.cells 2 N_api_Object h s (so'.map fun q => ⟨q.1, q.2⟩)) (r : Rows cU8 1 N_u8 h F so' ob') {k : H → Prop} (y : ∀ h', RMA h' p sd st s vp so' sl (fun c => F c ∨ s.foot c) { m with ob := ob' } → But (· = p) h h' → (∀ c, h' c = none → h c = none) → k h') : mStore ((⟨p, 0, none⟩ : Addr).add 12) [Sl.val s] k h := by
  refine x.put (m' := { m with ob := ob' }) (st' := st) (vo' := s) (vp' := vp) (l1 := x.cs.take 12) (l2 := cSl vo) (l3 := x.cs.drop 13) (new := [Sl.val s]) rfl rfl rfl rfl fun h' c b' d => y h' ?_ b' d
  have nG : OfT (fun _ => false) h p (· = p) := fun c e => .inl e
  have bb := b.but b' fun ad ha e => (b.typed ⟨ad, ha, rfl⟩).ne x.tagP (by decide) e
  have rr := r.but b' fun _ _ q _ g e => (r.typed q g).ne x.tagP (by decide) e
  exact ⟨c, x.kDr b' nG rfl, x.kTs b' nG rfl, bb, x.kMl b' nG rfl, rr.mono fun _ g => .inl g, (x.kLs b' nG rfl).mono fun _ g => .inl g, .inl x.fp, fun c g => .inl (x.fd c g), fun c g => .inl (x.ft c g), fun c g => .inr g, fun c g => .inl (x.fl c g), fun c g => g.elim (fun g z => x.has c g (d c z)) fun g => bb.has g⟩
theorem RMA.setP (x : RMA h p sd st vo vp so sl F m) {s : Sl} {sl' : List (Int × Sl)} {ls' : List (Int × List S_api_Cap)} (b : Buf S_api_Process.cells 2 N_api_Process h s (sl'.map fun q => ⟨q.1, q.2⟩)) (r : Rows cCp 3 N_api_Cap h F sl' ls') {k : H → Prop} (y : ∀ h', RMA h' p sd st vo s so sl' (fun c => F c ∨ s.foot c) { m with ls := ls' } → But (· = p) h h' → (∀ c, h' c = none → h c = none) → k h') : mStore ((⟨p, 0, none⟩ : Addr).add 14) [Sl.val s] k h := by
  refine x.put (m' := { m with ls := ls' }) (st' := st) (vo' := vo) (vp' := s) (l1 := x.cs.take 14) (l2 := cSl vp) (l3 := x.cs.drop 15) (new := [Sl.val s]) rfl rfl rfl rfl fun h' c b' d => y h' ?_ b' d
  have nG : OfT (fun _ => false) h p (· = p) := fun c e => .inl e
  have bb := b.but b' fun ad ha e => (b.typed ⟨ad, ha, rfl⟩).ne x.tagP (by decide) e
  have rr := r.but b' fun _ _ q _ g e => (r.typed q g).ne x.tagP (by decide) e
  exact ⟨c, x.kDr b' nG rfl, x.kTs b' nG rfl, x.kMo b' nG rfl, bb, (x.kOb b' nG rfl).mono fun _ g => .inl g, rr.mono fun _ g => .inl g, .inl x.fp, fun c g => .inl (x.fd c g), fun c g => .inl (x.ft c g), fun c g => .inl (x.fo c g), fun c g => .inr g, fun c g => g.elim (fun g z => x.has c g (d c z)) fun g => bb.has g⟩
theorem filI_held {P : Nat → S_ref21_Held → Bool} {Q : Tk → Bool} (e : ∀ i t, P i (heldOf t) = Q t) : ∀ (i : Nat) (l : List Tk), filI P i (l.map heldOf) = (l.filter Q).map heldOf
  | _, [] => rfl
  | i, a :: r => by
    rw [List.map_cons, filI, filI_held e (i + 1) r, e, List.filter_cons]
    split <;> rfl
theorem t_rWithout (x : RM h p F m) (i : MSI m) {o : Int} {K : Unit → H → Prop} (y : ∀ h' F', RM h' p F' (goneO m o) → KChg F F' h h' → K () h') : m_ref21_Model_without (some ⟨p, 0, none⟩) o K h := by
  obtain ⟨sd, st, vo, vp, so, sl, x⟩ := x
  unfold m_ref21_Model_without
  have slen := x.lenO
  have obn := i.obn
  have tsn := i.tsn
  refine w_filter (cells := S_api_Object.cells) (sz := 2) (by_ := 32) (e := N_api_Object) ob_len rfl (fun k => mDeref (some ⟨p, 0, none⟩) fun ad => mLoad cSl (ad.add 12) k)
    (fun i k => mDeref (some ⟨p, 0, none⟩) fun ad5 => mLoad cSl (ad5.add 12) fun x6 => mIdx x6 i 2 fun ad7 => mLoad (cInt .i64) (ad7.add 0) fun x8 => k (!decide (x8 = o))) (v := vo) (fun _ t => !decide (t.Id = o))
    (fun hh k kh z => w_deref (w_load (x.keep kh).f12 z))
    (fun i t hh k ht kh z => w_deref (w_load (x.keep kh).f12 (w_field ob_len (x.keep kh).mo.arr ht rfl (v' := t.Id) (cells' := cInt .i64) (l1 := []) (l3 := (S_api_Object.cells t).drop 1) rfl rfl z)))
    x.mo.arr (by rw [List.length_map]; omega) (by rw [List.length_map]; omega) fun s1 h1 b1 k1 f1 => ?_
  have x1 := x.keep k1
  have e1 : filI (fun _ (t : S_api_Object) => !decide (t.Id = o)) 0 (so.map fun q => (⟨q.1, q.2⟩ : S_api_Object)) = (adel so o).map fun q => (⟨q.1, q.2⟩ : S_api_Object) := by
    rw [filI_all, adel_filter x.ob.onceS, List.filter_map]; rfl
  rw [e1] at b1
  refine w_filter (cells := cHd) (sz := 6) (by_ := 48) (e := N_ref21_Held) hd_len rfl (fun k => mDeref (some ⟨p, 0, none⟩) fun ad => mLoad cSl (ad.add 13) k)
    (fun i k => mDeref (some ⟨p, 0, none⟩) fun ad5 => mLoad cSl (ad5.add 13) fun x6 => mIdx x6 i 6 fun ad7 => mLoad (cInt .i64) ((ad7.add 2).add 0) fun x8 => k (!decide (x8 = o))) (v := st) (fun _ t => !decide (t.Cap.Obj = o))
    (fun hh k kh z => w_deref (w_load (x1.keep kh).f13 z))
    (fun i t hh k ht kh z => w_deref (w_load (x1.keep kh).f13 (w_idx hd_len (x1.keep kh).ts.arr ht rfl fun a _ ha => w_load (v := t.Cap.Obj) (by rw [add_zero]; exact ha.sub (l1 := (cHd t).take 2) (l2 := cInt .i64 t.Cap.Obj) (l3 := (cHd t).drop 3) rfl) z)))
    x1.ts.arr (by rw [List.length_map]; omega) (by rw [List.length_map]; omega) fun s2 h2 b2 k2 f2 => ?_
  have x2 := x1.keep k2
  rw [filI_held (Q := fun t => !decide (t.xcap.Obj = o)) (fun _ _ => rfl)] at b2
  have b12 := b1.keep k2
  refine w_deref (x2.setO b12 (x2.ob.del o) fun h3 x3 bt3 d3 => w_deref ?_)
  have b23 := b2.but bt3 fun ad ha e => (b2.typed ⟨ad, ha, rfl⟩).ne x2.tagP (by decide) e
  refine x3.setT b23 fun h4 x4 bt4 d4 => y h4 _ ⟨_, _, _, _, _, _, x4⟩ ⟨((But.of (k1.trans k2)).trans bt3 fun c e => ?_).trans bt4 fun c e => ?_, fun c g => ?_, fun c z => k1.fresh (k2.fresh (d3 c (d4 c z)))⟩
  · rw [e]; exact .inl x.fp
  · rw [e]; exact .inl x.fp
  · rcases g with (g | g) | g
    · exact .inl g
    · exact .inr (f1 c g)
    · exact .inr (k1.fresh (f2 c g))
end
section
variable {h h' : H} {p : Nat} {sd st vo vp : Sl} {so sl : List (Int × Sl)} {F F' G : Nat → Prop} {m m' : MdS}
def awayO (m : MdS) (c : S_api_Cap) (op : Int) : RpV × MdS := if op = 2 then destroyO m c else revokeO m c
def needO (op : Int) : Int := if op = 2 then 16 else 8
theorem away_none {c : S_api_Cap} {op : Int} (e : findT m.ts c = none) : awayO m c op = (refO 3, m) := by
  unfold awayO destroyO revokeO
  rw [givenT_none e, givenT_none e]
  split <;> rfl
theorem away_bad {c : S_api_Cap} {op : Int} {t : Tk} (e : findT m.ts c = some t) (q : partOf (needO op) t.xrights = false) : awayO m c op = (refO 4, m) := by
  unfold awayO destroyO revokeO
  unfold needO at q
  by_cases c : op = 2
  · rw [if_pos c] at q ⊢
    rw [givenT_some e, if_neg (by rw [q]; decide)]
  · rw [if_neg c] at q ⊢
    rw [givenT_some e, if_neg (by rw [q]; decide)]
theorem away_gone {c : S_api_Cap} {op : Int} {t : Tk} (e : findT m.ts c = some t) (q : partOf (needO op) t.xrights = true) (r : op = 2 ∨ t.xparent = 0) : awayO m c op = (refO 0, goneO m c.Obj) := by
  have hc := (find_mem e).2
  unfold awayO destroyO revokeO
  unfold needO at q
  by_cases c : op = 2
  · rw [if_pos c] at q ⊢
    rw [givenT_some e, if_pos q]
    show (refO 0, goneO m t.xcap.Obj) = _
    rw [hc]
  · rw [if_neg c] at q ⊢
    rw [givenT_some e, if_pos q]
    show (if t.xparent = 0 then (refO 0, goneO m t.xcap.Obj) else _) = _
    rw [if_pos (r.resolve_left c), hc]
theorem away_sub {c : S_api_Cap} {op : Int} {t : Tk} (e : findT m.ts c = some t) (q : partOf (needO op) t.xrights = true) (r : ¬ (op = 2 ∨ t.xparent = 0)) : awayO m c op = (refO 0, { m with ts := m.ts.filter fun x => !decide (x.xname ∈ namesO m.ts t.xname) }) := by
  rw [not_or] at r
  unfold awayO destroyO revokeO
  unfold needO at q
  rw [if_neg r.1] at q ⊢
  rw [givenT_some e, if_pos q]
  show (if t.xparent = 0 then (refO 0, goneO m t.xcap.Obj) else _) = _
  rw [if_neg r.2]
theorem t_rAway (x : RM h p F m) (i : MSI m) (mk : MSK m) {c : S_api_Call} {K : S_api_Reply → H → Prop} (y : ∀ h' F', RM h' p F' (awayO m c.Cap c.Op).2 → KChg F F' h h' → K ⟨(awayO m c.Cap c.Op).1.code, cap0, Sl.nil, 0⟩ h') : m_ref21_Model_away (some ⟨p, 0, none⟩) c K h := by
  unfold m_ref21_Model_away
  have x0 := x
  obtain ⟨sd, st, vo, vp, so, sl, x⟩ := x
  have hn := i.tsn'
  have tn := i.tsn
  have kc : KChg F F h h := .refl F h
  refine t_rLive x hn (fun e => ?_) fun n t ht e => ?_
  · rw [away_none e] at y
    exact w_ifT rfl (w_pure _ (fun _ _ z => z) (y h F x0 kc))
  have hm := (find_mem e).1
  have ht' : (m.ts.map heldOf)[n]? = some (heldOf t) := by rw [List.getElem?_map, ht]; rfl
  refine w_ifF (decide_eq_false (by omega)) (w_joinV (needO c.Op) (fun j hj => ?_) (w_deref (w_load x.f13 (w_field hd_len x.ts.arr ht' rfl (v' := t.xrights) (cells' := cInt .i64) (l1 := (cHd (heldOf t)).take 5) (l3 := []) rfl rfl (w_if' (fun q => ?_) fun q => ?_)))))
  · unfold needO at hj
    exact w_if' (fun q => by rw [if_pos q] at hj; exact hj) fun q => by rw [if_neg q] at hj; exact hj
  · rw [nz_all (mk.rgt t hm) (by unfold needO; split <;> simp)] at q
    rw [away_bad e q] at y
    exact w_pure _ (fun _ _ z => z) (y h F x0 kc)
  rw [nz_all (mk.rgt t hm) (by unfold needO; split <;> simp), Bool.not_eq_false] at q
  refine w_joinV (decide (c.Op = 2 ∨ t.xparent = 0)) (fun j hj => ?_) (w_if' (fun q1 => ?_) fun q1 => ?_)
  · refine w_if' (fun q1 => ?_) fun q1 => w_deref (w_load x.f13 (w_field hd_len x.ts.arr ht' rfl (v' := t.xparent) (cells' := cInt .i64) (l1 := (cHd (heldOf t)).take 1) (l3 := (cHd (heldOf t)).drop 2) rfl rfl ?_))
    · rw [decide_eq_true (.inl q1)] at hj; exact hj
    · have e1 : decide (c.Op = 2 ∨ t.xparent = 0) = decide (t.xparent = 0) := decide_eq_decide.2 ⟨fun z => z.resolve_left q1, .inr⟩
      rw [e1] at hj; exact hj
  · rw [away_gone e q q1] at y
    exact t_rWithout x0 i fun h' F' x' k' => y h' F' x' k'
  rw [away_sub e q q1] at y
  refine w_deref (w_load x.f13 (w_field hd_len x.ts.arr ht' rfl (v' := t.xname) (cells' := cInt .i64) (l1 := []) (l3 := (cHd (heldOf t)).drop 1) rfl rfl (w_box fun b4 h2 hb4 q2 k2 => ?_)))
  have bn2 : Buf (cInt .i64) 1 N_int h2 ⟨some ⟨b4, 0, none⟩, 1, 1⟩ [t.xname] := Buf.one ci_len q2
  refine w_for m.ts.length (fun j (z : Sl × Int) hh => ∃ sn, z = (sn, (j : Int)) ∧ Keeps h hh ∧ Buf (cInt .i64) 1 N_int hh sn ((m.ts.take j).foldl nameF [t.xname]) ∧ ∀ c, sn.foot c → h c = none) ?_
    ⟨_, rfl, k2, bn2, fun c ⟨ad, ha, e⟩ => (by cases ha; rw [← e]; exact hb4)⟩
  rintro rec j _ hh hj ⟨sn, rfl, kh, bh, fh⟩ more
  have xh := x.keep kh
  have hl := x.ts.len
  rw [List.length_map] at hl
  have nlen := names_len (m.ts.take j) [t.xname]
  rw [List.length_take, List.length_singleton] at nlen
  refine w_deref (w_load xh.f13 (w_if' (fun c0 => ?_) fun c0 => ?_))
  · have c0 : (j : Int) < (st.len : Int) := c0
    have hjl : j < m.ts.length := by omega
    have hu := List.getElem?_eq_getElem hjl
    generalize m.ts[j] = u at hu
    have hu' : (m.ts.map heldOf)[j]? = some (heldOf u) := by rw [List.getElem?_map, hu]; rfl
    have fs : (m.ts.take (j + 1)).foldl nameF [t.xname] = nameF ((m.ts.take j).foldl nameF [t.xname]) u := by rw [List.take_add_one, hu, List.foldl_append]; rfl
    refine w_deref (w_load xh.f13 (w_field hd_len xh.ts.arr hu' rfl (v' := u.xparent) (cells' := cInt .i64) (l1 := (cHd (heldOf u)).take 1) (l3 := (cHd (heldOf u)).drop 2) rfl rfl (t_rAmong bh.arr (by omega) (w_if' (fun q5 => ?_) fun q5 => ?_))))
    · refine w_deref (w_load xh.f13 (w_field hd_len xh.ts.arr hu' rfl (v' := u.xname) (cells' := cInt .i64) (l1 := []) (l3 := (cHd (heldOf u)).drop 1) rfl rfl ?_))
      refine w_app ci_len rfl bh [u.xname] rfl rfl (.inl (by show (2 * (_ + 1) + 192) * 8 ≤ 2 ^ 48; omega)) fun s6 h6 b6 bt6 f6 d6 => ?_
      refine more _ _ hjl ⟨s6, by rw [ia1 j (by omega)], kh.but bt6 fun c g => fh c g, ?_, fun c g => (f6 c g).elim (fh c) fun z => kh.fresh z⟩
      rw [fs, nameF, if_pos q5]; exact b6
    · refine more _ _ hjl ⟨sn, by rw [ia1 j (by omega)], kh, ?_, fh⟩
      rw [fs, nameF, if_neg q5]; exact bh
  have c0 : ¬ (j : Int) < (st.len : Int) := c0
  rw [List.take_of_length_le (by omega)] at bh
  have en : m.ts.foldl nameF [t.xname] = namesO m.ts t.xname := rfl
  rw [en] at bh
  have nl : (namesO m.ts t.xname).length ≤ 2 ^ 40 := by
    have := names_len m.ts [t.xname]
    rw [en, List.length_singleton] at this
    omega
  refine w_filter (cells := cHd) (sz := 6) (by_ := 48) (e := N_ref21_Held) hd_len rfl (fun k => mDeref (some ⟨p, 0, none⟩) fun ad => mLoad cSl (ad.add 13) k)
    (fun i k => mDeref (some ⟨p, 0, none⟩) fun ad5 => mLoad cSl (ad5.add 13) fun x6 => mIdx x6 i 6 fun ad7 => mLoad (cInt .i64) (ad7.add 0) fun x8 => m_ref21_among sn x8 fun r => k (!r)) (v := st) (fun _ t' => !decide (t'.No ∈ namesO m.ts t.xname))
    (fun h1 k k1 z => w_deref (w_load (xh.keep k1).f13 z))
    (fun i u h1 k hu k1 z => w_deref (w_load (xh.keep k1).f13 (w_field hd_len (xh.keep k1).ts.arr hu rfl (v' := u.No) (cells' := cInt .i64) (l1 := []) (l3 := (cHd u).drop 1) rfl rfl (t_rAmong (bh.keep k1).arr nl z))))
    xh.ts.arr (by rw [List.length_map]; omega) (by rw [List.length_map]; omega) fun s2 h3 b3 k3 f3 => ?_
  have x3 := xh.keep k3
  rw [filI_held (Q := fun u => !decide (u.xname ∈ namesO m.ts t.xname)) (fun _ _ => rfl)] at b3
  refine w_deref (x3.setT b3 fun h4 x4 bt4 d4 => y h4 _ ⟨_, _, _, _, _, _, x4⟩ ⟨(But.of (kh.trans k3)).trans bt4 fun c e => ?_, fun c g => ?_, fun c z => kh.fresh (k3.fresh (d4 c z))⟩)
  · rw [e]; exact .inl x.fp
  · exact g.imp id fun g => kh.fresh (f3 c g)
end
theorem der_cond {r : Int} (hr : 1 ≤ r ∧ r ≤ 31) (a : Int) : ((((decide ((iAnd .i64 r 4) = 0)) || (decide (a < 1))) || (decide (31 < a))) || (!decide ((iAndNot .i64 a r) = 0))) = !(partOf 4 r && partOf a r) := by
  by_cases ha : 1 ≤ a ∧ a ≤ 31
  · have : ∀ q k : Fin 31, ((((decide ((iAnd .i64 ((q.1 : Int) + 1) 4) = 0)) || (decide ((k.1 : Int) + 1 < 1))) || (decide (31 < (k.1 : Int) + 1))) || (!decide ((iAndNot .i64 ((k.1 : Int) + 1) ((q.1 : Int) + 1)) = 0))) = !(partOf 4 ((q.1 : Int) + 1) && partOf ((k.1 : Int) + 1) ((q.1 : Int) + 1)) := by
      decide +kernel
    have h1 := this ⟨(r - 1).toNat, by omega⟩ ⟨(a - 1).toNat, by omega⟩
    have e : ((r - 1).toNat : Int) + 1 = r := by omega
    have e' : ((a - 1).toNat : Int) + 1 = a := by omega
    rw [e, e'] at h1; exact h1
  · have e1 : partOf a r = false := by
      unfold partOf
      rw [decide_eq_false ha, Bool.false_and]
    rw [e1, Bool.and_false, Bool.not_false]
    by_cases h1 : a < 1
    · simp [h1]
    · have h2 : 31 < a := by omega
      simp [h2]
section
variable {h h' : H} {p : Nat} {sd st vo vp : Sl} {so sl : List (Int × Sl)} {F F' G : Nat → Prop} {m m' : MdS}
theorem countT_succ {ts : List Tk} {o : Int} {i : Nat} {t : Tk} (ht : ts[i]? = some t) : countT (ts.take (i + 1)) o = countT (ts.take i) o + if t.xcap.Obj = o then 1 else 0 := by
  unfold countT
  rw [List.take_add_one, ht, List.countP_append]
  by_cases q : t.xcap.Obj = o <;> simp [q]
theorem t_rDerive (x : RM h p F m) (i : MSI m) (mk : MSK m) {c : S_api_Call} {K : S_api_Reply → H → Prop} (y : ∀ h' F', RM h' p F' (deriveO m c.Cap c.Rights).2 → KChg F F' h h' → K ⟨(deriveO m c.Cap c.Rights).1.code, (deriveO m c.Cap c.Rights).1.cap, Sl.nil, 0⟩ h') : m_ref21_Model_derive (some ⟨p, 0, none⟩) c K h := by
  unfold m_ref21_Model_derive
  have x0 := x
  obtain ⟨sd, st, vo, vp, so, sl, x⟩ := x
  have hn := i.tsn'
  have tn := i.tsn
  have kc : KChg F F h h := .refl F h
  have hl := x.ts.len
  rw [List.length_map] at hl
  refine t_rLive x hn (fun e => ?_) fun n t ht e => ?_
  · unfold deriveO at y
    rw [givenT_none e] at y
    exact w_ifT rfl (w_pure _ (fun _ _ z => z) (y h F x0 kc))
  have hm := (find_mem e).1
  have ht' : (m.ts.map heldOf)[n]? = some (heldOf t) := by rw [List.getElem?_map, ht]; rfl
  refine w_ifF (decide_eq_false (by omega)) (w_deref (w_load x.f13 (w_field hd_len x.ts.arr ht' rfl (v' := t.xrights) (cells' := cInt .i64) (l1 := (cHd (heldOf t)).take 5) (l3 := []) rfl rfl ?_)))
  rw [der_cond (mk.rgt t hm)]
  unfold deriveO at y
  rw [givenT_some e] at y
  refine w_if (fun q => ?_) fun q => ?_
  · rw [Bool.not_eq_true', Bool.and_eq_false_iff] at q
    by_cases q1 : partOf 4 t.xrights = true
    · simp only [if_pos q1] at y
      rw [if_neg (by rw [q.resolve_left (by rw [q1]; decide)]; decide)] at y
      exact w_pure _ (fun _ _ z => z) (y h F x0 kc)
    · simp only [if_neg q1] at y
      exact w_pure _ (fun _ _ z => z) (y h F x0 kc)
  rw [Bool.not_eq_false', Bool.and_eq_true] at q
  simp only [if_pos q.1, if_pos q.2] at y
  refine w_for m.ts.length (fun j (z : Int × Int) hh => z = (((countT (m.ts.take j) c.Cap.Obj : Nat) : Int), (j : Int)) ∧ hh = h) ?_ ⟨rfl, rfl⟩
  rintro rec j _ _ hj ⟨rfl, rfl⟩ more
  refine w_deref (w_load x.f13 (w_if' (fun c0 => ?_) fun c0 => ?_))
  · have c0 : (j : Int) < (st.len : Int) := c0
    have hjl : j < m.ts.length := by omega
    have hu := List.getElem?_eq_getElem hjl
    generalize m.ts[j] = u at hu
    have hu' : (m.ts.map heldOf)[j]? = some (heldOf u) := by rw [List.getElem?_map, hu]; rfl
    have hc : countT (m.ts.take j) c.Cap.Obj ≤ j := Nat.le_trans List.countP_le_length (by rw [List.length_take]; omega)
    have cs := countT_succ (o := c.Cap.Obj) hu
    refine w_deref (w_load x.f13 (w_idx hd_len x.ts.arr hu' rfl fun a _ ha => w_load (v := u.xcap.Obj) (by rw [add_zero]; exact ha.sub (l1 := (cHd (heldOf u)).take 2) (l2 := cInt .i64 u.xcap.Obj) (l3 := (cHd (heldOf u)).drop 3) rfl) (w_if' (fun q5 => more _ _ hjl ⟨?_, rfl⟩) fun q5 => more _ _ hjl ⟨?_, rfl⟩)))
    · rw [cs, if_pos q5, ia1 _ (by omega), ia1 j (by omega)]
    · rw [cs, if_neg q5, ia1 j (by omega)]; rfl
  have c0 : ¬ (j : Int) < (st.len : Int) := c0
  rw [List.take_of_length_le (by omega)]
  clear more rec
  refine w_deref (w_load x.fQuo (w_if' (fun q3 => ?_) fun q3 => ?_))
  · have q3 : m.c.Quota ≤ (countT m.ts c.Cap.Obj : Int) := q3
    simp only [if_pos q3] at y
    exact w_pure _ (fun _ _ z => z) (y _ F x0 kc)
  have q3 : ¬ m.c.Quota ≤ (countT m.ts c.Cap.Obj : Int) := q3
  simp only [if_neg q3] at y
  refine w_deref (w_deref (w_load x.f13 (w_load x.fEnt (w_if' (fun q4 => ?_) fun q4 => ?_))))
  · have q4 : m.c.Entries ≤ (st.len : Int) := q4
    rw [hl] at q4
    simp only [if_pos q4] at y
    exact w_pure _ (fun _ _ z => z) (y _ F x0 kc)
  have q4 : ¬ m.c.Entries ≤ (st.len : Int) := q4
  rw [hl] at q4
  simp only [if_neg q4] at y
  refine w_for 9 (fun n (z : Int) hh => z = (n : Int) ∧ ∃ tk, m.tk ≤ tk ∧ tk ≤ m.dr.length ∧ RMA hh p sd st vo vp so sl F { m with tk := tk } ∧ KChg F F _ hh ∧ derO m c.Cap.Obj c.Rights t.xname tk (9 - n) = derO m c.Cap.Obj c.Rights t.xname m.tk 9) ?_ ⟨rfl, m.tk, Nat.le_refl _, i.tk, x, kc, rfl⟩
  rintro rec n' _ hh hi ⟨rfl, tk, g1, g2, xh, kh, eh⟩ more
  have ii := i.atTk g1 g2
  have drn := i.drn
  refine w_if' (fun q5 => ?_) fun q5 => ?_
  · have q5 : (n' : Int) ≤ 8 := q5
    have e9 : 9 - n' = (9 - (n' + 1)) + 1 := by omega
    rw [e9] at eh
    have dl := xh.dr.len
    have dl : sd.len = m.dr.length := dl
    refine w_deref (w_deref (w_load xh.f11 (w_load xh.f10 (w_if' (fun q6 => ?_) fun q6 => ?_))))
    · have q6 : (sd.len : Int) ≤ (tk : Int) := q6
      rw [derO_none (List.getElem?_eq_none (by omega))] at eh
      rw [← eh] at y
      exact w_pure _ (fun _ _ z => z) (y hh F ⟨_, _, _, _, _, _, xh⟩ kh)
    have q6 : ¬ (sd.len : Int) ≤ (tk : Int) := q6
    have hlt : tk < m.dr.length := by omega
    have hw := List.getElem?_eq_getElem hlt
    have hg := i.drg _ (List.getElem_mem hlt)
    generalize m.dr[tk] = w at hw hg
    rw [derO_some hw] at eh
    have cfgw := i.cfg.1
    refine w_deref (w_deref (w_deref (w_load xh.f10 (w_load xh.f11 (w_get word_len xh.dr.arr hw rfl rfl (w_load xh.fWid (w_RkCut hg cfgw.1 cfgw.2 (w_deref (w_load xh.f11 (w_deref ?_))))))))))
    have et : iAdd .i64 (({ m with tk := tk } : MdS).tk : Int) 1 = ((tk + 1 : Nat) : Int) := ia1 tk (by omega)
    rw [et]
    refine xh.num { m with tk := tk + 1 } (l1 := xh.cs.take 11) (l2 := cInt .i64 tk) (l3 := xh.cs.drop 12) (new := [.int .i64 ((tk + 1 : Nat) : Int)]) rfl rfl rfl rfl rfl rfl rfl rfl fun h3 x3 k3 => ?_
    refine t_rLive x3 hn (fun e6 => ?_) fun n6 t6 ht6 e6 => ?_
    · have e6 : findT m.ts ⟨c.Cap.Obj, m.cut w⟩ = none := e6
      rw [e6] at eh
      have eh : (⟨0, ⟨c.Cap.Obj, m.cut w⟩, [], 0⟩, { m with tk := tk + 1, ts := m.ts ++ [⟨⟨c.Cap.Obj, m.cut w⟩, c.Rights, ((m.nm + 1 : Nat) : Int), t.xname⟩], nm := m.nm + 1 }) = derO m c.Cap.Obj c.Rights t.xname m.tk 9 := eh
      rw [← eh] at y
      have nm := ii.nm
      have nm : m.nm ≤ tk := nm
      refine w_ifT rfl (w_deref (w_deref (w_deref (w_load x3.f13 (w_load x3.f17 (w_load x3.f13 (w_field hd_len x3.ts.arr ht' rfl (v' := t.xname) (cells' := cInt .i64) (l1 := []) (l3 := (cHd (heldOf t)).drop 1) rfl rfl ?_)))))))
      exact x3.issue (c := ⟨c.Cap.Obj, m.cut w⟩) (r := c.Rights) (q := t.xname) (by show m.nm ≤ _; omega) (by show m.ts.length ≤ _; omega) fun h7 F7 x7 k7 => y h7 F7 x7 ((kh.trans k3).trans k7)
    · have e6 : findT m.ts ⟨c.Cap.Obj, m.cut w⟩ = some t6 := e6
      rw [e6] at eh
      exact w_ifF (decide_eq_false (by omega)) (more _ _ (by omega) ⟨ia1 n' (by omega), tk + 1, by omega, by omega, x3, kh.trans k3, eh⟩)
  · have q5 : ¬ (n' : Int) ≤ 8 := q5
    have e9 : 9 - n' = 0 := by omega
    rw [e9, derO] at eh
    rw [← eh] at y
    exact w_pure _ (fun _ _ z => z) (y hh F ⟨_, _, _, _, _, _, xh⟩ kh)
theorem t_rMay (x : RMA h p sd st vo vp so sl F m) (i : MSI m) (mk : MSK m) {c : S_api_Call} {need : Int} (hneed : need = 1 ∨ need = 2) {s : Sl} {l : List S_api_Cap} (ar : Arr cCp h s l) (hll : l.length ≤ 2 ^ 20) {K : Int → H → Prop} (y : K (mayT m.ts c need l) h) : m_ref21_Model_may (some ⟨p, 0, none⟩) c need s K h := by
  unfold m_ref21_Model_may
  have hn := i.tsn'
  have hne : need = 1 ∨ need = 2 ∨ need = 4 ∨ need = 8 ∨ need = 16 := by omega
  unfold mayT at y
  refine w_if (fun q => ?_) fun q => ?_
  · rw [if_pos q] at y
    refine t_rLive x hn (fun e => ?_) fun n t ht e => ?_
    · rw [givenT_none e] at y
      exact w_ifT rfl y
    have hm := (find_mem e).1
    have ht' : (m.ts.map heldOf)[n]? = some (heldOf t) := by rw [List.getElem?_map, ht]; rfl
    rw [givenT_some e] at y
    refine w_ifF (decide_eq_false (by omega)) (w_deref (w_load x.f13 (w_field hd_len x.ts.arr ht' rfl (v' := t.xrights) (cells' := cInt .i64) (l1 := (cHd (heldOf t)).take 5) (l3 := []) rfl rfl (w_if' (fun q1 => ?_) fun q1 => ?_))))
    · rw [nz_all (mk.rgt t hm) hne] at q1
      rw [if_neg (by rw [q1]; decide)] at y; exact y
    · rw [nz_all (mk.rgt t hm) hne, Bool.not_eq_false] at q1
      rw [if_pos q1] at y; exact y
  · rw [if_neg (by rw [q]; decide)] at y
    have hlen := ar.len
    refine w_for l.length (fun j (z : Int × Int) hh => z.2 = (j : Int) ∧ hh = h ∧ namedT m.ts need c.Cap.Obj (l.drop j) z.1 = namedT m.ts need c.Cap.Obj l 3) ?_ ⟨rfl, rfl, rfl⟩
    rintro rec j ⟨a, _⟩ _ hj ⟨e1, rfl, e2⟩ more
    have e1 : _ = (j : Int) := e1
    subst e1
    refine w_if' (fun c0 => ?_) fun c0 => ?_
    · have c0 : (j : Int) < (s.len : Int) := c0
      have hjl : j < l.length := by omega
      have hu := List.getElem?_eq_getElem hjl
      have hd : l.drop j = l[j] :: l.drop (j + 1) := List.drop_eq_getElem_cons hjl
      generalize l[j] = v at hu hd
      have e2 : namedT m.ts need c.Cap.Obj (l.drop j) a = namedT m.ts need c.Cap.Obj l 3 := e2
      rw [hd, namedT] at e2
      refine w_field cap_len ar hu rfl (v' := v.Obj) (cells' := cInt .i64) (l1 := []) (l3 := (cCp v).drop 1) rfl rfl (w_if (fun q1 => ?_) fun q1 => ?_)
      · have q1 : ¬ v.Obj = c.Cap.Obj := by simpa using q1
        rw [if_neg q1] at e2
        exact more _ _ hjl ⟨ia1 j (by omega), rfl, e2⟩
      · have q1 : v.Obj = c.Cap.Obj := by simpa using q1
        rw [if_pos q1] at e2
        refine w_get cap_len ar hu rfl rfl (t_rLive x hn (fun e => ?_) fun n t ht e => ?_)
        · rw [givenT_none e] at e2
          rw [if_neg (by decide), if_neg (by decide)] at e2
          exact w_joinV false (fun j hj => w_ifF rfl hj) (w_ifF rfl (w_ifF rfl (more _ _ hjl ⟨ia1 j (by omega), rfl, e2⟩)))
        · have hm := (find_mem e).1
          have ht' : (m.ts.map heldOf)[n]? = some (heldOf t) := by rw [List.getElem?_map, ht]; rfl
          rw [givenT_some e] at e2
          have h0 : decide ((0 : Int) ≤ (n : Int)) = true := decide_eq_true (by omega)
          refine w_joinV (partOf need t.xrights) (fun j hj => w_ifT h0 (w_deref (w_load x.f13 (w_field hd_len x.ts.arr ht' rfl (v' := t.xrights) (cells' := cInt .i64) (l1 := (cHd (heldOf t)).take 5) (l3 := []) rfl rfl ?_)))) ?_
          · have e3 : (!decide ((iAnd .i64 t.xrights need) = 0)) = partOf need t.xrights := by
              have := Eq.to_iff (nz_all (mk.rgt t hm) hne)
              cases z : partOf need t.xrights with
              | true => rw [decide_eq_false fun w => by rw [this.1 w] at z; cases z]; rfl
              | false => rw [decide_eq_true (this.2 z)]; rfl
            rw [← e3] at hj; exact hj
          · refine w_if (fun q2 => ?_) fun q2 => w_ifT h0 ?_
            · rw [if_pos q2, if_pos rfl] at e2
              rw [← e2] at y; exact y
            · rw [q2] at e2
              exact more _ _ hjl ⟨ia1 j (by omega), rfl, e2⟩
    · have c0 : ¬ (j : Int) < (s.len : Int) := c0
      have e2 : namedT m.ts need c.Cap.Obj (l.drop j) a = namedT m.ts need c.Cap.Obj l 3 := e2
      rw [List.drop_of_length_le (by omega), namedT] at e2
      rw [← e2] at y; exact y
end
section
variable {T : Type} {cells : T → List Value} {sz : Nat} {e : TypeId} {h : H}
theorem w_empty {k : Addr → H → Prop} (y : ∀ b h', h b = none → Buf cells sz e h' ⟨some ⟨b, 0, none⟩, 0, 0⟩ ([] : List T) → Keeps h h' → k ⟨b, 0, none⟩ h') : mNew e #[] k h := fun b hb =>
  y b _ hb ⟨rfl, Nat.le_refl _, .inr ⟨b, [], (0, 0), rfl, upd_same _ _ _, by simp [flat], thawed0 _⟩⟩ (Keeps.new hb)
theorem w_anew (hs : ∀ x, (cells x).length = sz) (hp : ∀ x, (cells x).all plainVal = true) {by_ : Nat} {zero : Array Value} (hz : zero.size = sz) {h0 : H} {b : Nat} {s : Sl} {xs : List T} (k0 : Keeps h0 h) (hb : h0 b = none) (x : Buf cells sz e h ⟨some ⟨b, 0, none⟩, 0, 0⟩ ([] : List T)) (ar : Arr cells h s xs) (room : xs.length * by_ ≤ 2 ^ 48) {k : Sl → H → Prop}
    (y : ∀ s' h', Buf cells sz e h' s' xs → Keeps h0 h' → (∀ c, s'.foot c → h0 c = none) → But (· = b) h h' → k s' h') : mAppend e sz by_ zero ⟨some ⟨b, 0, none⟩, 0, 0⟩ s k h := by
  refine w_append hs hp hz x ar (.inr ⟨rfl, room⟩) fun s' h' bu' b' f' n' => ?_
  rw [List.nil_append] at bu'
  have foot : ∀ c, (⟨some ⟨b, 0, none⟩, 0, 0⟩ : Sl).foot c → c = b := fun c ⟨a, ha, hc⟩ => by
    cases ha; exact hc.symm
  have bt : But (· = b) h h' := b'.mono foot
  exact y s' h' bu' (k0.but bt fun n q => by rw [q]; exact hb) (fun c fc => (f' c fc).elim (fun q => by rw [foot c q]; exact hb) fun q => k0.fresh q) bt
end
section
variable {h h' : H} {p : Nat} {sd st vo vp : Sl} {so sl : List (Int × Sl)} {F F' G : Nat → Prop} {m m' : MdS}
def moveO (m : MdS) (c : S_api_Call) (ds : List UInt8) : RpV × MdS := if c.Op = 6 then writeO m c ds else readO m c
theorem aset_at {V : Type} {k : Int} {v v' : V} : ∀ {l : List (Int × V)} {n : Nat}, Once l → l[n]? = some (k, v) → aset l k v' = l.set n (k, v')
  | [], _, _, e => by cases e
  | (a, w) :: r, 0, _, e => by cases e; rw [aset_cons, if_pos rfl]; rfl
  | (a, w) :: r, n + 1, o, e => by
    unfold Once at o
    rw [List.map_cons, List.nodup_cons] at o
    have e : r[n]? = some (k, v) := e
    have : k ≠ a := fun q => o.1 (by rw [← q]; exact List.mem_map_of_mem (f := (·.1)) (List.mem_of_getElem? e))
    rw [aset_cons, if_neg this, List.set_cons_succ, aset_at o.2 e]
theorem over_len {l d : List UInt8} {off : Nat} (hn : off + d.length ≤ l.length) : (overO l d off).length = l.length := by
  unfold overO
  rw [List.length_append, List.length_append, List.length_take, List.length_drop]; omega
theorem over_get {l d : List UInt8} {off : Nat} (hn : off + d.length ≤ l.length) (n : Nat) : (overO l d off)[n]? = if n < off then l[n]? else if n < off + d.length then d[n - off]? else l[n]? := by
  unfold overO
  have hoff : (l.take off).length = off := by rw [List.length_take]; omega
  rw [List.append_assoc]
  by_cases q : n < off
  · rw [if_pos q, List.getElem?_append_left (by omega), List.getElem?_take_of_lt q]
  · rw [if_neg q, List.getElem?_append_right (by omega), hoff]
    by_cases q1 : n < off + d.length
    · rw [if_pos q1, List.getElem?_append_left (by omega)]
    · rw [if_neg q1, List.getElem?_append_right (by omega), List.getElem?_drop]
      congr 1; omega
theorem over_set {l d : List UInt8} {off j : Nat} {b : UInt8} (hn : off + d.length ≤ l.length) (hb : d[j]? = some b) : (overO l (d.take j) off).set (off + j) b = overO l (d.take (j + 1)) off := by
  have hj := lt_of_get hb
  have l1 : (d.take j).length = j := by rw [List.length_take]; omega
  have l2 : (d.take (j + 1)).length = j + 1 := by rw [List.length_take]; omega
  have l3 : (overO l (d.take j) off).length = l.length := over_len (by omega)
  refine List.ext_getElem? fun n => ?_
  rw [List.getElem?_set, l3, over_get (by omega), over_get (by omega), l1, l2]
  by_cases c : off + j = n
  · subst c
    rw [if_pos rfl, if_pos (by omega), if_neg (by omega), if_pos (by omega), show off + j - off = j by omega, List.getElem?_take_of_lt (by omega), hb]
  · rw [if_neg c]
    by_cases q : n < off
    · rw [if_pos q, if_pos q]
    · rw [if_neg q, if_neg q]
      by_cases q1 : n < off + j
      · rw [if_pos q1, if_pos (by omega), List.getElem?_take_of_lt (by omega), List.getElem?_take_of_lt (by omega)]
      · rw [if_neg q1, if_neg (by omega)]
theorem RMA.look (x : RMA h p sd st vo vp so sl F m) {n : Nat} {k : Int} {s : Sl} (e : sl[n]? = some (k, s)) : alook sl k = some s ∧ Buf cCp 3 N_api_Cap h s (listO m k) := by
  have e1 := x.ls.onceS.look (List.mem_of_getElem? e)
  have e2 := alook_some x.ls.keys k
  rw [e1] at e2
  refine ⟨e1, ?_⟩
  unfold listO
  cases z : alook m.ls k with
  | none => rw [z] at e2; cases e2
  | some l => exact x.ls.buf k s l e1 z
theorem t_rMove (x : RMA h p sd st vo vp so sl F m) (i : MSI m) (mk : MSK m) {c : S_api_Call} {ds : List UInt8} (ad : Arr cU8 h c.Data ds) (hd : ds.length ≤ 2147483647) (nd : ∀ b, c.Data.foot b → ¬ F b) (hoff : inB c.Off (-2147483648) 2147483647) (hnn : inB c.N (-2147483648) 2147483647) (hop : c.Op = 5 ∨ c.Op = 6)
    {n : Nat} {s : Sl} (hs : sl[n]? = some (c.By, s)) {K : S_api_Reply → H → Prop}
    (y : ∀ s h', RM h' p F (moveO m c ds).2 → KChg F F h h' → Buf cU8 1 N_u8 h' s (moveO m c ds).1.data → (∀ b, s.foot b → h b = none) → K ⟨(moveO m c ds).1.code, cap0, s, 0⟩ h') : m_ref21_Model_move (some ⟨p, 0, none⟩) c (n : Int) K h := by
  unfold m_ref21_Model_move
  have x0 : RM h p F m := ⟨_, _, _, _, _, _, x⟩
  have nf : ∀ (b : Nat), Sl.nil.foot b → h b = none := fun _ ⟨_, q, _⟩ => (by cases q)
  have kc : KChg F F h h := .refl F h
  have dl := ad.len
  obtain ⟨_, bs⟩ := x.look hs
  have hs' : (sl.map fun q => (⟨q.1, q.2⟩ : S_api_Process))[n]? = some ⟨c.By, s⟩ := by rw [List.getElem?_map, hs]; rfl
  have l32 := i.list' c.By
  unfold inB at hoff hnn
  generalize eN : (if c.Op = 6 then (ds.length : Int) else c.N) = nn at *
  generalize eW : (if c.Op = 6 then (2 : Int) else 1) = need at *
  have hneed : need = 1 ∨ need = 2 := by rw [← eW]; split <;> simp
  have hN : -2147483648 ≤ nn ∧ nn ≤ 2147483647 := by rw [← eN]; split <;> omega
  have res : moveO m c ds = if mayT m.ts c need (listO m c.By) = 0 then (if placeO m c.Cap.Obj c.Off nn = 0 then moveO m c ds else (refO 5, m)) else (refO (mayT m.ts c need (listO m c.By)), m) := by
    have pl : ∀ o a b, placeO m o a b = 0 ∨ placeO m o a b = 5 := fun o a b => by unfold placeO; split <;> simp
    unfold moveO writeO readO
    subst eN; subst eW
    by_cases q6 : c.Op = 6
    · simp only [if_pos q6]
      by_cases q1 : mayT m.ts c 2 (listO m c.By) = 0
      · simp only [if_pos q1]
        by_cases q2 : placeO m c.Cap.Obj c.Off ds.length = 0
        · simp only [if_pos q2]
        · simp only [(pl c.Cap.Obj c.Off ds.length).resolve_left q2]; rfl
      · simp only [if_neg q1]
    · simp only [if_neg q6]
      by_cases q1 : mayT m.ts c 1 (listO m c.By) = 0
      · simp only [if_pos q1]
        by_cases q2 : placeO m c.Cap.Obj c.Off c.N = 0
        · simp only [if_pos q2]
        · simp only [(pl c.Cap.Obj c.Off c.N).resolve_left q2]; rfl
      · simp only [if_neg q1]
  refine w_joinV (need, nn) (fun j hj => ?_) (w_deref (w_load x.f14 (w_field pr_len x.ml.arr hs' rfl (v' := s) (cells' := cSl) (l1 := (S_api_Process.cells ⟨c.By, s⟩).take 1) (l3 := []) rfl rfl (t_rMay x i mk hneed bs.arr (by omega) ?_))))
  · rw [← eN, ← eW] at hj
    refine w_if' (fun q => ?_) fun q => ?_
    · rw [if_pos q, if_pos q] at hj
      rw [dl]; exact hj
    · rw [if_neg q, if_neg q] at hj; exact hj
  by_cases q1 : ¬ mayT m.ts c need (listO m c.By) = 0
  · rw [res, if_neg q1] at y
    exact w_ifT (by simpa using q1) (w_pure _ (fun _ _ z => z) (y Sl.nil h x0 kc Buf.nil nf))
  replace q1 : mayT m.ts c need (listO m c.By) = 0 := by simpa using q1
  rw [if_pos q1] at res
  rw [q1]
  have hk := may_here i q1
  refine w_ifF rfl (t_rObject x (by have := x.lenO; have := i.obn; omega) (fun z => absurd hk (aidx_none z)) fun n2 s2 hs2 => ?_)
  have hs2' : (so.map fun q => (⟨q.1, q.2⟩ : S_api_Object))[n2]? = some ⟨c.Cap.Obj, s2⟩ := by rw [List.getElem?_map, hs2]; rfl
  have as2 := x.ob.onceS.look (List.mem_of_getElem? hs2)
  have hbs : ∃ bs2, alook m.ob c.Cap.Obj = some bs2 := by
    have e2 := alook_some x.ob.keys c.Cap.Obj
    rw [as2] at e2
    cases z : alook m.ob c.Cap.Obj with
    | none => rw [z] at e2; cases e2
    | some b => exact ⟨b, rfl⟩
  obtain ⟨bs2, hb2⟩ := hbs
  have bu := x.ob.buf _ _ _ as2 hb2
  have ebs : bytesO m c.Cap.Obj = bs2 := by unfold bytesO; rw [hb2]; rfl
  have obb := i.obs' c.Cap.Obj
  rw [ebs] at obb
  have bl := bu.len
  refine w_joinV (decide (c.Off < 0 ∨ nn < 0 ∨ 1024 < nn ∨ ((bytesO m c.Cap.Obj).length : Int) < c.Off + nn)) (fun j hj => ?_) ?_
  · refine w_if (fun q => ?_) fun q => ?_
    · simp only [Bool.or_eq_true, decide_eq_true_eq] at q
      rw [decide_eq_true (by
        rcases q with (q | q) | q
        · exact .inl q
        · exact .inr (.inl q)
        · exact .inr (.inr (.inl q)))] at hj
      exact hj
    · simp only [Bool.or_eq_false_iff, decide_eq_false_iff_not] at q
      refine w_deref (w_load x.f12 (w_field ob_len x.mo.arr hs2' rfl (v' := s2) (cells' := cSl) (l1 := (S_api_Object.cells ⟨c.Cap.Obj, s2⟩).take 1) (l3 := []) rfl rfl ?_))
      have q' : ¬ c.Off < 0 ∧ ¬ nn < 0 ∧ ¬ 1024 < nn := ⟨q.1.1, q.1.2, q.2⟩
      show j (decide ((s2.len : Int) < iAdd .i64 c.Off nn)) h
      rw [bl, iAdd_eq (by omega) (by omega)]
      have : decide (c.Off < 0 ∨ nn < 0 ∨ 1024 < nn ∨ ((bytesO m c.Cap.Obj).length : Int) < c.Off + nn) = decide ((bs2.length : Int) < c.Off + nn) := by
        rw [ebs]
        exact decide_eq_decide.2 ⟨fun z => by exact z.elim (fun z => absurd z q'.1) fun z => z.elim (fun z => absurd z q'.2.1) fun z => z.elim (fun z => absurd z q'.2.2) id, fun z => .inr (.inr (.inr z))⟩
      rw [this] at hj; exact hj
  by_cases q2 : c.Off < 0 ∨ nn < 0 ∨ 1024 < nn ∨ ((bytesO m c.Cap.Obj).length : Int) < c.Off + nn
  · have e5 : placeO m c.Cap.Obj c.Off nn = 5 := by unfold placeO; rw [if_pos q2]
    rw [if_neg (by rw [e5]; decide)] at res
    rw [res] at y
    exact w_ifT (decide_eq_true q2) (w_pure _ (fun _ _ z => z) (y Sl.nil h x0 kc Buf.nil nf))
  have e5 : placeO m c.Cap.Obj c.Off nn = 0 := by unfold placeO; rw [if_neg q2]
  clear res
  simp only [not_or] at q2
  rw [ebs] at q2
  obtain ⟨off, eo⟩ : ∃ off : Nat, c.Off = off := ⟨c.Off.toNat, by omega⟩
  obtain ⟨k, ek⟩ : ∃ k : Nat, nn = k := ⟨nn.toNat, by omega⟩
  refine w_ifF (decide_eq_false (by rw [ebs]; simp only [not_or]; exact q2)) ?_
  rw [eo, ek] at q2 ⊢
  refine w_if' (fun q3 => ?_) fun q3 => ?_
  · have n6 : ¬ c.Op = 6 := by omega
    rw [if_neg n6] at eN eW
    have er : moveO m c ds = (⟨0, cap0, (bs2.drop off).take k, 0⟩, m) := by
      unfold moveO readO
      rw [if_neg n6, eW, eN]
      simp only [if_pos q1, if_pos e5]
      rw [ebs, eo, ek, Int.toNat_natCast, Int.toNat_natCast]
    rw [er] at y
    refine w_deref (w_empty (T := UInt8) (cells := cU8) (sz := 1) fun b h1 hb b1 k1 => ?_)
    have x1 := x.keep k1
    rw [ia off k (by omega)]
    refine w_load x1.f12 (w_field ob_len x1.mo.arr hs2' rfl (v' := s2) (cells' := cSl) (l1 := (S_api_Object.cells ⟨c.Cap.Obj, s2⟩).take 1) (l3 := []) rfl rfl ?_)
    refine w_mid u8_len (bu.keep k1).arr (lo := off) (hi := off + k) (by omega) (by omega) rfl rfl fun s3 ar3 _ _ _ => ?_
    rw [show off + k - off = k by omega] at ar3
    refine w_anew u8_len u8_plain rfl k1 hb b1 ar3 (by rw [List.length_take]; omega) fun s4 h4 b4 k4 f4 _ => ?_
    exact y s4 h4 (x0.keep k4) (.of k4) b4 f4
  · have y6 : c.Op = 6 := by omega
    rw [if_pos y6] at eN eW
    have ekl : k = ds.length := by omega
    subst ekl
    have er : moveO m c ds = (refO 0, { m with ob := aset m.ob c.Cap.Obj (overO bs2 ds off) }) := by
      unfold moveO writeO
      rw [if_pos y6, eW, eN]
      simp only [if_pos q1]
      rw [ebs, eo, Int.toNat_natCast]
      rw [eo] at e5
      simp only [if_pos e5]
    rw [er] at y
    have nsF : ∀ c, s2.foot c → F c := fun c g => x.ob.foot _ _ as2 c g
    refine w_for ds.length (fun j (z : Int) hh => z = (j : Int) ∧ Buf cU8 1 N_u8 hh s2 (overO bs2 (ds.take j) off) ∧ But s2.foot h hh ∧ ∀ c, hh c = none → h c = none) ?_ ⟨rfl, by rw [List.take_zero]; unfold overO; simpa using bu, .refl _ _, fun _ z => z⟩
    rintro rec j _ hh hj ⟨rfl, bj, bt, dj⟩ more
    refine w_if' (fun c0 => ?_) fun c0 => ?_
    · have c0 : (j : Int) < ((ds.length : Nat) : Int) := c0
      have hjl : j < ds.length := by omega
      have hu := List.getElem?_eq_getElem hjl
      generalize ds[j] = u at hu
      have nG : OfT (fun e => decide (e = N_u8)) h p s2.foot := fun c g => .inr (.inl ⟨N_u8, rfl, bu.typed g⟩)
      have ad' : Arr cU8 hh c.Data ds := ad.but bt fun _ a ha g => nd _ ⟨a, ha, rfl⟩ (nsF _ g)
      have f12' := x.f12.but bt fun g => (bu.typed g).ne x.tagP (by decide) (by rw [add_block])
      have mo' := x.kMo bt nG rfl
      refine w_deref (w_idx u8_len ad' hu rfl fun a _ ha => w_load f12' (w_field ob_len mo'.arr hs2' rfl (v' := s2) (cells' := cSl) (l1 := (S_api_Object.cells ⟨c.Cap.Obj, s2⟩).take 1) (l3 := []) rfl rfl (w_load (v := ((u.toNat : Nat) : Int)) ha ?_)))
      rw [ia off j (by omega)]
      have tl : (ds.take j).length ≤ ds.length := by rw [List.length_take]; omega
      refine w_put u8_len bj (i := off + j) (by rw [over_len (by omega)]; omega) rfl u rfl fun h2 b2 bt2 d2 => ?_
      rw [over_set (by omega) hu] at b2
      exact more _ _ hjl ⟨ia1 j (by omega), b2, bt.trans bt2 fun _ g => .inl g, fun c z => dj c (d2 c z)⟩
    · have c0 : ¬ (j : Int) < ((ds.length : Nat) : Int) := c0
      rw [List.take_of_length_le (by omega)] at bj
      have nG : OfT (fun e => decide (e = N_u8)) h p s2.foot := fun c g => .inr (.inl ⟨N_u8, rfl, bu.typed g⟩)
      have r2 := x.ob.set (k := c.Cap.Obj) (F' := F) bj (bt.mono fun z g => ⟨s2, as2, g⟩) (fun z g => ⟨nsF z g, .inr ⟨s2, as2, g⟩⟩) fun _ g => g
      rw [aset_same as2] at r2
      have cell := bt _ _ x.cell fun g => (bu.typed g).ne x.tagP (by decide) rfl
      have x2 : RMA hh p sd st vo vp so sl F { m with ob := aset m.ob c.Cap.Obj (overO bs2 ds off) } := ⟨cell, x.kDr bt nG rfl, x.kTs bt nG rfl, x.kMo bt nG rfl, x.kMl bt nG rfl, r2, x.kLs bt nG rfl, x.fp, x.fd, x.ft, x.fo, x.fl, fun c g z => x.has c g (dj c z)⟩
      exact y Sl.nil hh ⟨_, _, _, _, _, _, x2⟩ ⟨bt.mono nsF, fun _ g => .inl g, dj⟩ Buf.nil nf
end
section
variable {h h' : H} {p : Nat} {sd st vo vp : Sl} {so sl : List (Int × Sl)} {F F' G : Nat → Prop} {m m' : MdS}
theorem RMA.pushP (x : RMA h p sd st vo vp so sl F m) (hl : sl.length ≤ 2 ^ 20) {ky : Int} (nk : ky ∉ m.ls.map (·.1)) {s5 : Sl} {l : List S_api_Cap} (b5 : Buf cCp 3 N_api_Cap h s5 l) (nw : ∀ c, s5.foot c → ¬ F c) {k : H → Prop}
    (y : ∀ h' F' vp', RMA h' p sd st vo vp' so (sl ++ [(ky, s5)]) F' { m with ls := m.ls ++ [(ky, l)] } → But F h h' → (∀ c, F' c → F c ∨ s5.foot c ∨ h c = none) → (∀ c, h' c = none → h c = none) → k h') :
    mApp N_api_Process 2 32 #[(Value.int .i64 0), (Sl.val Sl.nil)] 1 [(Value.int .i64 ky), (Sl.val s5)] vp (fun s55 => mDeref (some ⟨p, 0, none⟩) fun ad56 => mStore (ad56.add 14) [(Sl.val s55)] k) h := by
  refine w_app pr_len rfl x.ml [(⟨ky, s5⟩ : S_api_Process)] rfl rfl (.inl (by rw [List.length_map]; show (2 * (sl.length + 1) + 192) * 32 ≤ 2 ^ 48; omega)) fun s2 h2 b2 bt2 f2 d2 => w_deref ?_
  have np2 : ¬ vp.foot p := fun g => (x.ml.typed g).ne x.tagP (by decide) rfl
  have c2 := bt2 _ _ x.cell np2
  have hc2 : h2 p = some (.cells ((x.cs.take 14) ++ cSl vp ++ (x.cs.drop 15)).toArray N_ref21_Model (0, 0)) := c2
  refine w_store (pt_add p 14) hc2 rfl rfl ?_
  have ps2 : ¬ s2.foot p := fun g => (b2.typed g).ne (.of c2) (by decide) rfl
  have q3 : (upd h2 p (.cells ((x.cs.take 14) ++ [Sl.val s2] ++ (x.cs.drop 15)).toArray N_ref21_Model (0, 0))) p = some (.cells (S_ref21_Model.cells ⟨m.c, sd, m.tk, vo, st, s2, m.ni, m.np, ((m.nm + 1 : Nat) : Int)⟩).toArray N_ref21_Model (0, 0)) := upd_same _ _ _
  have bt3 : But (· = p) h2 (upd h2 p (.cells ((x.cs.take 14) ++ [Sl.val s2] ++ (x.cs.drop 15)).toArray N_ref21_Model (0, 0))) := But.upd rfl
  have d3 : ∀ c, (upd h2 p (.cells ((x.cs.take 14) ++ [Sl.val s2] ++ (x.cs.drop 15)).toArray N_ref21_Model (0, 0))) c = none → h2 c = none := fun c e => (upd_none.1 e).2
  generalize (upd h2 p (.cells ((x.cs.take 14) ++ [Sl.val s2] ++ (x.cs.drop 15)).toArray N_ref21_Model (0, 0))) = h3 at q3 bt3 d3
  have bt : But (fun c => c = p ∨ vp.foot c) h h3 := (bt2.mono fun _ g => .inr g).trans bt3 fun _ g => .inl (.inl g)
  have dm : ∀ c, h3 c = none → h c = none := fun c e => d2 c (d3 c e)
  have nG : OfT (fun e => decide (e = N_api_Process)) h p (fun c => c = p ∨ vp.foot c) := fun c g => g.imp id fun g => .inl ⟨N_api_Process, rfl, x.ml.typed g⟩
  have b3 : Buf S_api_Process.cells 2 N_api_Process h3 s2 ((sl ++ [(ky, s5)]).map fun q => ⟨q.1, q.2⟩) := by
    rw [List.map_append]; exact b2.but bt3 fun ad ha g => ps2 ⟨ad, ha, g⟩
  have b53 : Buf cCp 3 N_api_Cap h3 s5 l := b5.but bt fun ad ha => nG.not x.tagP (b5.typed ⟨ad, ha, rfl⟩) (by decide) rfl
  have nso : ky ∉ sl.map (·.1) := by rw [x.ls.keys]; exact nk
  have r3 := (x.kLs bt nG rfl).give (k := ky) b53 nw
  rw [aset_new nso, aset_new nk] at r3
  refine y h3 (fun c => F c ∨ s5.foot c ∨ s2.foot c) s2 ⟨q3, x.kDr bt nG rfl, x.kTs bt nG rfl, x.kMo bt nG rfl, b3, (x.kOb bt nG rfl).mono fun _ g => .inl g, r3.mono fun c g => g.imp id .inl, .inl x.fp, fun c g => .inl (x.fd c g), fun c g => .inl (x.ft c g), fun c g => .inl (x.fo c g), fun c g => .inr (.inr g), fun c g => ?_⟩ (bt.mono fun c g => g.elim (fun e => by rw [e]; exact x.fp) (x.fl c)) (fun c g => ?_) dm
  · rcases g with g | g | g
    · exact fun z => x.has c g (dm c z)
    · exact b53.has g
    · exact b3.has g
  · rcases g with g | g | g
    · exact .inl g
    · exact .inr (.inl g)
    · exact (f2 c g).elim (fun g => .inl (x.fl c g)) fun z => .inr (.inr z)
theorem RMA.putL (x : RMA h p sd st vo vp so sl F m) {n : Nat} {ky : Int} {s s5 : Sl} (hs : sl[n]? = some (ky, s)) {l : List S_api_Cap} (b5 : Buf cCp 3 N_api_Cap h s5 l) (nw : ∀ c, s5.foot c → ¬ F c) {k : H → Prop}
    (y : ∀ h', RM h' p (fun c => F c ∨ s5.foot c) { m with ls := aset m.ls ky l } → But F h h' → (∀ c, h' c = none → h c = none) → k h') :
    mIdx vp (n : Int) 2 (fun ad => mStore (ad.add 1) [(Sl.val s5)] k) h := by
  have hs' : (sl.map fun q => (⟨q.1, q.2⟩ : S_api_Process))[n]? = some ⟨ky, s⟩ := by rw [List.getElem?_map, hs]; rfl
  refine w_idx pr_len x.ml.arr hs' rfl fun a ha _ => w_set pr_len x.ml (v' := (⟨ky, s5⟩ : S_api_Process)) hs' ha (c1 := cInt .i64 ky) (c2 := cSl s) (c3 := []) (new := [Sl.val s5]) rfl rfl rfl rfl fun h2 b2 bt2 d2 => ?_
  have nG : OfT (fun e => decide (e = N_api_Process)) h p vp.foot := fun c g => .inr (.inl ⟨N_api_Process, rfl, x.ml.typed g⟩)
  have cell := bt2 _ _ x.cell fun g => (x.ml.typed g).ne x.tagP (by decide) rfl
  have b52 : Buf cCp 3 N_api_Cap h2 s5 l := b5.but bt2 fun ad ha => nG.not x.tagP (b5.typed ⟨ad, ha, rfl⟩) (by decide) rfl
  have r2 := (x.kLs bt2 nG rfl).give (k := ky) b52 nw
  have eb : (sl.map fun q => (⟨q.1, q.2⟩ : S_api_Process)).set n ⟨ky, s5⟩ = (aset sl ky s5).map fun q => (⟨q.1, q.2⟩ : S_api_Process) := by
    rw [aset_at x.ls.onceS hs, List.map_set]
  rw [eb] at b2
  exact y h2 ⟨sd, st, vo, vp, so, aset sl ky s5, cell, x.kDr bt2 nG rfl, x.kTs bt2 nG rfl, x.kMo bt2 nG rfl, b2, (x.kOb bt2 nG rfl).mono fun _ g => .inl g, r2, .inl x.fp, fun c g => .inl (x.fd c g), fun c g => .inl (x.ft c g), fun c g => .inl (x.fo c g), fun c g => .inl (x.fl c g), fun c g => g.elim (fun g z => x.has c g (d2 c z)) fun g => b52.has g⟩ (bt2.mono x.fl) d2
theorem t_rSpawn (x : RMA h p sd st vo vp so sl F m) (i : MSI m) {by_ : Int} {a s : Sl} {gs : List Int} (ar : Arr (cInt .i64) h a gs) (hg : gs.length ≤ 255) (hgs : ∀ g ∈ gs, inB g 0 65535) (bu : Buf cCp 3 N_api_Cap h s (listO m by_)) {c : S_api_Call} (hc : c.By = by_) {K : S_api_Reply → H → Prop}
    (y : ∀ h' F', RM h' p F' (spawnO m c gs).2 → KChg F F' h h' → K ⟨(spawnO m c gs).1.code, cap0, Sl.nil, (spawnO m c gs).1.num⟩ h') : m_ref21_Model_spawn (some ⟨p, 0, none⟩) a s K h := by
  subst hc
  unfold m_ref21_Model_spawn
  have hlen := bu.len
  have l32 := i.list' c.By
  have al := ar.len
  have sll := x.lenL
  have ln := i.lsn
  have inp := i.np
  have mll := x.ml.len
  rw [List.length_map] at mll
  refine w_for gs.length (fun n (z : Sl × Int) hh => ∃ (sg : Sl) (acc : List S_api_Cap), z = (sg, (n : Int)) ∧ acc.length = n ∧ Buf cCp 3 N_api_Cap hh sg acc ∧ (∀ v, sg.foot v → h v = none) ∧ Keeps h hh ∧ giftsO (listO m c.By) gs = (giftsO (listO m c.By) (gs.drop n)).map (acc ++ ·)) ?_
    ⟨Sl.nil, [], rfl, rfl, Buf.nil, fun _ ⟨_, q, _⟩ => (by cases q), .refl _, by rw [List.drop_zero]; cases giftsO (listO m c.By) gs <;> rfl⟩
  rintro rec n _ hh hn ⟨sg, acc, rfl, ea, ba, fa, kh, eg⟩ more
  have xh := x.keep kh
  have xh' : RM hh p F m := ⟨_, _, _, _, _, _, xh⟩
  refine w_if' (fun q => ?_) fun q => ?_
  · have q : (n : Int) < (a.len : Int) := q
    have hnl : n < gs.length := by omega
    have ht := List.getElem?_eq_getElem hnl
    have hd : gs.drop n = gs[n] :: gs.drop (n + 1) := List.drop_eq_getElem_cons hnl
    have hb := hgs _ (List.getElem_mem hnl)
    generalize gs[n] = g at ht hd hb
    unfold inB at hb
    rw [hd] at eg
    refine w_get ci_len (ar.keep kh) ht rfl (v' := g) rfl (w_if' (fun q1 => ?_) fun q1 => ?_)
    · have q1 : (s.len : Int) ≤ g := q1
      rw [gifts_none (List.getElem?_eq_none (by omega)), Option.map_none] at eg
      unfold spawnO at y
      rw [eg] at y
      exact w_pure _ (fun _ _ z => z) (y hh F xh' (.of kh))
    · have q1 : ¬ (s.len : Int) ≤ g := q1
      obtain ⟨gn, egn⟩ : ∃ gn : Nat, g = gn := ⟨g.toNat, by omega⟩
      subst egn
      have hgl : gn < (listO m c.By).length := by omega
      have hv := List.getElem?_eq_getElem hgl
      generalize (listO m c.By)[gn] = v at hv
      rw [gifts_some (c := v) (by rw [Int.toNat_natCast]; exact hv)] at eg
      refine w_get ci_len (ar.keep kh) ht rfl (v' := ((gn : Nat) : Int)) rfl (w_get cap_len (bu.keep kh).arr hv rfl rfl ?_)
      refine w_app cap_len rfl ba [v] rfl rfl (.inl (by show (2 * (_ + 1) + 192) * 24 ≤ 2 ^ 48; omega)) fun s2 h2 b2 bt f2 d2 => ?_
      refine more _ _ hnl ⟨s2, acc ++ [v], by rw [ia1 n (by omega)], by rw [List.length_append, ea]; rfl, b2, fun w g => (f2 w g).elim (fa w) fun z => kh.fresh z, kh.but bt fun w g => fa w g, ?_⟩
      rw [eg]
      cases giftsO (listO m c.By) (gs.drop (n + 1)) <;> simp
  · have q : ¬ (n : Int) < (a.len : Int) := q
    have en : n = gs.length := by omega
    rw [List.drop_of_length_le (by omega)] at eg
    have eg : giftsO (listO m c.By) gs = some acc := by rw [eg]; simp [giftsO]
    unfold spawnO at y
    rw [eg] at y
    have bl2 := ba.len
    refine w_deref (w_load xh.fLis (w_if' (fun q1 => ?_) fun q1 => ?_))
    · have q1 : m.c.List < (sg.len : Int) := q1
      rw [bl2] at q1
      simp only [if_pos q1] at y
      exact w_pure _ (fun _ _ z => z) (y hh F xh' (.of kh))
    have q1 : ¬ m.c.List < (sg.len : Int) := q1
    rw [bl2] at q1
    simp only [if_neg q1] at y
    refine w_deref (w_deref (w_load xh.f14 (w_load xh.fPro (w_joinV (decide (m.c.Procs ≤ (m.ls.length : Int) ∨ 65535 < m.np)) (fun j hj => ?_) ?_))))
    · rw [mll, sll]
      refine w_if' (fun q2 => ?_) fun q2 => ?_
      · have q2 : m.c.Procs ≤ (m.ls.length : Int) := q2
        rw [decide_eq_true (.inl q2)] at hj; exact hj
      · have q2 : ¬ m.c.Procs ≤ (m.ls.length : Int) := q2
        refine w_deref (w_load xh.f16 ?_)
        have e1 : decide (m.c.Procs ≤ (m.ls.length : Int) ∨ 65535 < m.np) = decide (65535 < m.np) := decide_eq_decide.2 ⟨fun z => z.elim (fun z => absurd z q2) id, .inr⟩
        rw [e1] at hj; exact hj
    by_cases q2 : m.c.Procs ≤ (m.ls.length : Int) ∨ 65535 < m.np
    · simp only [if_pos q2] at y
      exact w_ifT (decide_eq_true q2) (w_pure _ (fun _ _ z => z) (y hh F xh' (.of kh)))
    simp only [if_neg q2] at y
    have q2' : ¬ 65535 < m.np := fun z => q2 (.inr z)
    refine w_ifF (decide_eq_false q2) (w_deref (w_load xh.f16 (w_deref (w_load xh.f16 (w_deref ?_)))))
    rw [show iAdd .i64 m.np 1 = m.np + 1 from iAdd_eq (by omega) (by omega)]
    refine xh.num { m with np := m.np + 1 } (l1 := xh.cs.take 16) (l2 := cInt .i64 m.np) (l3 := xh.cs.drop 17) (new := [.int .i64 (m.np + 1)]) rfl rfl rfl rfl rfl rfl rfl rfl fun h4 x4 k4 => ?_
    have ba4 : Buf cCp 3 N_api_Cap h4 sg acc := ba.but k4.but fun ad hd g => x.has _ g (fa _ ⟨ad, hd, rfl⟩)
    have nk : m.np ∉ m.ls.map (·.1) := fun z => by
      obtain ⟨q, hq, e⟩ := List.mem_map.1 z
      have := (i.lsk q hq).2
      omega
    refine w_deref (w_load x4.f14 (x4.pushP (by omega) nk ba4 (fun w g z => x.has w z (fa w g)) fun h5 F5 vp5 x5 bt5 f5 d5 => ?_))
    exact y h5 F5 ⟨_, _, _, _, _, _, x5⟩ ⟨((But.of kh).trans k4.but fun _ g => .inl g).trans bt5 fun _ g => .inl g, fun w g => (f5 w g).imp id fun g => g.elim (fa w) fun z => kh.fresh (k4.dom w z), fun w z => kh.fresh (k4.dom w (d5 w z))⟩
end
theorem adel_at {V : Type} {k : Int} {v : V} : ∀ {l : List (Int × V)} {n : Nat}, Once l → l[n]? = some (k, v) → adel l k = l.eraseIdx n
  | [], _, _, e => by cases e
  | (a, w) :: r, 0, _, e => by cases e; rw [adel_cons, if_pos rfl]; rfl
  | (a, w) :: r, n + 1, o, e => by
    unfold Once at o
    rw [List.map_cons, List.nodup_cons] at o
    have e : r[n]? = some (k, v) := e
    have : k ≠ a := fun q => o.1 (by rw [← q]; exact List.mem_map_of_mem (f := (·.1)) (List.mem_of_getElem? e))
    rw [adel_cons, if_neg this, List.eraseIdx_cons_succ, adel_at o.2 e]
theorem dec_idx {i n : Nat} : (!decide ((i : Int) = (n : Int))) = !decide (i = 0 + n) := by
  rw [decide_eq_decide.2 (show (i : Int) = (n : Int) ↔ i = 0 + n by omega)]
section
variable {h h' : H} {p : Nat} {sd st vo vp : Sl} {so sl : List (Int × Sl)} {F F' G : Nat → Prop} {m m' : MdS}
theorem cut_eqB (w : Int) (x : S_api_Word) : ((decide ((cutW w x).Hi = x.Hi)) && ((decide ((cutW w x).Lo = x.Lo)) && true)) = decide (cutW w x = x) := by
  have e1 := eqWd_iff (cutW w x) x
  unfold eqWd at e1
  by_cases q : cutW w x = x
  · rw [decide_eq_true q]; exact e1.2 q
  · rw [decide_eq_false q]
    cases z : ((decide ((cutW w x).Hi = x.Hi)) && ((decide ((cutW w x).Lo = x.Lo)) && true)) with
    | false => rfl
    | true => exact absurd (e1.1 z) q
theorem t_rDo (x : RM h p F m) (i : MSI m) (mk : MSK m) {c : S_api_Call} {ds : List UInt8} {gs : List Int} (ad : Arr cU8 h c.Data ds) (nd : ∀ b, c.Data.foot b → ¬ F b) (ag : Arr (cInt .i64) h c.Gifts gs) (gw : GoodW c.Cap.Pass) {K : S_api_Reply → H → Prop}
    (y : ∀ s h' F', RM h' p F' (doO m c ds gs).2 → KChg F F' h h' → Buf cU8 1 N_u8 h' s (doO m c ds gs).1.data → (∀ b, s.foot b → h b = none ∧ ¬ F' b) → K ⟨(doO m c ds gs).1.code, (doO m c ds gs).1.cap, s, (doO m c ds gs).1.num⟩ h') : m_ref21_Model_Do (some ⟨p, 0, none⟩) c K h := by
  unfold m_ref21_Model_Do
  have kr : KChg F F h h := .of (.refl h)
  have nf : ∀ {P : Nat → Prop} (b : Nat), Sl.nil.foot b → P b := fun _ ⟨_, q, _⟩ => (by cases q)
  have x0 := x
  unfold doO at y
  have ln := i.lsn
  refine t_rIs ad.len ag ?_
  by_cases q0 : formedO c ds gs
  · simp only [if_pos q0] at y
    obtain ⟨sd, st, vo, vp, so, sl, x⟩ := x
    have sll := x.lenL
    have mll := x.ml.len
    rw [List.length_map] at mll
    refine w_ifF (by rw [decide_eq_true q0]; rfl) (t_rProc x (by omega) (fun e => ?_) fun n s hs => ?_)
    · simp only [if_neg (show ¬ (alook m.ls c.By).isSome = true by rw [e]; decide)] at y
      exact w_ifT rfl (w_pure _ (fun _ _ z => z) (y Sl.nil h F x0 kr Buf.nil nf))
    obtain ⟨e1, bs⟩ := x.look hs
    have e2 := alook_some x.ls.keys c.By
    rw [e1] at e2
    simp only [if_pos (show (alook m.ls c.By).isSome = true from e2.symm)] at y
    have hs' : (sl.map fun q => (⟨q.1, q.2⟩ : S_api_Process))[n]? = some ⟨c.By, s⟩ := by rw [List.getElem?_map, hs]; rfl
    have hnl := lt_of_get hs
    have blen := bs.len
    have l32 := i.list' c.By
    obtain ⟨⟨_, fi, fs, fo, fn, _, _, fdl, fgl, fgs⟩, fop, _⟩ := q0
    unfold inB at fop
    refine w_ifF (decide_eq_false (by omega)) ?_
    refine w_if' (fun q => ?_) fun q => ?_
    · have q : c.Op = 1 := q
      simp only [if_pos q] at y
      obtain ⟨s1, s2⟩ := create_sh (m := m) c.Size
      rw [s1, s2] at y
      exact t_rCreate x0 i fun h1 F1 x1 k1 => y _ h1 F1 x1 k1 Buf.nil nf
    have q : ¬ c.Op = 1 := q
    simp only [if_neg q] at y
    refine w_joinV (decide (c.Op = 2 ∨ c.Op = 4)) (fun j hj => ?_) ?_
    · refine w_if' (fun q1 => ?_) fun q1 => ?_
      · rw [decide_eq_true (.inl q1)] at hj; rw [decide_eq_true q1]; exact hj
      · rw [decide_eq_decide.2 (show (c.Op = 2 ∨ c.Op = 4) ↔ c.Op = 4 from ⟨fun z => z.resolve_left q1, .inr⟩)] at hj; exact hj
    refine w_if' (fun q24 => ?_) fun q24 => ?_
    · have ey : (if c.Op = 2 then destroyO m c.Cap else if c.Op = 3 then deriveO m c.Cap c.Rights else if c.Op = 4 then revokeO m c.Cap else if c.Op = 5 then readO m c else if c.Op = 6 then writeO m c ds else if c.Op = 7 then addO m c else if c.Op = 8 then removeO m c else if c.Op = 9 then spawnO m c gs else (refO 0, { m with ls := adel m.ls c.By })) = awayO m c.Cap c.Op := by
        unfold awayO
        rcases q24 with q | q <;> rw [q] <;> rfl
      rw [ey] at y
      have sh : (awayO m c.Cap c.Op).1.cap = cap0 ∧ (awayO m c.Cap c.Op).1.data = [] ∧ (awayO m c.Cap c.Op).1.num = 0 := by
        unfold awayO
        split
        · exact destroy_sh _
        · exact revoke_sh _
      obtain ⟨s0, s1, s2⟩ := sh
      rw [s0, s1, s2] at y
      exact t_rAway x0 i mk fun h1 F1 x1 k1 => y _ h1 F1 x1 k1 Buf.nil nf
    have q2 : ¬ c.Op = 2 := fun z => q24 (.inl z)
    have q4 : ¬ c.Op = 4 := fun z => q24 (.inr z)
    simp only [if_neg q2, if_neg q4] at y
    refine w_if' (fun q => ?_) fun q => ?_
    · have q : c.Op = 3 := q
      simp only [if_pos q] at y
      obtain ⟨s1, s2⟩ := derive_sh (m := m) c.Cap c.Rights
      rw [s1, s2] at y
      exact t_rDerive x0 i mk fun h1 F1 x1 k1 => y _ h1 F1 x1 k1 Buf.nil nf
    have q : ¬ c.Op = 3 := q
    simp only [if_neg q] at y
    refine w_joinV (decide (c.Op = 5 ∨ c.Op = 6)) (fun j hj => ?_) ?_
    · refine w_if' (fun q1 => ?_) fun q1 => ?_
      · rw [decide_eq_true (.inl q1)] at hj; rw [decide_eq_true q1]; exact hj
      · rw [decide_eq_decide.2 (show (c.Op = 5 ∨ c.Op = 6) ↔ c.Op = 6 from ⟨fun z => z.resolve_left q1, .inr⟩)] at hj; exact hj
    refine w_if' (fun q56 => ?_) fun q56 => ?_
    · have ey : (if c.Op = 5 then readO m c else if c.Op = 6 then writeO m c ds else if c.Op = 7 then addO m c else if c.Op = 8 then removeO m c else if c.Op = 9 then spawnO m c gs else (refO 0, { m with ls := adel m.ls c.By })) = moveO m c ds := by
        unfold moveO
        rcases q56 with q | q
        · rw [if_pos q, if_neg (by rw [q]; decide)]
        · rw [if_neg (by rw [q]; decide), if_pos q, if_pos q]
      rw [ey] at y
      have sh : (moveO m c ds).1.cap = cap0 ∧ (moveO m c ds).1.num = 0 := by
        unfold moveO
        split
        · exact ⟨(write_sh c ds).1, (write_sh c ds).2.2⟩
        · exact ⟨(read_sh c).2.1, (read_sh c).2.2⟩
      rw [sh.1, sh.2] at y
      exact t_rMove x i mk ad (by omega) nd fo fn q56 hs fun s3 h3 x3 k3 b3 f3 => y s3 h3 F x3 k3 b3 fun b g => ⟨f3 b g, fun z => x0.has b z (f3 b g)⟩
    have q5 : ¬ c.Op = 5 := fun z => q56 (.inl z)
    have q6 : ¬ c.Op = 6 := fun z => q56 (.inr z)
    simp only [if_neg q5, if_neg q6] at y
    refine w_if' (fun q => ?_) fun q => ?_
    · have q : c.Op = 7 := q
      simp only [if_pos q] at y
      obtain ⟨s0, s1, s2⟩ := add_sh (m := m) c
      rw [s0, s1, s2] at y
      have cfgw := i.cfg.1
      unfold addO at y
      refine w_deref (w_load x.fWid (w_RkCut gw cfgw.1 cfgw.2 ?_))
      rw [cut_eqB]
      by_cases q1 : cutW m.c.Width c.Cap.Pass = c.Cap.Pass
      · simp only [if_pos q1] at y
        refine w_ifF (by rw [decide_eq_true q1]; rfl) (w_deref (w_deref (w_load x.f14 (w_field pr_len x.ml.arr hs' rfl (v' := s) (cells' := cSl) (l1 := (S_api_Process.cells ⟨c.By, s⟩).take 1) (l3 := []) rfl rfl (w_load x.fLis (w_if' (fun q2 => ?_) fun q2 => ?_))))))
        · have q2 : m.c.List ≤ (s.len : Int) := q2
          rw [blen] at q2
          simp only [if_pos q2] at y
          exact w_pure _ (fun _ _ z => z) (y Sl.nil h F x0 kr Buf.nil nf)
        have q2 : ¬ m.c.List ≤ (s.len : Int) := q2
        rw [blen] at q2
        simp only [if_neg q2] at y
        refine w_deref (w_deref (w_empty (T := S_api_Cap) (cells := cCp) (sz := 3) fun b h1 hb b1 k1 => ?_))
        have x1 := x.keep k1
        refine w_load x1.f14 (w_field pr_len x1.ml.arr hs' rfl (v' := s) (cells' := cSl) (l1 := (S_api_Process.cells ⟨c.By, s⟩).take 1) (l3 := []) rfl rfl ?_)
        have bs1 := bs.keep k1
        refine w_joinP (fun (z : Sl × Sl) hh => z.1 = vp ∧ Buf cCp 3 N_api_Cap hh z.2 (listO m c.By ++ [c.Cap]) ∧ Keeps h hh ∧ ∀ v, z.2.foot v → h v = none) (fun j hj => ?_) ?_
        · have A : ∀ {k : Sl → H → Prop}, (∀ s2 h2, Buf cCp 3 N_api_Cap h2 s2 (listO m c.By) → Keeps h h2 → (∀ v, s2.foot v → h v = none) → k s2 h2) → mAppend N_api_Cap 3 24 #[(Value.int .i64 0), (Value.int .u64 0), (Value.int .u64 0)] (⟨some ⟨b, 0, none⟩, 0, 0⟩ : Sl) s k h1 := fun {k} z =>
            w_anew cap_len cap_plain rfl k1 hb b1 bs1.arr (by omega) fun s2 h2 b2 k2 f2 _ => z s2 h2 b2 k2 f2
          have B : ∀ {k : Sl → H → Prop} {s2 h2}, Buf cCp 3 N_api_Cap h2 s2 (listO m c.By) → Keeps h h2 → (∀ v, s2.foot v → h v = none) → (∀ s3 h3, Buf cCp 3 N_api_Cap h3 s3 (listO m c.By ++ [c.Cap]) → Keeps h h3 → (∀ v, s3.foot v → h v = none) → k s3 h3) → mApp N_api_Cap 3 24 #[(Value.int .i64 0), (Value.int .u64 0), (Value.int .u64 0)] 1 [(Value.int .i64 c.Cap.Obj), (Value.int .u64 c.Cap.Pass.Hi), (Value.int .u64 c.Cap.Pass.Lo)] s2 k h2 := fun {k s2 h2} b2 k2 f2 z =>
            w_app cap_len rfl b2 [c.Cap] rfl rfl (.inl (by show (2 * (_ + 1) + 192) * 24 ≤ 2 ^ 48; omega)) fun s3 h3 b3 bt3 f3 d3 => z s3 h3 b3 (k2.but bt3 f2) fun v g => (f3 v g).elim (f2 v) fun q => k2.fresh q
          have C : ∀ {s3 h3}, Buf cCp 3 N_api_Cap h3 s3 (listO m c.By ++ [c.Cap]) → Keeps h h3 → (∀ v, s3.foot v → h v = none) → j (vp, s3) h3 := fun b3 k3 f3 => hj _ _ ⟨rfl, b3, k3, f3⟩
          have L : ∀ {hh} {k : Sl → H → Prop}, Keeps h hh → k vp hh → mLoad cSl ((⟨p, 0, none⟩ : Addr).add 14) k hh := fun kh z => w_load (x.keep kh).f14 z
          have AB : ∀ {k : Sl → H → Prop}, (∀ s3 h3, Buf cCp 3 N_api_Cap h3 s3 (listO m c.By ++ [c.Cap]) → Keeps h h3 → (∀ v, s3.foot v → h v = none) → k s3 h3) → mAppend N_api_Cap 3 24 #[(Value.int .i64 0), (Value.int .u64 0), (Value.int .u64 0)] (⟨some ⟨b, 0, none⟩, 0, 0⟩ : Sl) s (fun s33 => mApp N_api_Cap 3 24 #[(Value.int .i64 0), (Value.int .u64 0), (Value.int .u64 0)] 1 [(Value.int .i64 c.Cap.Obj), (Value.int .u64 c.Cap.Pass.Hi), (Value.int .u64 c.Cap.Pass.Lo)] s33 k) h1 := fun {k} z =>
            A fun s2 h2 b2 k2 f2 => B b2 k2 f2 z
          have T1 : mAppend N_api_Cap 3 24 #[(Value.int .i64 0), (Value.int .u64 0), (Value.int .u64 0)] (⟨some ⟨b, 0, none⟩, 0, 0⟩ : Sl) s (fun s37 => mBoth (mLoad cSl ((⟨p, 0, none⟩ : Addr).add 14) fun x38 => mApp N_api_Cap 3 24 #[(Value.int .i64 0), (Value.int .u64 0), (Value.int .u64 0)] 1 [(Value.int .i64 c.Cap.Obj), (Value.int .u64 c.Cap.Pass.Hi), (Value.int .u64 c.Cap.Pass.Lo)] s37 fun s39 => j (x38, s39)) (mApp N_api_Cap 3 24 #[(Value.int .i64 0), (Value.int .u64 0), (Value.int .u64 0)] 1 [(Value.int .i64 c.Cap.Obj), (Value.int .u64 c.Cap.Pass.Hi), (Value.int .u64 c.Cap.Pass.Lo)] s37 fun s40 => mLoad cSl ((⟨p, 0, none⟩ : Addr).add 14) fun x41 => j (x41, s40))) h1 :=
            A fun s2 h2 b2 k2 f2 => w_both (L k2 (B b2 k2 f2 fun s3 h3 b3 k3 f3 => C b3 k3 f3)) (B b2 k2 f2 fun s3 h3 b3 k3 f3 => L k3 (C b3 k3 f3))
          exact w_both (L k1 (w_both (AB fun s3 h3 b3 k3 f3 => C b3 k3 f3) (AB fun s3 h3 b3 k3 f3 => C b3 k3 f3))) (w_both T1 (w_both (L k1 (AB fun s3 h3 b3 k3 f3 => C b3 k3 f3)) T1))
        rintro ⟨_, s3⟩ h3 ⟨rfl, b3, k3, f3⟩
        have x3 := x.keep k3
        refine x3.putL hs b3 (fun v g z => x.has v z (f3 v g)) fun h4 x4 bt4 d4 => ?_
        exact y Sl.nil h4 _ x4 ⟨(But.of k3).trans bt4 fun _ g => .inl g, fun v g => g.imp id (f3 v), fun v z => k3.fresh (d4 v z)⟩ Buf.nil nf
      · simp only [if_neg q1] at y
        exact w_ifT (by rw [decide_eq_false q1]; rfl) (w_pure _ (fun _ _ z => z) (y Sl.nil h F x0 kr Buf.nil nf))
    have q : ¬ c.Op = 7 := q
    simp only [if_neg q] at y
    refine w_if' (fun q => ?_) fun q => ?_
    · have q : c.Op = 8 := q
      simp only [if_pos q] at y
      obtain ⟨s0, s1, s2⟩ := remove_sh (m := m) c
      rw [s0, s1, s2] at y
      unfold removeO at y
      refine w_deref (w_load x.f14 (w_field pr_len x.ml.arr hs' rfl (v' := s) (cells' := cSl) (l1 := (S_api_Process.cells ⟨c.By, s⟩).take 1) (l3 := []) rfl rfl (w_if' (fun q2 => ?_) fun q2 => ?_)))
      · have q2 : (s.len : Int) ≤ c.Index := q2
        rw [blen] at q2
        simp only [if_pos q2] at y
        exact w_pure _ (fun _ _ z => z) (y Sl.nil h F x0 kr Buf.nil nf)
      have q2 : ¬ (s.len : Int) ≤ c.Index := q2
      rw [blen] at q2
      simp only [if_neg q2] at y
      unfold inB at fi
      obtain ⟨k, ek⟩ : ∃ k : Nat, c.Index = k := ⟨c.Index.toNat, by omega⟩
      rw [ek, Int.toNat_natCast] at y
      rw [ek]
      refine w_filter (cells := cCp) (sz := 3) (by_ := 24) (e := N_api_Cap) cap_len rfl (fun kk => mDeref (some ⟨p, 0, none⟩) fun ad58 => mLoad cSl (ad58.add 14) fun x59 => mIdx x59 (n : Int) 2 fun ad60 => mLoad cSl (ad60.add 1) kk)
        (fun j kk => kk (!decide (j = (k : Int)))) (v := s) (fun j _ => !decide (j = 0 + k))
        (fun hh kk kh z => w_deref (w_load (x.keep kh).f14 (w_field pr_len (x.keep kh).ml.arr hs' rfl (v' := s) (cells' := cSl) (l1 := (S_api_Process.cells ⟨c.By, s⟩).take 1) (l3 := []) rfl rfl z)))
        (fun j t hh kk _ _ z => by rw [dec_idx]; exact z)
        bs.arr (by omega) (by omega) fun s3 h3 b3 k3 f3 => ?_
      rw [filI_era k 0] at b3
      have x3 := x.keep k3
      refine w_deref (w_load x3.f14 (x3.putL hs b3 (fun v g z => x.has v z (f3 v g)) fun h4 x4 bt4 d4 => ?_))
      exact y Sl.nil h4 _ x4 ⟨(But.of k3).trans bt4 fun _ g => .inl g, fun v g => g.imp id (f3 v), fun v z => k3.fresh (d4 v z)⟩ Buf.nil nf
    have q : ¬ c.Op = 8 := q
    simp only [if_neg q] at y
    refine w_if' (fun q => ?_) fun q => ?_
    · have q : c.Op = 9 := q
      simp only [if_pos q] at y
      obtain ⟨s0, s1⟩ := spawn_sh (m := m) c gs
      rw [s0, s1] at y
      refine w_deref (w_load x.f14 (w_field pr_len x.ml.arr hs' rfl (v' := s) (cells' := cSl) (l1 := (S_api_Process.cells ⟨c.By, s⟩).take 1) (l3 := []) rfl rfl ?_))
      exact t_rSpawn x i ag fgl fgs bs rfl fun h1 F1 x1 k1 => y _ h1 F1 x1 k1 Buf.nil nf
    have q : ¬ c.Op = 9 := q
    simp only [if_neg q] at y
    refine w_ifT (decide_eq_true (by omega)) ?_
    refine w_filter (cells := S_api_Process.cells) (sz := 2) (by_ := 32) (e := N_api_Process) pr_len rfl (fun kk => mDeref (some ⟨p, 0, none⟩) fun ad58 => mLoad cSl (ad58.add 14) kk)
      (fun j kk => kk (!decide (j = (n : Int)))) (v := vp) (fun j _ => !decide (j = 0 + n))
      (fun hh kk kh z => w_deref (w_load (x.keep kh).f14 z))
      (fun j t hh kk _ _ z => by rw [dec_idx]; exact z)
      x.ml.arr (by rw [List.length_map]; omega) (by rw [List.length_map]; omega) fun s3 h3 b3 k3 f3 => ?_
    rw [filI_era n 0, ← map_eraseIdx, ← adel_at x.ls.onceS hs] at b3
    have x3 := x.keep k3
    refine w_deref (x3.setP b3 (x3.ls.del c.By) fun h4 x4 bt4 d4 => ?_)
    exact y Sl.nil h4 _ ⟨_, _, _, _, _, _, x4⟩ ⟨(But.of k3).trans bt4 fun v e => (by rw [e]; exact .inl x.fp), fun v g => g.imp id (f3 v), fun v z => k3.fresh (d4 v z)⟩ Buf.nil nf
  · simp only [if_neg q0] at y
    exact w_ifT (by rw [decide_eq_false q0]; rfl) (w_pure _ (fun _ _ z => z) (y Sl.nil h F x0 kr Buf.nil nf))
end
theorem tok_len5 : ∀ x : S_api_Token, (S_api_Token.cells x).length = 5 := fun _ => rfl
theorem bel_take {ts : List Tk} (o : Int) (f : Nat) (n at_ : Int) (out : List S_api_Token) (j : Nat) : ((ts.take j).foldl (belF ts o f n at_) out).length ≤ out.length + cntB ts o (f + 1) n := by
  rw [belF_len]
  have e : (ts.map fun t => if t.xcap.Obj = o ∧ t.xparent = n then 1 + cntB ts o f t.xname else 0).sum = cntB ts o (f + 1) n := rfl
  have e2 := congrArg (fun l => (l.map fun t : Tk => if t.xcap.Obj = o ∧ t.xparent = n then 1 + cntB ts o f t.xname else 0).sum) (List.take_append_drop j ts)
  simp only [List.map_append, List.sum_append] at e2
  omega
section
variable {p : Nat} {F : Nat → Prop} {m : MdS}
theorem t_rUnder_n (i : MSI m) (mk : MSK m) : ∀ (f : Nat) {h : H} {t : Tk} {par : Int} {s : Sl} {out : List S_api_Token}, t ∈ m.ts → RM h p F m → Buf S_api_Token.cells 5 N_api_Token h s out → (∀ c, s.foot c → ¬ F c) → cP (fun u => t.xname < u.xname) m.ts < f → out.length + 1 + cntB m.ts t.xcap.Obj f t.xname ≤ 2 ^ 30 → ∀ {K : Sl → H → Prop},
    (∀ s' h', Buf S_api_Token.cells 5 N_api_Token h' s' (belowO m.ts t.xcap.Obj f t.xname (out.length : Int) (out ++ [⟨t.xcap, t.xrights, par⟩])) → But s.foot h h' → (∀ c, s'.foot c → s.foot c ∨ h c = none) → (∀ c, h' c = none → h c = none) → K s' h') → m_ref21_Model_under_n f (some ⟨p, 0, none⟩) (heldOf t) par s K h
  | 0, _, _, _, _, _, _, _, _, _, me, _, _, _ => absurd me (Nat.not_lt_zero _)
  | f + 1, h, t, par, s, out, hm, x, b, ns, me, room, K, y => by
    show m_ref21_Model_under_s (m_ref21_Model_under_n f) (some ⟨p, 0, none⟩) (heldOf t) par s K h
    unfold m_ref21_Model_under_s
    have x0 := x
    obtain ⟨sd, st, vo, vp, so, sl, x⟩ := x
    have hl := x.ts.len
    rw [List.length_map] at hl
    have tn := i.tsn
    have bl := b.len
    have nst : ∀ c, st.foot c → ¬ s.foot c := fun c g g' => ns c g' (x.ft c g)
    rw [belowO_succ] at y
    have kinT : ∀ u ∈ m.ts, u.xparent = t.xname → u.xcap.Obj = t.xcap.Obj := fun u hu => mk.kin t hm u hu
    refine w_app tok_len5 rfl b [(⟨t.xcap, t.xrights, par⟩ : S_api_Token)] rfl rfl (.inl (by simp only [List.length_singleton]; omega)) fun s1 h1 b1 bt1 f1 d1 => ?_
    have x1 : RM h1 p F m := x0.but bt1 (fun c g g' => ns c g' g) d1
    generalize eo : out ++ [(⟨t.xcap, t.xrights, par⟩ : S_api_Token)] = out1 at *
    have lo : out1.length = out.length + 1 := by rw [← eo, List.length_append]; rfl
    have rm : ∀ j, ((m.ts.take j).foldl (belF m.ts t.xcap.Obj f t.xname (out.length : Int)) out1).length ≤ 2 ^ 30 := fun j => by
      have := bel_take (ts := m.ts) t.xcap.Obj f t.xname (out.length : Int) out1 j
      omega
    refine w_for m.ts.length (fun j (z : Sl × Int) hh => z.2 = (j : Int) ∧ Buf S_api_Token.cells 5 N_api_Token hh z.1 ((m.ts.take j).foldl (belF m.ts t.xcap.Obj f t.xname (out.length : Int)) out1) ∧ But s.foot h hh ∧ (∀ c, z.1.foot c → s.foot c ∨ h c = none) ∧ ∀ c, hh c = none → h c = none) ?_ ⟨rfl, b1, bt1, f1, d1⟩
    rintro rec j ⟨sj, _⟩ hh hj ⟨ej, bj, bt, fj, dj⟩ more
    have ej : _ = (j : Int) := ej
    subst ej
    have fj : ∀ c, sj.foot c → s.foot c ∨ h c = none := fj
    have bj : Buf S_api_Token.cells 5 N_api_Token hh sj ((m.ts.take j).foldl (belF m.ts t.xcap.Obj f t.xname (out.length : Int)) out1) := bj
    have xh : RMA hh p sd st vo vp so sl F m := x.but bt (fun c g g' => ns c g' g) dj
    have xh0 : RM hh p F m := ⟨_, _, _, _, _, _, xh⟩
    have nsj : ∀ c, sj.foot c → ¬ F c := fun c g g' => (fj c g).elim (fun g => ns c g g') fun z => x.has c g' z
    refine w_deref (w_load xh.f13 (w_if' (fun c => ?_) fun c => ?_))
    · have c : (j : Int) < (st.len : Int) := c
      have hjl : j < m.ts.length := by omega
      have ht := List.getElem?_eq_getElem hjl
      have hmu := List.getElem_mem hjl
      generalize m.ts[j] = u at ht hmu
      have hu' : (m.ts.map heldOf)[j]? = some (heldOf u) := by rw [List.getElem?_map, ht]; rfl
      have fs : (m.ts.take (j + 1)).foldl (belF m.ts t.xcap.Obj f t.xname (out.length : Int)) out1 = belF m.ts t.xcap.Obj f t.xname (out.length : Int) ((m.ts.take j).foldl (belF m.ts t.xcap.Obj f t.xname (out.length : Int)) out1) u := by rw [List.take_add_one, ht, List.foldl_append]; rfl
      have r1 := rm (j + 1)
      have r0 := rm j
      rw [fs] at r1
      generalize (m.ts.take j).foldl (belF m.ts t.xcap.Obj f t.xname (out.length : Int)) out1 = cur at bj fs r1 r0
      refine w_deref (w_load xh.f13 (w_field hd_len xh.ts.arr hu' rfl (v' := u.xparent) (cells' := cInt .i64) (l1 := (cHd (heldOf u)).take 1) (l3 := (cHd (heldOf u)).drop 2) rfl rfl (w_if' (fun q => ?_) fun q => ?_)))
      · have q : u.xparent = t.xname := q
        have qo := kinT u hmu q
        rw [belF, if_pos ⟨qo, q⟩, below_len] at r1
        rw [belF, if_pos ⟨qo, q⟩] at fs
        rw [List.length_append, List.length_singleton] at r1
        have me' := above_lt i.ok hmu q
        rw [bl]
        refine w_deref (w_load xh.f13 (w_get hd_len xh.ts.arr hu' rfl rfl ?_))
        rw [← qo] at fs r1
        refine t_rUnder_n i mk f hmu xh0 bj nsj (by omega) (by omega) fun s8 h8 b8 bt8 f8 d8 => ?_
        refine more _ _ hjl ⟨ia1 j (by omega), by rw [qo] at fs b8; rw [fs]; exact b8, bt.trans bt8 fun c g => fj c g, fun c g => ?_, fun c z => dj c (d8 c z)⟩
        exact (f8 c g).elim (fj c) fun z => .inr (dj c z)
      · have q : ¬ u.xparent = t.xname := q
        rw [belF, if_neg (fun z => q z.2)] at fs
        exact more _ _ hjl ⟨ia1 j (by omega), by rw [fs]; exact bj, bt, fj, dj⟩
    · have c : ¬ (j : Int) < (st.len : Int) := c
      rw [List.take_of_length_le (by omega)] at bj
      exact y sj hh bj bt fj dj
theorem t_rUnder (i : MSI m) (mk : MSK m) {h : H} {t : Tk} {par : Int} {s : Sl} {out : List S_api_Token} (hm : t ∈ m.ts) (h0 : t.xparent = 0) (x : RM h p F m) (b : Buf S_api_Token.cells 5 N_api_Token h s out) (ns : ∀ c, s.foot c → ¬ F c) (room : out.length ≤ 2 ^ 29) {K : Sl → H → Prop}
    (y : ∀ s' h', Buf S_api_Token.cells 5 N_api_Token h' s' (belowO m.ts t.xcap.Obj m.ts.length t.xname (out.length : Int) (out ++ [⟨t.xcap, t.xrights, par⟩])) → But s.foot h h' → (∀ c, s'.foot c → s.foot c ∨ h c = none) → (∀ c, h' c = none → h c = none) → K s' h') : m_ref21_Model_under (some ⟨p, 0, none⟩) (heldOf t) par s K h := by
  have cl := cntB_le i.ok t.xcap.Obj m.ts.length t.xname
  have tn := i.tsn
  have al := above_lt i.ok hm h0
  have cl2 : cP (fun u => (0 : Int) < u.xname) m.ts ≤ m.ts.length := List.countP_le_length
  exact ⟨m.ts.length, t_rUnder_n i mk m.ts.length hm x b ns (by omega) (by omega) y⟩
end
section
variable {h : H}
theorem t_rNew {c : S_api_Config} {a : Sl} {xs : List S_api_Word} (ar : Arr cW h a xs) (hx : xs.length ≤ 2 ^ 40) {K : Option Addr → H → Prop} (y : ∀ p F h', RM h' p F (newO c xs) → Keeps h h' → (∀ c, F c → h c = none) → K (some ⟨p, 0, none⟩) h') : m_ref21_New c a K h := by
  unfold m_ref21_New
  refine w_empty (T := S_api_Word) (cells := cW) (sz := 2) fun b h1 hb b1 k1 => ?_
  refine w_joinP (fun (z : Sl × Sl) hh => Buf cW 2 N_api_Word hh z.1 xs ∧ Buf S_api_Process.cells 2 N_api_Process hh z.2 [⟨0, Sl.nil⟩] ∧ Keeps h hh ∧ ∀ c, z.1.foot c ∨ z.2.foot c → h c = none) (fun j hj => ?_) ?_
  · have A : ∀ {h2} {k : Sl → H → Prop}, Keeps h1 h2 → (∀ s h3, Buf cW 2 N_api_Word h3 s xs → Keeps h h3 → (∀ c, s.foot c → h c = none) → But (· = b) h2 h3 → k s h3) → mAppend N_api_Word 2 16 #[(Value.int .u64 0), (Value.int .u64 0)] (⟨some ⟨b, 0, none⟩, 0, 0⟩ : Sl) a k h2 := fun {h2 k} k2 z =>
      w_anew word_len word_plain rfl (k1.trans k2) hb (b1.keep k2) (ar.keep (k1.trans k2)) (by omega) z
    have B : ∀ {h2} {k : Addr → H → Prop}, (∀ d h3, h2 d = none → Buf S_api_Process.cells 2 N_api_Process h3 ⟨some ⟨d, 0, none⟩, 1, 1⟩ [⟨0, Sl.nil⟩] → Keeps h2 h3 → k ⟨d, 0, none⟩ h3) → mNew N_api_Process #[(Value.int .i64 0), (Sl.val Sl.nil)] k h2 := fun {h2 k} z =>
      w_box fun d h3 hd q3 k3 => z d h3 hd (Buf.one (x := (⟨0, Sl.nil⟩ : S_api_Process)) pr_len q3) k3
    have ft : ∀ {d : Nat} {hh : H}, hh d = none → Keeps h hh → ∀ c, (⟨some ⟨d, 0, none⟩, 1, 1⟩ : Sl).foot c → h c = none := fun hd kh c ⟨ad, ha, e⟩ => by cases ha; rw [← e]; exact kh.fresh hd
    refine w_both (A (.refl _) fun s h2 b2 k2 f2 _ => B fun d h3 hd b3 k3 => hj _ _ ⟨b2.keep k3, b3, k2.trans k3, fun c g => g.elim (f2 c) (ft hd k2 c)⟩) (B fun d h2 hd b2 k2 => A k2 fun s h3 b3 k3 f3 bt3 => hj _ _ ⟨b3, b2.but bt3 fun ad ha e => ?_, k3, fun c g => g.elim (f3 c) (ft hd k1 c)⟩)
    exact (b2.typed ⟨ad, ha, rfl⟩).ne ((b1.keep k2).typed ⟨⟨b, 0, none⟩, rfl, rfl⟩) (by decide) e
  rintro ⟨s1, s2⟩ h2 ⟨b1, b2, k2, f2⟩
  refine w_box fun p h3 hp q3 k3 => ?_
  have k03 := k2.trans k3
  refine y p (fun z => z = p ∨ s1.foot z ∨ s2.foot z) h3 ⟨s1, Sl.nil, Sl.nil, s2, [], [(0, Sl.nil)], ⟨q3, b1.keep k3, Buf.nil, Buf.nil, b2.keep k3, Rows.nil, ⟨rfl, by show Once [((0 : Int), ([] : List S_api_Cap))]; simp [Once], fun k s' xs' q q' => ?_, fun k k' s' s'' ne q q' => ?_, fun k s' q => ?_⟩, .inl rfl, fun _ g => .inr (.inl g), fun _ ⟨_, e, _⟩ => (by cases e), fun _ ⟨_, e, _⟩ => (by cases e), fun _ g => .inr (.inr g), fun z g => ?_⟩⟩ k03 fun z g => ?_
  · have q' : alook [((0 : Int), ([] : List S_api_Cap))] k = some xs' := q'
    rw [alook_cons] at q q'
    split at q
    · next e => rw [if_pos e] at q'; cases q; cases q'; exact Buf.nil
    · cases q
  · rw [alook_cons] at q q'
    split at q
    · cases q; exact fun _ ⟨_, e, _⟩ => (by cases e)
    · cases q
  · rw [alook_cons] at q
    split at q
    · cases q; exact fun _ ⟨_, e, _⟩ => (by cases e)
    · cases q
  · rcases g with rfl | g | g
    · rw [q3]; simp
    · exact (b1.keep k3).has g
    · exact (b2.keep k3).has g
  · rcases g with rfl | g | g
    · exact k2.fresh hp
    · exact f2 z (.inl g)
    · exact f2 z (.inr g)
end
section
variable {T : Type} {cells : T → List Value} {sz : Nat} {e : TypeId}
theorem Rows.snoc {h h' : H} {F F' G : Nat → Prop} {so : List (Int × Sl)} {ob : List (Int × List T)} (x : Rows cells sz e h F so ob) (k : But G h h') (nG : ∀ c, F c → ¬ G c) {ky : Int} (nk : ky ∉ ob.map (·.1)) {s : Sl} {xs : List T} (b : Buf cells sz e h' s xs) (nw : ∀ c, s.foot c → ¬ F c) (sub : ∀ c, F c ∨ s.foot c → F' c) : Rows cells sz e h' F' (so ++ [(ky, s)]) (ob ++ [(ky, xs)]) := by
  have nso : ky ∉ so.map (·.1) := by rw [x.keys]; exact nk
  have := (x.but k fun i t q c g => nG c (x.foot i t q c g)).give (k := ky) b nw
  rw [aset_new nso, aset_new nk] at this
  exact this.mono sub
end
section
variable {h : H} {p : Nat} {F : Nat → Prop} {m : MdS}
theorem once_take {V : Type} {l : List (Int × V)} (o : Once l) {j : Nat} {q : Int × V} (e : l[j]? = some q) : q.1 ∉ (l.take j).map (·.1) := fun z => by
  unfold Once at o
  have e1 : (l.map (·.1)).take (j + 1) = (l.map (·.1)).take j ++ [q.1] := by rw [List.take_add_one, List.getElem?_map, e]; rfl
  have := o.sublist (List.take_sublist (j + 1) (l.map (·.1)))
  rw [e1, List.nodup_append] at this
  rw [List.map_take] at z
  exact this.2.2 _ z _ (List.mem_singleton_self _) rfl
theorem t_rState (x : RM h p F m) (i : MSI m) (mk : MSK m) {K : S_api_State → H → Prop} (y : ∀ s h' so sl G, StAt h h' s (stateO m) so sl G → Keeps h h' → K s h') : m_ref21_Model_State (some ⟨p, 0, none⟩) K h := by
  unfold m_ref21_Model_State
  have x0 := x
  obtain ⟨sd, st, vo, vp, so, sl, x⟩ := x
  have on := i.obn
  have ln := i.lsn
  have tn := i.tsn
  have slo := x.lenO
  have sll := x.lenL
  have mol := x.mo.len
  rw [List.length_map] at mol
  have mll := x.ml.len
  rw [List.length_map] at mll
  have tsl := x.ts.len
  rw [List.length_map] at tsl
  have nof : ∀ {P : Nat → Prop} (b : Nat), Sl.nil.foot b → P b := fun _ ⟨_, q, _⟩ => (by cases q)
  let TT : Nat → List S_api_Token := fun j => (m.ob.take j).foldl (fun out q => belowO m.ts q.1 (m.ts.length + 1) 0 (-1) out) []
  refine w_deref (w_deref (w_deref (w_load x.f15 (w_load x.f16 (w_load x.f11 ?_)))))
  refine w_for so.length (fun j (z : Int × Sl × Sl × Sl × Int × Int × Int) hh => ∃ so1 st1 so' G, z = ((j : Int), so1, st1, Sl.nil, m.ni, m.np, (m.tk : Int)) ∧ Buf S_api_Object.cells 2 N_api_Object hh so1 (so'.map fun q => (⟨q.1, q.2⟩ : S_api_Object)) ∧ Rows cU8 1 N_u8 hh G so' (m.ob.take j) ∧ Buf S_api_Token.cells 5 N_api_Token hh st1 (TT j) ∧ (TT j).length ≤ j * 256 ∧ (∀ c, so1.foot c ∨ st1.foot c ∨ G c → h c = none) ∧ (∀ c, G c → Typed hh N_u8 c) ∧ Keeps h hh) ?_
    ⟨Sl.nil, Sl.nil, [], fun _ => False, rfl, Buf.nil, Rows.nil, Buf.nil, Nat.zero_le _, fun c g => g.elim (fun ⟨_, q, _⟩ => (by cases q)) fun g => g.elim (fun ⟨_, q, _⟩ => (by cases q)) False.elim, fun _ g => g.elim, .refl _⟩
  rintro rec j _ hh hj ⟨so1, st1, so', G, rfl, bo1, ro1, bt1, lt1, fr1, tg1, kh⟩ more
  have xh := x.keep kh
  have lso' : so'.length = (m.ob.take j).length := by
    have := congrArg List.length ro1.keys
    rwa [List.length_map, List.length_map] at this
  rw [List.length_take] at lso'
  refine w_deref (w_load xh.f12 (w_if' (fun c => ?_) fun c => ?_))
  · have c : (j : Int) < (vo.len : Int) := c
    have hjl : j < so.length := by omega
    have hjo : j < m.ob.length := by omega
    have hq := List.getElem?_eq_getElem hjl
    have ho := List.getElem?_eq_getElem hjo
    generalize so[j] = q at hq
    generalize m.ob[j] = o at ho
    have eky : q.1 = o.1 := by
      have := congrArg (fun l => l[j]?) x.ob.keys
      simp only [List.getElem?_map, hq, ho, Option.map_some, Option.some.injEq] at this
      exact this
    have hq' : (so.map fun q => (⟨q.1, q.2⟩ : S_api_Object))[j]? = some ⟨q.1, q.2⟩ := by rw [List.getElem?_map, hq]; rfl
    have bq : Buf cU8 1 N_u8 h q.2 o.2 := x.ob.buf q.1 q.2 o.2 (x.ob.onceS.look (List.mem_of_getElem? hq)) (by rw [eky]; exact i.obo.look (List.mem_of_getElem? ho))
    have ob4 := i.obs o (List.mem_of_getElem? ho)
    refine w_deref (w_deref (w_empty (T := UInt8) (cells := cU8) (sz := 1) fun b h1 hb b1 k1 => ?_))
    have k01 := kh.trans k1
    have x1 := x.keep k01
    refine w_load x1.f12 (w_field ob_len x1.mo.arr hq' rfl (v' := q.2) (cells' := cSl) (l1 := (S_api_Object.cells ⟨q.1, q.2⟩).take 1) (l3 := []) rfl rfl ?_)
    refine w_joinP (fun (z : Int × Sl) h2 => z.1 = q.1 ∧ Buf cU8 1 N_u8 h2 z.2 o.2 ∧ Keeps hh h2 ∧ ∀ c, z.2.foot c → hh c = none) (fun jn hjn => ?_) ?_
    · have A : ∀ {k : Sl → H → Prop}, (∀ s2 h2, Buf cU8 1 N_u8 h2 s2 o.2 → Keeps hh h2 → (∀ v, s2.foot v → hh v = none) → But (· = b) h1 h2 → k s2 h2) → mAppend N_u8 1 1 #[(Value.int .u8 0)] (⟨some ⟨b, 0, none⟩, 0, 0⟩ : Sl) q.2 k h1 := fun {k} z =>
        w_anew u8_len u8_plain rfl k1 hb b1 (bq.keep k01).arr (by omega) z
      refine w_both (w_load x1.f12 (w_idx ob_len x1.mo.arr hq' rfl fun a hidx ha => ?_)) (A fun s2 h2 b2 k2 f2 _ => ?_)
      · have ha' : At h1 (a.add 0) (cInt .i64 q.1) := ha.sub (l1 := []) (l2 := cInt .i64 q.1) (l3 := (S_api_Object.cells ⟨q.1, q.2⟩).drop 1) rfl
        refine w_both (w_load ha' (A fun s2 h2 b2 k2 f2 _ => hjn _ _ ⟨rfl, b2, k2, f2⟩)) (A fun s2 h2 b2 k2 f2 bt2 => w_load (ha'.but bt2 fun e => ?_) (hjn _ _ ⟨rfl, b2, k2, f2⟩))
        obtain ⟨a0, ha0, _, _, rfl⟩ := hidx
        rw [add_block, add_block] at e
        exact (x1.mo.typed ⟨a0, ha0, rfl⟩).ne (b1.typed ⟨⟨b, 0, none⟩, rfl, rfl⟩) (by decide) e
      · have x2 := x.keep (kh.trans k2)
        exact w_load x2.f12 (w_field ob_len x2.mo.arr hq' rfl (v' := q.1) (cells' := cInt .i64) (l1 := []) (l3 := (S_api_Object.cells ⟨q.1, q.2⟩).drop 1) rfl rfl (hjn _ _ ⟨rfl, b2, k2, f2⟩))
    · rintro ⟨_, s2⟩ h2 ⟨rfl, b2, k2, f2⟩
      have x2 := x.keep (kh.trans k2)
      refine w_app (cells := S_api_Object.cells) (sz := 2) (by_ := 32) (e := N_api_Object) ob_len rfl (bo1.keep k2) [(⟨q.1, s2⟩ : S_api_Object)] rfl rfl (.inl (by rw [List.length_map, lso']; simp only [List.length_singleton]; omega)) fun s3 h3 b3 bt3 f3 d3 => ?_
      have k3 : Keeps h h3 := (kh.trans k2).but bt3 fun c g => fr1 c (.inl g)
      have fs2 : ∀ c, s2.foot c → h c = none := fun c g => kh.fresh (f2 c g)
      have b23 : Buf cU8 1 N_u8 h3 s2 o.2 := b2.but bt3 fun ad ha g => (b2.typed ⟨ad, ha, rfl⟩).ne ((bo1.keep k2).typed g) (by decide) rfl
      have bt13 : Buf S_api_Token.cells 5 N_api_Token h3 st1 (TT j) := (bt1.keep k2).but bt3 fun ad ha g => ((bt1.keep k2).typed ⟨ad, ha, rfl⟩).ne ((bo1.keep k2).typed g) (by decide) rfl
      have ro3 : Rows cU8 1 N_u8 h3 (fun c => G c ∨ s2.foot c) (so' ++ [(q.1, s2)]) (m.ob.take (j + 1)) := by
        have nk := once_take i.obo ho
        rw [List.take_add_one, ho, show (some o).toList = [(q.1, o.2)] by rw [eky]; rfl]
        exact ro1.snoc ((But.of (F := fun c => so1.foot c) k2).trans bt3 fun _ g => .inl g) (fun c g g' => (tg1 c g).ne (bo1.typed g') (by decide) rfl) (by rw [eky]; exact nk) b23 (fun c g g' => (tg1 c g').has (f2 c g)) fun c g => g
      have tg3 : ∀ c, G c ∨ s2.foot c → Typed h3 N_u8 c := fun c g => g.elim (fun g => ((tg1 c g).keep k2).but bt3 fun g' => (tg1 c g).ne (bo1.typed g') (by decide) rfl) fun g => b23.typed g
      have bo3 : Buf S_api_Object.cells 2 N_api_Object h3 s3 ((so' ++ [(q.1, s2)]).map fun q => (⟨q.1, q.2⟩ : S_api_Object)) := by rw [List.map_append]; exact b3
      have fs3 : ∀ c, s3.foot c → h c = none := fun c g => (f3 c g).elim (fun g => fr1 c (.inl g)) fun z => (kh.trans k2).fresh z
      have x3 := x.keep k3
      have tsu : TT (j + 1) = (m.ts.take m.ts.length).foldl (belF m.ts o.1 m.ts.length 0 (-1)) (TT j) := by
        show (m.ob.take (j + 1)).foldl _ [] = _
        rw [List.take_add_one, ho, List.foldl_append, List.take_length]; rfl
      have cl := cntB_le i.ok o.1 (m.ts.length + 1) 0
      have rm : ∀ n, ((m.ts.take n).foldl (belF m.ts o.1 m.ts.length 0 (-1)) (TT j)).length ≤ j * 256 + 256 := fun n => by
        have := bel_take (ts := m.ts) o.1 m.ts.length 0 (-1) (TT j) n
        omega
      generalize TT j = T0 at *
      refine w_for m.ts.length (fun n (z : Int × Sl × Sl × Sl × Int × Int × Int) h4 => ∃ st4, z = ((n : Int), s3, st4, Sl.nil, m.ni, m.np, (m.tk : Int)) ∧ Buf S_api_Token.cells 5 N_api_Token h4 st4 ((m.ts.take n).foldl (belF m.ts o.1 m.ts.length 0 (-1)) T0) ∧ (∀ c, st4.foot c → st1.foot c ∨ h3 c = none) ∧ But st1.foot h3 h4 ∧ ∀ c, h4 c = none → h3 c = none) ?_
        ⟨st1, rfl, bt13, fun c g => .inl g, .refl _ _, fun _ z => z⟩
      rintro rec4 n _ h4 hn ⟨st4, rfl, b4, f4, bt4, d4⟩ more4
      have x4 : RMA h4 p sd st vo vp so sl F m := x3.but bt4 (fun c g g' => x.has c g (fr1 c (.inr (.inl g')))) d4
      have x40 : RM h4 p F m := ⟨_, _, _, _, _, _, x4⟩
      have f4h : ∀ c, st4.foot c → h c = none := fun c g => (f4 c g).elim (fun g => fr1 c (.inr (.inl g))) fun z => k3.fresh z
      have nst : ∀ c, st4.foot c → ¬ F c := fun c g g' => x.has c g' (f4h c g)
      refine w_deref (w_load x4.f13 (w_if' (fun c0 => ?_) fun c0 => ?_))
      · have c0 : (n : Int) < (st.len : Int) := c0
        have hnl : n < m.ts.length := by omega
        have ht := List.getElem?_eq_getElem hnl
        have hmu := List.getElem_mem hnl
        generalize m.ts[n] = u at ht hmu
        have hu' : (m.ts.map heldOf)[n]? = some (heldOf u) := by rw [List.getElem?_map, ht]; rfl
        have fs : (m.ts.take (n + 1)).foldl (belF m.ts o.1 m.ts.length 0 (-1)) T0 = belF m.ts o.1 m.ts.length 0 (-1) ((m.ts.take n).foldl (belF m.ts o.1 m.ts.length 0 (-1)) T0) u := by rw [List.take_add_one, ht, List.foldl_append]; rfl
        have r0 := rm n
        generalize (m.ts.take n).foldl (belF m.ts o.1 m.ts.length 0 (-1)) T0 = cur at b4 fs r0
        refine w_deref (w_deref (w_load x4.f13 (w_idx hd_len x4.ts.arr hu' rfl fun a _ ha => w_load (v := u.xcap.Obj) (by rw [add_zero]; exact ha.sub (l1 := (cHd (heldOf u)).take 2) (l2 := cInt .i64 u.xcap.Obj) (l3 := (cHd (heldOf u)).drop 3) rfl)
          (w_load x4.f12 (w_field ob_len x4.mo.arr hq' rfl (v' := q.1) (cells' := cInt .i64) (l1 := []) (l3 := (S_api_Object.cells ⟨q.1, q.2⟩).drop 1) rfl rfl (w_joinV (decide (u.xcap.Obj = o.1 ∧ u.xparent = 0)) (fun jn hjn => ?_) ?_))))))
        · rw [eky]
          refine w_if' (fun q1 => ?_) fun q1 => ?_
          · refine w_deref (w_load x4.f13 (w_field hd_len x4.ts.arr hu' rfl (v' := u.xparent) (cells' := cInt .i64) (l1 := (cHd (heldOf u)).take 1) (l3 := (cHd (heldOf u)).drop 2) rfl rfl ?_))
            rw [decide_eq_decide.2 (show (u.xcap.Obj = o.1 ∧ u.xparent = 0) ↔ u.xparent = 0 from ⟨fun z => z.2, fun z => ⟨q1, z⟩⟩)] at hjn
            exact hjn
          · rw [decide_eq_false (fun z => q1 z.1)] at hjn; exact hjn
        · refine w_if' (fun q1 => ?_) fun q1 => ?_
          · rw [belF, if_pos q1] at fs
            refine w_deref (w_load x4.f13 (w_get hd_len x4.ts.arr hu' rfl rfl (t_rUnder i mk hmu q1.2 x40 b4 nst (by omega) fun s8 h8 b8 bt8 f8 d8 => ?_)))
            rw [q1.1] at b8
            refine more4 _ _ hnl ⟨s8, by rw [ia1 n (by omega)], by rw [fs]; exact b8, fun c g => (f8 c g).elim (f4 c) fun z => .inr (d4 c z), bt4.trans bt8 f4, fun c z => d4 c (d8 c z)⟩
          · rw [belF, if_neg q1] at fs
            exact more4 _ _ hnl ⟨st4, by rw [ia1 n (by omega)], by rw [fs]; exact b4, f4, bt4, d4⟩
      · have c0 : ¬ (n : Int) < (st.len : Int) := c0
        have en : n = m.ts.length := by omega
        subst en
        rw [← tsu] at b4
        have l4 := rm m.ts.length
        rw [← tsu] at l4
        have nty : ∀ {e : TypeId} {c : Nat}, Typed h3 e c → e ≠ N_api_Token → ¬ st1.foot c := fun t ne g => t.ne (bt13.typed g) ne rfl
        refine more _ _ (by omega) ⟨s3, st4, so' ++ [(q.1, s2)], fun c => G c ∨ s2.foot c, by rw [ia1 j (by omega)], bo3.but bt4 fun ad ha => nty (bo3.typed ⟨ad, ha, rfl⟩) (by decide), ro3.but bt4 fun i t q' c g => nty (ro3.typed q' g) (by decide), b4, by omega, fun c g => ?_, fun c g => (tg3 c g).but bt4 (nty (tg3 c g) (by decide)), k3.but bt4 fun c g => fr1 c (.inr (.inl g))⟩
        rcases g with g | g | g | g
        · exact fs3 c g
        · exact f4h c g
        · exact fr1 c (.inr (.inr g))
        · exact fs2 c g
  have c : ¬ (j : Int) < (vo.len : Int) := c
  clear more rec
  have ej : m.ob.take j = m.ob := List.take_of_length_le (by omega)
  have ej2 : TT j = (stateO m).ts := by
    show (m.ob.take j).foldl _ [] = _
    rw [ej]; rfl
  rw [ej2] at bt1
  rw [ej] at ro1
  refine w_for sl.length (fun j (z : Int × Sl × Sl × Sl × Int × Int × Int) h2 => ∃ sp1 sl' G', z = ((j : Int), so1, st1, sp1, m.ni, m.np, (m.tk : Int)) ∧ Buf S_api_Process.cells 2 N_api_Process h2 sp1 (sl'.map fun q => (⟨q.1, q.2⟩ : S_api_Process)) ∧ Rows cCp 3 N_api_Cap h2 G' sl' (m.ls.take j) ∧ (∀ c, sp1.foot c ∨ G' c → hh c = none) ∧ (∀ c, G' c → Typed h2 N_api_Cap c) ∧ Keeps hh h2) ?_
    ⟨Sl.nil, [], fun _ => False, rfl, Buf.nil, Rows.nil, fun c g => g.elim (fun ⟨_, q, _⟩ => (by cases q)) False.elim, fun _ g => g.elim, .refl _⟩
  rintro rec j2 _ h2 hj2 ⟨sp1, sl', G', rfl, bp1, rp1, fr2, tg2, k2⟩ more
  have k02 := kh.trans k2
  have x2 := x.keep k02
  have lsl' : sl'.length = (m.ls.take j2).length := by
    have := congrArg List.length rp1.keys
    rwa [List.length_map, List.length_map] at this
  rw [List.length_take] at lsl'
  refine w_deref (w_load x2.f14 (w_if' (fun c => ?_) fun c => ?_))
  · have c : (j2 : Int) < (vp.len : Int) := c
    have hjl : j2 < sl.length := by omega
    have hjo : j2 < m.ls.length := by omega
    have hq := List.getElem?_eq_getElem hjl
    have ho := List.getElem?_eq_getElem hjo
    generalize sl[j2] = q at hq
    generalize m.ls[j2] = o at ho
    have eky : q.1 = o.1 := by
      have := congrArg (fun l => l[j2]?) x.ls.keys
      simp only [List.getElem?_map, hq, ho, Option.map_some, Option.some.injEq] at this
      exact this
    have hq' : (sl.map fun q => (⟨q.1, q.2⟩ : S_api_Process))[j2]? = some ⟨q.1, q.2⟩ := by rw [List.getElem?_map, hq]; rfl
    have bq : Buf cCp 3 N_api_Cap h q.2 o.2 := x.ls.buf q.1 q.2 o.2 (x.ls.onceS.look (List.mem_of_getElem? hq)) (by rw [eky]; exact i.lso.look (List.mem_of_getElem? ho))
    have ob4 := i.lsl o (List.mem_of_getElem? ho)
    refine w_deref (w_deref (w_empty (T := S_api_Cap) (cells := cCp) (sz := 3) fun b h3 hb b3 k3 => ?_))
    have k03 := k02.trans k3
    have x3 := x.keep k03
    refine w_load x3.f14 (w_field pr_len x3.ml.arr hq' rfl (v' := q.2) (cells' := cSl) (l1 := (S_api_Process.cells ⟨q.1, q.2⟩).take 1) (l3 := []) rfl rfl ?_)
    refine w_joinP (fun (z : Int × Sl) h4 => z.1 = q.1 ∧ Buf cCp 3 N_api_Cap h4 z.2 o.2 ∧ Keeps h2 h4 ∧ ∀ c, z.2.foot c → h2 c = none) (fun jn hjn => ?_) ?_
    · have A : ∀ {k : Sl → H → Prop}, (∀ s4 h4, Buf cCp 3 N_api_Cap h4 s4 o.2 → Keeps h2 h4 → (∀ v, s4.foot v → h2 v = none) → But (· = b) h3 h4 → k s4 h4) → mAppend N_api_Cap 3 24 #[(Value.int .i64 0), (Value.int .u64 0), (Value.int .u64 0)] (⟨some ⟨b, 0, none⟩, 0, 0⟩ : Sl) q.2 k h3 := fun {k} z =>
        w_anew cap_len cap_plain rfl k3 hb b3 (bq.keep k03).arr (by omega) z
      refine w_both (w_load x3.f14 (w_idx pr_len x3.ml.arr hq' rfl fun a hidx ha => ?_)) (A fun s4 h4 b4 k4 f4 _ => ?_)
      · have ha' : At h3 (a.add 0) (cInt .i64 q.1) := ha.sub (l1 := []) (l2 := cInt .i64 q.1) (l3 := (S_api_Process.cells ⟨q.1, q.2⟩).drop 1) rfl
        refine w_both (w_load ha' (A fun s4 h4 b4 k4 f4 _ => hjn _ _ ⟨rfl, b4, k4, f4⟩)) (A fun s4 h4 b4 k4 f4 bt4 => w_load (ha'.but bt4 fun e => ?_) (hjn _ _ ⟨rfl, b4, k4, f4⟩))
        obtain ⟨a0, ha0, _, _, rfl⟩ := hidx
        rw [add_block, add_block] at e
        exact (x3.ml.typed ⟨a0, ha0, rfl⟩).ne (b3.typed ⟨⟨b, 0, none⟩, rfl, rfl⟩) (by decide) e
      · have x4 := x.keep (k02.trans k4)
        exact w_load x4.f14 (w_field pr_len x4.ml.arr hq' rfl (v' := q.1) (cells' := cInt .i64) (l1 := []) (l3 := (S_api_Process.cells ⟨q.1, q.2⟩).drop 1) rfl rfl (hjn _ _ ⟨rfl, b4, k4, f4⟩))
    · rintro ⟨_, s4⟩ h4 ⟨rfl, b4, k4, f4⟩
      refine w_app (cells := S_api_Process.cells) (sz := 2) (by_ := 32) (e := N_api_Process) pr_len rfl (bp1.keep k4) [(⟨q.1, s4⟩ : S_api_Process)] rfl rfl (.inl (by rw [List.length_map, lsl']; simp only [List.length_singleton]; omega)) fun s5 h5 b5 bt5 f5 d5 => ?_
      have b45 : Buf cCp 3 N_api_Cap h5 s4 o.2 := b4.but bt5 fun ad ha g => (b4.typed ⟨ad, ha, rfl⟩).ne ((bp1.keep k4).typed g) (by decide) rfl
      have nk := once_take i.lso ho
      have ro5 : Rows cCp 3 N_api_Cap h5 (fun c => G' c ∨ s4.foot c) (sl' ++ [(q.1, s4)]) (m.ls.take (j2 + 1)) := by
        rw [List.take_add_one, ho, show (some o).toList = [(q.1, o.2)] by rw [eky]; rfl]
        exact rp1.snoc ((But.of (F := fun c => sp1.foot c) k4).trans bt5 fun _ g => .inl g) (fun c g g' => (tg2 c g).ne (bp1.typed g') (by decide) rfl) (by rw [eky]; exact nk) b45 (fun c g g' => (tg2 c g').has (f4 c g)) fun c g => g
      refine more _ _ hjl ⟨s5, sl' ++ [(q.1, s4)], fun c => G' c ∨ s4.foot c, by rw [ia1 j2 (by omega)], by rw [List.map_append]; exact b5, ro5, fun c g => ?_, fun c g => g.elim (fun g => ((tg2 c g).keep k4).but bt5 fun g' => (tg2 c g).ne (bp1.typed g') (by decide) rfl) fun g => b45.typed g, (k2.trans k4).but bt5 fun c g => fr2 c (.inl g)⟩
      rcases g with g | g | g
      · exact (f5 c g).elim (fun g => fr2 c (.inl g)) fun z => k2.fresh (k4.fresh z)
      · exact fr2 c (.inr g)
      · exact k2.fresh (f4 c g)
  · have c : ¬ (j2 : Int) < (vp.len : Int) := c
    have ej8 : m.ls.take j2 = m.ls := List.take_of_length_le (by omega)
    rw [ej8] at rp1
    refine y _ h2 so' sl' (fun c => G c ∨ G' c) ⟨bo1.keep k2, (ro1.but (But.of (F := fun _ => False) k2) fun _ _ _ _ _ z => z).mono fun _ g => .inl g, bt1.keep k2, bp1, rp1.mono fun _ g => .inr g, ⟨rfl, rfl, rfl⟩, fun c g => ?_⟩ k02
    rcases g with g | g | g | g | g
    · exact fr1 c (.inl g)
    · exact fr1 c (.inr (.inl g))
    · exact kh.fresh (fr2 c (.inl g))
    · exact fr1 c (.inr (.inr g))
    · exact kh.fresh (fr2 c (.inr g))
end
end Go.Proofs.YtbjkfllncegpcaaGreat.K
namespace Go.Proofs.YtbjkfllncegpcaaGreat.K
open Go Go.Proofs
def m_law21_Copied (a0 : S_api_Call) (K : (S_api_Call) → H → Prop) : H → Prop :=
 mNew 5 #[] fun ad1 =>
 mAppend 5 1 1 #[(Value.int .u8 0)] (⟨some ad1, 0, 0⟩ : Sl) a0.Data fun s2 =>
 mNew 3 #[] fun ad3 =>
 mAppend 3 1 8 #[(Value.int .i64 0)] (⟨some ad3, 0, 0⟩ : Sl) a0.Gifts fun s4 =>
 K (⟨a0.Op, a0.By, a0.Size, ⟨a0.Cap.Obj, ⟨a0.Cap.Pass.Hi, a0.Cap.Pass.Lo⟩⟩, a0.Given, a0.Rights, a0.Off, a0.N, s2, a0.Index, s4⟩ : S_api_Call)
def x_law21_Copied : Cx Tryz.prog := ⟨tys, [], [1, 2], [], mixed⟩
def h_law21_Copied : Hint := .d
def s_law21_Copied : Spec Tryz.prog := mkSpec x_law21_Copied 9 Tryz.f9 [S_api_Call.ty] [S_api_Call.ty] false h_law21_Copied (fun a => m_law21_Copied a) (fun a K h => by kernel_rfl) callee9 rfl
def m_law21_sameBytes (a0 : Sl) (a1 : Sl) (K : (Bool) → H → Prop) : H → Prop :=
 mIf (!decide ((a0.len : Int) = (a1.len : Int))) (
 K false
 ) (
 mLoop (fun (rec2 : Int → H → Prop) (s1 : Int) =>
 mIf (decide (s1 < (a0.len : Int))) (
 mIdx a0 s1 1 fun ad3 =>
 mIdx a1 s1 1 fun ad4 =>
 mLoad (cInt .u8) ad3 fun x5 =>
 mLoad (cInt .u8) ad4 fun x6 =>
 mIf (!decide (x5 = x6)) (
 K false
 ) (
 rec2 (iAdd .i64 s1 1)
 )
 ) (
 K true
 )
 ) 0
 )
def x_law21_sameBytes : Cx Tryz.prog := ⟨tys, [], [], [], mixed⟩
def h_law21_sameBytes : Hint := (.seq .d (.seq .d (.seq (.seq .d (.blk (.loop [.slot 5 (tInt .i64)] 67106864 [] (.seq .d (.seq (.blk (.seq (.reg (.run [0, 4, 8, 16, 20, 24, 14, 30, 32] .nil)) .d)) .d))))) .d)))
def s_law21_sameBytes : Spec Tryz.prog := mkSpec x_law21_sameBytes 27 Tryz.f27 [tSl, tSl] [tBool] false h_law21_sameBytes (fun a => m_law21_sameBytes a.1 a.2) (fun a K h => by kernel_rfl) callee27 rfl
def m_law21_SameReply (a0 : S_api_Reply) (a1 : S_api_Reply) (K : (Bool) → H → Prop) : H → Prop :=
 mIf (((decide (a0.Code = a1.Code)) && ((decide (a0.Cap.Obj = a1.Cap.Obj)) && (((decide (a0.Cap.Pass.Hi = a1.Cap.Pass.Hi)) && ((decide (a0.Cap.Pass.Lo = a1.Cap.Pass.Lo)) && true)) && true))) && (decide (a0.Number = a1.Number))) (
 m_law21_sameBytes a0.Data a1.Data fun r2 =>
 K r2
 ) (
 K false
 )
def x_law21_SameReply : Cx Tryz.prog := ⟨tys, [s_law21_sameBytes], [2, 3], [], mixed⟩
def h_law21_SameReply : Hint := (.seq .d (.seq (.reg (.run [3, 7, 11, 15, 19, 23] (.sel 10 16 129024 (.run [27, 31, 35, 39, 43, 47] .nil) (.run [27, 31, 35, 39, 43, 47] .nil) (.run [51] (.sel 17 23 16515072 (.run [55, 59, 63, 67, 71, 75] .nil) (.run [55, 59, 63, 67, 71, 75] .nil) (.run [79] (.split 24 (.run [83, 87, 91, 95, 99, 103, 107] .nil) (.run [83, 87, 91, 95, 99, 103, 107] .nil)))))))) .d))
def s_law21_SameReply : Spec Tryz.prog := mkSpec x_law21_SameReply 10 Tryz.f10 [S_api_Reply.ty, S_api_Reply.ty] [tBool] false h_law21_SameReply (fun a => m_law21_SameReply a.1 a.2) (fun a K h => by kernel_rfl) callee10 rfl
def m_law21_sameCaps (a0 : Sl) (a1 : Sl) (K : (Bool) → H → Prop) : H → Prop :=
 mIf (!decide ((a0.len : Int) = (a1.len : Int))) (
 K false
 ) (
 mLoop (fun (rec2 : Int → H → Prop) (s1 : Int) =>
 mIf (decide (s1 < (a0.len : Int))) (
 mIdx a0 s1 3 fun ad3 =>
 mIdx a1 s1 3 fun ad4 =>
 mLoad S_api_Cap.cells ad3 fun x5 =>
 mLoad S_api_Cap.cells ad4 fun x6 =>
 mIf (!((decide (x5.Obj = x6.Obj)) && (((decide (x5.Pass.Hi = x6.Pass.Hi)) && ((decide (x5.Pass.Lo = x6.Pass.Lo)) && true)) && true))) (
 K false
 ) (
 rec2 (iAdd .i64 s1 1)
 )
 ) (
 K true
 )
 ) 0
 )
def x_law21_sameCaps : Cx Tryz.prog := ⟨tys, [], [], [], mixed⟩
def h_law21_sameCaps : Hint := (.seq .d (.seq .d (.seq (.seq .d (.blk (.loop [.slot 5 (tInt .i64)] 67106864 [] (.seq .d (.seq (.blk (.seq (.reg (.run [0, 4, 8, 16, 20, 24, 14, 30, 32] .nil)) .d)) .d))))) .d)))
def s_law21_sameCaps : Spec Tryz.prog := mkSpec x_law21_sameCaps 39 Tryz.f39 [tSl, tSl] [tBool] false h_law21_sameCaps (fun a => m_law21_sameCaps a.1 a.2) (fun a K h => by kernel_rfl) callee39 rfl
def m_law21_SameState (a0 : S_api_State) (a1 : S_api_State) (K : (Bool) → H → Prop) : H → Prop :=
 mIf ((((((!decide ((a0.Objects.len : Int) = (a1.Objects.len : Int))) || (!decide ((a0.Tokens.len : Int) = (a1.Tokens.len : Int)))) || (!decide ((a0.Processes.len : Int) = (a1.Processes.len : Int)))) || (!decide (a0.NextId = a1.NextId))) || (!decide (a0.NextProc = a1.NextProc))) || (!decide (a0.Taken = a1.Taken))) (
 K false
 ) (
 mLoop (fun (rec2 : Int → H → Prop) (s1 : Int) =>
 mIf (decide (s1 < (a0.Objects.len : Int))) (
 mIdx a0.Objects s1 2 fun ad3 =>
 mIdx a1.Objects s1 2 fun ad4 =>
 mLoad (cInt .i64) (ad3.add 0) fun x5 =>
 mLoad (cInt .i64) (ad4.add 0) fun x6 =>
 mJoin (fun (s12 : Bool) =>
 mIf s12 (
 K false
 ) (
 rec2 (iAdd .i64 s1 1)
 )
 ) (fun j13 =>
 mIf (!decide (x5 = x6)) (
 j13 true
 ) (
 mIdx a0.Objects s1 2 fun ad14 =>
 mIdx a1.Objects s1 2 fun ad15 =>
 mLoad cSl (ad14.add 1) fun x16 =>
 mLoad cSl (ad15.add 1) fun x17 =>
 m_law21_sameBytes x16 x17 fun r18 =>
 j13 (!r18)
 ))
 ) (
 mLoop (fun (rec20 : Int → H → Prop) (s19 : Int) =>
 mIf (decide (s19 < (a0.Tokens.len : Int))) (
 mIdx a0.Tokens s19 5 fun ad21 =>
 mIdx a1.Tokens s19 5 fun ad22 =>
 mLoad S_api_Token.cells ad21 fun x23 =>
 mLoad S_api_Token.cells ad22 fun x24 =>
 mIf (!(((decide (x23.Cap.Obj = x24.Cap.Obj)) && (((decide (x23.Cap.Pass.Hi = x24.Cap.Pass.Hi)) && ((decide (x23.Cap.Pass.Lo = x24.Cap.Pass.Lo)) && true)) && true)) && ((decide (x23.Rights = x24.Rights)) && ((decide (x23.Parent = x24.Parent)) && true)))) (
 K false
 ) (
 rec20 (iAdd .i64 s19 1)
 )
 ) (
 mLoop (fun (rec26 : Int → H → Prop) (s25 : Int) =>
 mIf (decide (s25 < (a0.Processes.len : Int))) (
 mIdx a0.Processes s25 2 fun ad27 =>
 mIdx a1.Processes s25 2 fun ad28 =>
 mLoad (cInt .i64) (ad27.add 0) fun x29 =>
 mLoad (cInt .i64) (ad28.add 0) fun x30 =>
 mJoin (fun (s36 : Bool) =>
 mIf s36 (
 K false
 ) (
 rec26 (iAdd .i64 s25 1)
 )
 ) (fun j37 =>
 mIf (!decide (x29 = x30)) (
 j37 true
 ) (
 mIdx a0.Processes s25 2 fun ad38 =>
 mIdx a1.Processes s25 2 fun ad39 =>
 mLoad cSl (ad38.add 1) fun x40 =>
 mLoad cSl (ad39.add 1) fun x41 =>
 m_law21_sameCaps x40 x41 fun r42 =>
 j37 (!r42)
 ))
 ) (
 K true
 )
 ) 0
 )
 ) 0
 )
 ) 0
 )
def x_law21_SameState : Cx Tryz.prog := ⟨tys, [s_law21_sameBytes, s_law21_sameCaps], [2, 3], [], mixed⟩
def h_law21_SameState : Hint := (.seq .d (.seq (.seq (.reg (.run [3, 7, 11, 15, 19, 23, 27, 31] (.sel 15 23 16711680 (.run [35, 39, 43, 47, 51, 55, 59, 63] .nil) (.run [35, 39, 43, 47, 51, 55, 59, 63] .nil) (.run [67] (.sel 24 32 8556380160 (.run [71, 75, 79, 83, 87, 91, 95, 99] .nil) (.run [71, 75, 79, 83, 87, 91, 95, 99] .nil) (.run [103] (.sel 33 39 1082331758592 (.run [107, 111, 115, 119, 123, 127] .nil) (.run [107, 111, 115, 119, 123, 127] .nil) (.run [131] (.sel 40 46 138538465099776 (.run [135, 139, 143, 147, 151, 155] .nil) (.run [135, 139, 143, 147, 151, 155] .nil) (.run [159] (.sel 47 53 17732923532771328 (.run [163, 167, 171, 175, 179, 183] .nil) (.run [163, 167, 171, 175, 179, 183] .nil) .nil))))))))))) .d) (.seq (.seq .d (.blk (.loop [.slot 5 (tInt .i64)] 1237940039267365876389642288 [] (.seq .d (.seq (.blk (.seq (.reg (.run [0, 8, 24, 32, 5, 12, 16, 29, 36, 40, 22, 46, 48, 52] (.join [.slot 89 tBool] 1237902260353517317737414656 [] (.split 74 (.run [56, 60, 64, 68, 72, 76, 80, 84, 88, 92, 96, 100, 104, 108, 112] .nil) (.run [56, 64, 80, 88, 61, 68, 72, 85, 92, 96, 78, 102, 107, 108, 112] .nil)) .nil))) .d)) .d))))) (.seq (.seq .d (.blk (.loop [.slot 6 (tInt .i64)] 324517315718387441402881121452112 [] (.seq .d (.seq (.blk (.seq (.reg (.run [0, 8, 20, 28, 5, 12, 25, 32, 18, 38, 40] .nil)) .d)) .d))))) (.seq (.seq .d (.blk (.loop [.slot 7 (tInt .i64)] 22300745198206104587877291545865205485404304 [] (.seq .d (.seq (.blk (.seq (.reg (.run [0, 8, 24, 32, 5, 12, 16, 29, 36, 40, 22, 46, 48, 52] (.join [.slot 143 tBool] 22300064633796781264608791523433497969557504 [] (.split 128 (.run [56, 60, 64, 68, 72, 76, 80, 84, 88, 92, 96, 100, 104, 108, 112] .nil) (.run [56, 64, 80, 88, 61, 68, 72, 85, 92, 96, 78, 102, 107, 108, 112] .nil)) .nil))) .d)) .d))))) .d)))))
def s_law21_SameState : Spec Tryz.prog := mkSpec x_law21_SameState 12 Tryz.f12 [S_api_State.ty, S_api_State.ty] [tBool] false h_law21_SameState (fun a => m_law21_SameState a.1 a.2) (fun a K h => by kernel_rfl) callee12 rfl
end Go.Proofs.YtbjkfllncegpcaaGreat.K
namespace Go.Proofs.YtbjkfllncegpcaaGreat.K
open Go
section
variable {h : H}
theorem t_l21sameBytes {a b : Sl} {xs : List UInt8} (x : Arr cU8 h a xs) (z : Arr cU8 h b xs) (hn : xs.length ≤ 2 ^ 60) {K : Bool → H → Prop} (y : K true h) : m_law21_sameBytes a b K h := by
  unfold m_law21_sameBytes
  have l1 := x.len
  have l2 := z.len
  refine w_ifF (by rw [l1, l2]; simp) (w_for xs.length (fun i (s : Int) hh => s = (i : Int) ∧ hh = h) ?_ ⟨rfl, rfl⟩)
  rintro rec i _ _ hi ⟨rfl, rfl⟩ more
  refine w_if' (fun c => ?_) fun c => y
  have c : (i : Int) < (a.len : Int) := c
  have hil : i < xs.length := by omega
  have ht := List.getElem?_eq_getElem hil
  generalize xs[i] = t at ht
  refine w_idx u8_len x ht rfl fun a1 _ h1 => w_idx u8_len z ht rfl fun a2 _ h2 => w_load (v := ((t.toNat : Nat) : Int)) h1 (w_load (v := ((t.toNat : Nat) : Int)) h2 (w_ifF (by simp) (more _ _ hil ⟨ia1 i (by omega), rfl⟩)))
theorem t_l21sameCaps {a b : Sl} {xs : List S_api_Cap} (x : Arr cCp h a xs) (z : Arr cCp h b xs) (hn : xs.length ≤ 2 ^ 60) {K : Bool → H → Prop} (y : K true h) : m_law21_sameCaps a b K h := by
  unfold m_law21_sameCaps
  have l1 := x.len
  have l2 := z.len
  refine w_ifF (by rw [l1, l2]; simp) (w_for xs.length (fun i (s : Int) hh => s = (i : Int) ∧ hh = h) ?_ ⟨rfl, rfl⟩)
  rintro rec i _ _ hi ⟨rfl, rfl⟩ more
  refine w_if' (fun c => ?_) fun c => y
  have c : (i : Int) < (a.len : Int) := c
  have hil : i < xs.length := by omega
  have ht := List.getElem?_eq_getElem hil
  generalize xs[i] = t at ht
  refine w_idx cap_len x ht rfl fun a1 _ h1 => w_idx cap_len z ht rfl fun a2 _ h2 => w_load h1 (w_load h2 (w_ifF (by rw [cap_eqB]; simp) (more _ _ hil ⟨ia1 i (by omega), rfl⟩)))
theorem t_l21SameReply {a b : S_api_Reply} {xs : List UInt8} (e1 : a.Code = b.Code) (e2 : a.Cap = b.Cap) (e3 : a.Number = b.Number) (x : Arr cU8 h a.Data xs) (z : Arr cU8 h b.Data xs) (hn : xs.length ≤ 2 ^ 60) {K : Bool → H → Prop} (y : K true h) : m_law21_SameReply a b K h := by
  unfold m_law21_SameReply
  rw [cap_eqB]
  exact w_ifT (by rw [e1, e2, e3]; simp) (t_l21sameBytes x z hn y)
structure StR (h : H) (s : S_api_State) (v : StV) (so sl : List (Int × Sl)) : Prop where
  ob : Arr S_api_Object.cells h s.Objects (so.map fun q => ⟨q.1, q.2⟩)
  ok : so.map (·.1) = v.ob.map (·.1)
  bs : ∀ (j : Nat) q o, so[j]? = some q → v.ob[j]? = some o → Arr cU8 h q.2 o.2 ∧ o.2.length ≤ 2 ^ 60
  ts : Arr S_api_Token.cells h s.Tokens v.ts
  ps : Arr S_api_Process.cells h s.Processes (sl.map fun q => ⟨q.1, q.2⟩)
  pk : sl.map (·.1) = v.ls.map (·.1)
  ls : ∀ (j : Nat) q o, sl[j]? = some q → v.ls[j]? = some o → Arr cCp h q.2 o.2 ∧ o.2.length ≤ 2 ^ 60
  nums : s.NextId = v.ni ∧ s.NextProc = v.np ∧ s.Taken = v.tk
theorem Rows.nth {T : Type} {cells : T → List Value} {sz : Nat} {e : TypeId} {F : Nat → Prop} {so : List (Int × Sl)} {ob : List (Int × List T)} (x : Rows cells sz e h F so ob) {j : Nat} {q : Int × Sl} {o : Int × List T} (hq : so[j]? = some q) (ho : ob[j]? = some o) : q.1 = o.1 ∧ Buf cells sz e h q.2 o.2 := by
  have eky : q.1 = o.1 := by
    have := congrArg (fun l => l[j]?) x.keys
    simp only [List.getElem?_map, hq, ho, Option.map_some, Option.some.injEq] at this
    exact this
  exact ⟨eky, x.buf q.1 q.2 o.2 (x.onceS.look (List.mem_of_getElem? hq)) (by rw [eky]; exact x.once.look (List.mem_of_getElem? ho))⟩
theorem StAt.rd {h0 h : H} {s : S_api_State} {v : StV} {so sl : List (Int × Sl)} {G : Nat → Prop} (x : StAt h0 h s v so sl G) (h1 : ∀ o ∈ v.ob, o.2.length ≤ 2 ^ 60) (h2 : ∀ o ∈ v.ls, o.2.length ≤ 2 ^ 60) : StR h s v so sl :=
  ⟨x.ob.arr, x.bs.keys, fun _ _ o hq ho => ⟨(x.bs.nth hq ho).2.arr, h1 o (List.mem_of_getElem? ho)⟩, x.ts.arr, x.ps.arr, x.ls.keys, fun _ _ o hq ho => ⟨(x.ls.nth hq ho).2.arr, h2 o (List.mem_of_getElem? ho)⟩, x.nums⟩
theorem StR.keep {h' : H} {s : S_api_State} {v : StV} {so sl : List (Int × Sl)} (x : StR h s v so sl) (k : Keeps h h') : StR h' s v so sl :=
  ⟨x.ob.keep k, x.ok, fun j q o hq ho => ⟨(x.bs j q o hq ho).1.keep k, (x.bs j q o hq ho).2⟩, x.ts.keep k, x.ps.keep k, x.pk, fun j q o hq ho => ⟨(x.ls j q o hq ho).1.keep k, (x.ls j q o hq ho).2⟩, x.nums⟩
theorem keys_nth {V W : Type} {l : List (Int × V)} {k : List (Int × W)} (e : l.map (·.1) = k.map (·.1)) {j : Nat} {q : Int × V} (hq : l[j]? = some q) : ∃ o, k[j]? = some o ∧ q.1 = o.1 := by
  have := congrArg (fun l => l[j]?) e
  simp only [List.getElem?_map, hq, Option.map_some] at this
  cases z : k[j]? with
  | none => rw [z] at this; cases this
  | some o =>
    rw [z] at this
    exact ⟨o, rfl, Option.some.inj this⟩
theorem keys_len {V W : Type} {l : List (Int × V)} {k : List (Int × W)} (e : l.map (·.1) = k.map (·.1)) : l.length = k.length := by
  have := congrArg List.length e
  rwa [List.length_map, List.length_map] at this
theorem t_l21SameState {a b : S_api_State} {v : StV} {so sl so2 sl2 : List (Int × Sl)} (x : StR h a v so sl) (z : StR h b v so2 sl2) (n1 : v.ob.length ≤ 2 ^ 60) (n2 : v.ts.length ≤ 2 ^ 60) (n3 : v.ls.length ≤ 2 ^ 60) {K : Bool → H → Prop} (y : K true h) : m_law21_SameState a b K h := by
  unfold m_law21_SameState
  have la := x.ob.len
  have lb := z.ob.len
  have pa := x.ps.len
  have pb := z.ps.len
  rw [List.length_map] at la lb pa pb
  have ta := x.ts.len
  have tb := z.ts.len
  have e1 := keys_len x.ok
  have e2 := keys_len z.ok
  have e3 := keys_len x.pk
  have e4 := keys_len z.pk
  obtain ⟨a1, a2, a3⟩ := x.nums
  obtain ⟨b1, b2, b3⟩ := z.nums
  refine w_ifF (by simp [la, lb, pa, pb, ta, tb, e1, e2, e3, e4, a1, a2, a3, b1, b2, b3]) ?_
  refine w_for so.length (fun i (s : Int) hh => s = (i : Int) ∧ hh = h) ?_ ⟨rfl, rfl⟩
  rintro rec i _ _ hi ⟨rfl, rfl⟩ more
  refine w_if' (fun c => ?_) fun c => ?_
  · have c : (i : Int) < (a.Objects.len : Int) := c
    have hil : i < so.length := by omega
    have hq := List.getElem?_eq_getElem hil
    generalize so[i] = q at hq
    obtain ⟨o, ho, eq⟩ := keys_nth x.ok hq
    have hil2 : i < so2.length := by omega
    have hq2 := List.getElem?_eq_getElem hil2
    generalize so2[i] = q2 at hq2
    obtain ⟨o2, ho2, eq2⟩ := keys_nth z.ok hq2
    have : o2 = o := by rw [ho] at ho2; cases ho2; rfl
    subst this
    have hq' : (so.map fun q => (⟨q.1, q.2⟩ : S_api_Object))[i]? = some ⟨q.1, q.2⟩ := by rw [List.getElem?_map, hq]; rfl
    have hq2' : (so2.map fun q => (⟨q.1, q.2⟩ : S_api_Object))[i]? = some ⟨q2.1, q2.2⟩ := by rw [List.getElem?_map, hq2]; rfl
    obtain ⟨xb, xn⟩ := x.bs i q o2 hq ho
    obtain ⟨zb, _⟩ := z.bs i q2 o2 hq2 ho
    refine w_idx ob_len x.ob hq' rfl fun ad1 _ h1 => w_idx ob_len z.ob hq2' rfl fun ad2 _ h2 => ?_
    have f1 := h1.sub (l1 := []) (l2 := cInt .i64 q.1) (l3 := cSl q.2) (n := 0) rfl
    have f2 := h2.sub (l1 := []) (l2 := cInt .i64 q2.1) (l3 := cSl q2.2) (n := 0) rfl
    have g1 := h1.sub (l1 := cInt .i64 q.1) (l2 := cSl q.2) (l3 := []) (n := 1) rfl
    have g2 := h2.sub (l1 := cInt .i64 q2.1) (l2 := cSl q2.2) (l3 := []) (n := 1) rfl
    refine w_load f1 (w_load f2 (w_joinV false (fun j hj => w_ifF (by rw [eq, eq2]; simp) (w_idx ob_len x.ob hq' rfl fun ad3 _ h3 => w_idx ob_len z.ob hq2' rfl fun ad4 _ h4 => ?_)) (w_ifF rfl (more _ _ hil ⟨ia1 i (by omega), rfl⟩))))
    have g3 := h3.sub (l1 := cInt .i64 q.1) (l2 := cSl q.2) (l3 := []) (n := 1) rfl
    have g4 := h4.sub (l1 := cInt .i64 q2.1) (l2 := cSl q2.2) (l3 := []) (n := 1) rfl
    exact w_load g3 (w_load g4 (t_l21sameBytes xb zb xn hj))
  refine w_for v.ts.length (fun i (s : Int) hh => s = (i : Int) ∧ hh = _) ?_ ⟨rfl, rfl⟩
  rintro rec i _ _ hi ⟨rfl, rfl⟩ more
  refine w_if' (fun c => ?_) fun c => ?_
  · have c : (i : Int) < (a.Tokens.len : Int) := c
    have hil : i < v.ts.length := by omega
    have ht := List.getElem?_eq_getElem hil
    generalize v.ts[i] = t at ht
    exact w_idx tok_len5 x.ts ht rfl fun a1 _ h1 => w_idx tok_len5 z.ts ht rfl fun a2 _ h2 => w_load h1 (w_load h2 (w_ifF (by simp) (more _ _ hil ⟨ia1 i (by omega), rfl⟩)))
  refine w_for sl.length (fun i (s : Int) hh => s = (i : Int) ∧ hh = _) ?_ ⟨rfl, rfl⟩
  rintro rec i _ _ hi ⟨rfl, rfl⟩ more
  refine w_if' (fun c => ?_) fun c => y
  have c : (i : Int) < (a.Processes.len : Int) := c
  have hil : i < sl.length := by omega
  have hq := List.getElem?_eq_getElem hil
  generalize sl[i] = q at hq
  obtain ⟨o, ho, eq⟩ := keys_nth x.pk hq
  have hil2 : i < sl2.length := by omega
  have hq2 := List.getElem?_eq_getElem hil2
  generalize sl2[i] = q2 at hq2
  obtain ⟨o2, ho2, eq2⟩ := keys_nth z.pk hq2
  have : o2 = o := by rw [ho] at ho2; cases ho2; rfl
  subst this
  have hq' : (sl.map fun q => (⟨q.1, q.2⟩ : S_api_Process))[i]? = some ⟨q.1, q.2⟩ := by rw [List.getElem?_map, hq]; rfl
  have hq2' : (sl2.map fun q => (⟨q.1, q.2⟩ : S_api_Process))[i]? = some ⟨q2.1, q2.2⟩ := by rw [List.getElem?_map, hq2]; rfl
  obtain ⟨xb, xn⟩ := x.ls i q o2 hq ho
  obtain ⟨zb, _⟩ := z.ls i q2 o2 hq2 ho
  refine w_idx pr_len x.ps hq' rfl fun ad1 _ h1 => w_idx pr_len z.ps hq2' rfl fun ad2 _ h2 => ?_
  have f1 := h1.sub (l1 := []) (l2 := cInt .i64 q.1) (l3 := cSl q.2) (n := 0) rfl
  have f2 := h2.sub (l1 := []) (l2 := cInt .i64 q2.1) (l3 := cSl q2.2) (n := 0) rfl
  refine w_load f1 (w_load f2 (w_joinV false (fun j hj => w_ifF (by rw [eq, eq2]; simp) (w_idx pr_len x.ps hq' rfl fun ad3 _ h3 => w_idx pr_len z.ps hq2' rfl fun ad4 _ h4 => ?_)) (w_ifF rfl (more _ _ hil ⟨ia1 i (by omega), rfl⟩))))
  have g3 := h3.sub (l1 := cInt .i64 q.1) (l2 := cSl q.2) (l3 := []) (n := 1) rfl
  have g4 := h4.sub (l1 := cInt .i64 q2.1) (l2 := cSl q2.2) (l3 := []) (n := 1) rfl
  exact w_load g3 (w_load g4 (t_l21sameCaps xb zb xn hj))
theorem t_Copied {c : S_api_Call} {ds : List UInt8} {gs : List Int} (ad : Arr cU8 h c.Data ds) (hd : ds.length * 1 ≤ 2 ^ 48) (ag : Arr (cInt .i64) h c.Gifts gs) (hg : gs.length * 8 ≤ 2 ^ 48) {K : S_api_Call → H → Prop}
    (y : ∀ s1 s2 h', Buf cU8 1 N_u8 h' s1 ds → Buf (cInt .i64) 1 N_int h' s2 gs → Keeps h h' → (∀ b, s1.foot b ∨ s2.foot b → h b = none) → K { c with Data := s1, Gifts := s2 } h') : m_law21_Copied c K h := by
  unfold m_law21_Copied
  refine w_empty (T := UInt8) (cells := cU8) (sz := 1) fun b h1 hb b1 k1 => ?_
  refine w_anew u8_len u8_plain rfl k1 hb b1 (ad.keep k1) hd fun s2 h2 b2 k2 f2 _ => ?_
  refine w_empty (T := Int) (cells := cInt .i64) (sz := 1) fun b3 h3 hb3 e3 k3 => ?_
  refine w_anew ci_len (fun _ => rfl) rfl k3 hb3 e3 (ag.keep (k2.trans k3)) hg fun s4 h4 b4 k4 f4 _ => ?_
  exact y s2 s4 h4 (b2.keep k4) b4 (k2.trans k4) fun c g => g.elim (f2 c) fun g => k2.fresh (f4 c g)
end
end Go.Proofs.YtbjkfllncegpcaaGreat.K
namespace Go.Proofs.YtbjkfllncegpcaaGreat.K
open Go Go.Proofs
def m_law22_example (K : (Bool) → H → Prop) : H → Prop :=
 mNew 36 #[(Value.int .u64 0), (Value.int .u64 261), (Value.int .u64 0), (Value.int .u64 7)] fun ad1 =>
 m_plain_New (⟨8, 2, 3, 4, 3, 2, 2, 1, 1, 0⟩ : S_api_Config) (⟨some ad1, 2, 2⟩ : Sl) fun r2 =>
 mIf ((!decide (r2.2 = 0)) || (r2.1.isNone)) (
 K false
 ) (
 m_plain_Model_Do r2.1 (⟨1, 0, 65, ⟨0, ⟨0, 0⟩⟩, false, 0, 0, 0, Sl.nil, 0, Sl.nil⟩ : S_api_Call) fun r3 =>
 m_plain_Model_State r2.1 fun r4 =>
 mIf ((((decide (r3.Code = 0)) && ((decide (r3.Cap.Obj = 1)) && (((decide (r3.Cap.Pass.Hi = 0)) && ((decide (r3.Cap.Pass.Lo = 5)) && true)) && true))) && (decide ((r4.Objects.len : Int) = 1))) && (decide ((r4.Tokens.len : Int) = 1))) (
 mIdx r4.Tokens 0 5 fun ad7 =>
 mLoad (cInt .i64) (ad7.add 3) fun x8 =>
 K (decide (x8 = 31))
 ) (
 K false
 )
 )
def x_law22_example : Cx Tryz.prog := ⟨tys, [s_plain_New, s_plain_Model_Do, s_plain_Model_State], [1, 4, 5], [], mixed⟩
def h_law22_example : Hint := (.seq .d (.seq .d (.seq .d (.seq (.seq (.reg (.run [3, 7, 11] (.sel 17 20 1835008 (.run [15, 19, 23] .nil) (.run [15, 19, 23] .nil) .nil))) .d) (.seq .d (.seq .d (.seq (.reg (.run [3, 7, 11, 15] (.sel 29 35 67645734912 (.run [19, 23, 27, 31, 35, 39] .nil) (.run [19, 23, 27, 31, 35, 39] .nil) (.run [43] (.sel 36 41 4260607557632 (.run [47, 51, 55, 59, 63] .nil) (.run [47, 51, 55, 59, 63] .nil) (.run [67] (.sel 42 47 272678883688448 (.run [71, 75, 79, 83, 87] .nil) (.run [71, 75, 79, 83, 87] .nil) (.run [91] (.split 48 (.run [95, 99, 103, 107, 111, 115, 119, 123] .nil) (.run [95, 99, 103, 107, 111, 115, 119, 123] .nil)))))))))) .d)))))))
def s_law22_example : Spec Tryz.prog := mkSpec x_law22_example 4 Tryz.f4 [] [tBool] false h_law22_example (fun _ => m_law22_example) (fun a K h => by kernel_rfl) callee4 rfl
def m_law22_PlainPlays (a0 : S_api_Config) (a1 : Sl) (a2 : Sl) (K : (Bool) → H → Prop) : H → Prop :=
 m_law22_example fun r1 =>
 mIf (!r1) (
 K false
 ) (
 mNew 36 #[] fun ad2 =>
 mAppend 36 2 16 #[(Value.int .u64 0), (Value.int .u64 0)] (⟨some ad2, 0, 0⟩ : Sl) a1 fun s3 =>
 m_plain_New a0 s3 fun r4 =>
 mPure (m_ref21_May a0) fun r5 =>
 mIf (!r5) (
 K ((decide (r4.2 = 16)) && (r4.1.isNone))
 ) (
 mIf (decide (4096 < (a1.len : Int))) (
 K ((decide (r4.2 = 23)) && (r4.1.isNone))
 ) (
 mIf ((!decide (r4.2 = 0)) || (r4.1.isNone)) (
 K false
 ) (
 m_ref21_New a0 a1 fun r6 =>
 mLoop (fun (rec8 : Int → H → Prop) (s7 : Int) =>
 mIf (decide (s7 < (a2.len : Int))) (
 mIdx a2 s7 13 fun ad9 =>
 mLoad S_api_Call.cells ad9 fun x10 =>
 m_law21_Copied x10 fun r11 =>
 m_ref21_Model_Do r6 r11 fun r12 =>
 mIdx a2 s7 13 fun ad13 =>
 mLoad S_api_Call.cells ad13 fun x14 =>
 m_law21_Copied x14 fun r15 =>
 m_plain_Model_Do r4.1 r15 fun r16 =>
 m_law21_SameReply r16 r12 fun r17 =>
 mIf (!r17) (
 K false
 ) (
 rec8 (iAdd .i64 s7 1)
 )
 ) (
 m_plain_Model_State r4.1 fun r18 =>
 m_ref21_Model_State r6 fun r19 =>
 m_law21_SameState r18 r19 fun r20 =>
 K r20
 )
 ) 0
 )
 )
 )
 )
def x_law22_PlainPlays : Cx Tryz.prog := ⟨tys, [s_law22_example, s_plain_New, s_ref21_May, s_ref21_New, s_ref21_Model_Do, s_law21_Copied, s_law21_SameReply, s_plain_Model_Do, s_law21_SameState, s_plain_Model_State, s_ref21_Model_State], [3, 11], [], mixed⟩
def h_law22_PlainPlays : Hint := (.seq .d (.seq .d (.seq (.reg (.run [8, 1, 6, 15, 19, 20, 24, 28, 32, 36] .nil)) (.seq (.seq .d (.cond (.seq (.reg (.run [3, 7, 11] (.sel 27 30 1879048192 (.run [15, 19, 23] .nil) (.run [15, 19, 23] .nil) (.run [27] .nil)))) .d) .d)) (.seq (.seq .d (.cond (.seq (.reg (.run [3, 7, 11] (.sel 36 39 962072674304 (.run [15, 19, 23] .nil) (.run [15, 19, 23] .nil) (.run [27] .nil)))) .d) .d)) (.seq (.seq (.reg (.run [3, 7, 11] (.sel 42 45 61572651155456 (.run [15, 19, 23] .nil) (.run [15, 19, 23] .nil) .nil))) .d) (.seq .d (.seq (.seq .d (.blk (.loop [.slot 10 (tInt .i64)] 4722365919919691795520 [] (.seq .d (.seq (.blk (.seq .d (.seq (.reg (.run [0, 4, 8, 12, 29, 18, 23, 27, 35, 36] .nil)) .d))) .d))))) .d))))))))
def s_law22_PlainPlays : Spec Tryz.prog := mkSpec x_law22_PlainPlays 3 Tryz.f3 [S_api_Config.ty, tSl, tSl] [tBool] false h_law22_PlainPlays (fun a => m_law22_PlainPlays a.1 a.2.1 a.2.2) (fun a K h => by kernel_rfl) callee3 rfl
end Go.Proofs.YtbjkfllncegpcaaGreat.K
namespace Go.Proofs.YtbjkfllncegpcaaGreat.K
open Go
def exC : S_api_Config := ⟨8, 2, 3, 4, 3, 2, 2, 1, 1, 0⟩
def exD : List S_api_Word := [⟨0, 261⟩, ⟨0, 7⟩]
def exA : S_api_Call := ⟨1, 0, 65, ⟨0, ⟨0, 0⟩⟩, false, 0, 0, 0, Sl.nil, 0, Sl.nil⟩
theorem ex_do : (doO (newO exC exD) exA [] []).1 = ⟨0, ⟨1, ⟨0, 5⟩⟩, [], 0⟩ := by kernel_rfl
theorem ex_ts : (stateO (doO (newO exC exD) exA [] []).2).ts = [⟨⟨1, ⟨0, 5⟩⟩, 31, -1⟩] := by kernel_rfl
theorem ex_ob : (stateO (doO (newO exC exD) exA [] []).2).ob.length = 1 := by kernel_rfl
theorem doO_with (m : MdS) (c : S_api_Call) (s1 s2 : Sl) (ds : List UInt8) (gs : List Int) : doO m { c with Data := s1, Gifts := s2 } ds gs = doO m c ds gs := rfl
theorem state_len {m : MdS} (i : MSI m) : (stateO m).ts.length ≤ 2 ^ 20 := by
  have on := i.obn
  have tn := i.tsn
  have : ∀ (l : List (Int × List UInt8)) (out : List S_api_Token), (l.foldl (fun out p => belowO m.ts p.1 (m.ts.length + 1) 0 (-1) out) out).length ≤ out.length + l.length * 256 := by
    intro l
    induction l with
    | nil => intro out; exact Nat.le_refl _
    | cons a r ih =>
      intro out
      have h1 := ih (belowO m.ts a.1 (m.ts.length + 1) 0 (-1) out)
      have h2 := below_len (ts := m.ts) a.1 (m.ts.length + 1) 0 (-1) out
      have h3 := cntB_le i.ok a.1 (m.ts.length + 1) 0
      rw [List.foldl_cons, List.length_cons]
      omega
  have h1 := this m.ob []
  show (m.ob.foldl _ []).length ≤ _
  rw [List.length_nil] at h1
  omega
theorem do_data {m : MdS} (i : MSI m) (c : S_api_Call) (ds : List UInt8) (gs : List Int) : (doO m c ds gs).1.data.length ≤ 4096 := by
  have z : ∀ {l : List UInt8}, l = [] → l.length ≤ 4096 := fun e => by rw [e]; exact Nat.zero_le _
  unfold doO
  by_cases q0 : formedO c ds gs
  · rw [if_pos q0]
    by_cases hl : (alook m.ls c.By).isSome = true
    · rw [if_pos hl]
      by_cases q : c.Op = 1
      · rw [if_pos q]
        exact z (create_sh _).1
      rw [if_neg q]; clear q
      by_cases q : c.Op = 2
      · rw [if_pos q]
        exact z (destroy_sh _).2.1
      rw [if_neg q]; clear q
      by_cases q : c.Op = 3
      · rw [if_pos q]
        exact z (derive_sh _ _).1
      rw [if_neg q]; clear q
      by_cases q : c.Op = 4
      · rw [if_pos q]
        exact z (revoke_sh _).2.1
      rw [if_neg q]; clear q
      by_cases q : c.Op = 5
      · rw [if_pos q]
        unfold readO
        dsimp only
        split
        · split
          · have := i.obs' c.Cap.Obj
            rw [List.length_take, List.length_drop]; omega
          · exact z rfl
        · exact z rfl
      rw [if_neg q]; clear q
      by_cases q : c.Op = 6
      · rw [if_pos q]
        exact z (write_sh _ _).2.1
      rw [if_neg q]; clear q
      by_cases q : c.Op = 7
      · rw [if_pos q]
        exact z (add_sh _).2.1
      rw [if_neg q]; clear q
      by_cases q : c.Op = 8
      · rw [if_pos q]
        exact z (remove_sh _).2.1
      rw [if_neg q]; clear q
      by_cases q : c.Op = 9
      · rw [if_pos q]
        exact z (spawn_sh _ _).2
      rw [if_neg q]; clear q
      exact z rfl
    · rw [if_neg hl]; exact z rfl
  · rw [if_neg q0]; exact z rfl
section
variable {h : H}
theorem t_l22example {K : Bool → H → Prop} (y : ∀ h', Keeps h h' → K true h') : m_law22_example K h := by
  unfold m_law22_example
  refine w_new fun b hb => ?_
  have k1 : Keeps h (upd h b (.cells #[(Value.int .u64 0), (Value.int .u64 261), (Value.int .u64 0), (Value.int .u64 7)] N_api_Word (0, 0))) := Keeps.new hb
  have q1 : (upd h b (.cells #[(Value.int .u64 0), (Value.int .u64 261), (Value.int .u64 0), (Value.int .u64 7)] N_api_Word (0, 0))) b = some (.cells (flat cW exD ++ []).toArray N_api_Word (0, 0)) := upd_same _ _ _
  generalize (upd h b (.cells #[(Value.int .u64 0), (Value.int .u64 261), (Value.int .u64 0), (Value.int .u64 7)] N_api_Word (0, 0))) = h1 at k1 q1
  have b1 : Buf cW 2 N_api_Word h1 ⟨some ⟨b, 0, none⟩, 2, 2⟩ exD := ⟨rfl, Nat.le_refl _, .inr ⟨b, [], (0, 0), rfl, q1, rfl, thawed0 _⟩⟩
  have gw : ∀ w ∈ exD, GoodW w := fun w hw => by
    rcases List.mem_cons.1 hw with rfl | hw
    · exact ⟨261, by decide, by decide⟩
    · rw [List.mem_singleton] at hw; subst hw; exact ⟨7, by decide, by decide⟩
  have my : mayO exC := by decide
  refine t_pNew (c := exC) b1.arr gw (fun z => absurd my z) (fun _ z => absurd z (by decide)) fun _ _ p F h2 x2 i2 k2 f2 => ?_
  refine w_ifF rfl ?_
  have an : Arr cU8 h2 exA.Data [] := Buf.nil (e := N_u8) (sz := 1).arr
  have ag : Arr (cInt .i64) h2 exA.Gifts [] := (Buf.nil (e := N_int) (sz := 1)).arr
  refine t_pDo x2 i2 (c := exA) an ag ⟨0, by decide, by decide⟩ fun s h3 F3 x3 k3 b3 f3 => ?_
  rw [ex_do]
  have i3 := do_inv i2 exA [] []
  have r3 := rise_do (rise_newO exC exD) i2 exA [] []
  refine t_pState x3 i3 r3 fun st h4 so sl G at4 k4 => ?_
  have lt := at4.ts.len
  rw [ex_ts] at lt
  have lo := at4.ob.len
  rw [List.length_map, keys_len at4.bs.keys, ex_ob] at lo
  have bt := at4.ts
  rw [ex_ts] at bt
  refine w_ifT (by simp [lt, lo]) ?_
  refine w_field tok_len5 bt.arr (i := 0) (v := ⟨⟨1, ⟨0, 5⟩⟩, 31, -1⟩) rfl rfl (v' := (31 : Int)) (cells' := cInt .i64) (l1 := (S_api_Token.cells ⟨⟨1, ⟨0, 5⟩⟩, 31, -1⟩).take 3) (l3 := (S_api_Token.cells ⟨⟨1, ⟨0, 5⟩⟩, 31, -1⟩).drop 4) rfl rfl ?_
  exact y h4 ((((k1.trans k2).but k3.but fun c g => k1.fresh (f2 c g))).trans k4)
structure PlayIn (h : H) (x : S_api_Call) (ds : List UInt8) (gs : List Int) : Prop where
  ad : Arr cU8 h x.Data ds
  hd : ds.length * 1 ≤ 2 ^ 48
  ag : Arr (cInt .i64) h x.Gifts gs
  hg : gs.length * 8 ≤ 2 ^ 48
  gw : GoodW x.Cap.Pass
theorem PlayIn.keep {h' : H} {x : S_api_Call} {ds : List UInt8} {gs : List Int} (q : PlayIn h x ds gs) (k : Keeps h h') : PlayIn h' x ds gs := ⟨q.ad.keep k, q.hd, q.ag.keep k, q.hg, q.gw⟩
theorem goodW_of {x : S_api_Word} (h1 : IntKind.u64.min ≤ x.Hi ∧ x.Hi ≤ IntKind.u64.max) (h2 : IntKind.u64.min ≤ x.Lo ∧ x.Lo ≤ IntKind.u64.max) : GoodW x := by
  have e1 : IntKind.u64.min = 0 := by decide
  have e2 : IntKind.u64.max = 18446744073709551615 := by decide
  rw [e1, e2] at h1 h2
  obtain ⟨a, b⟩ := x
  have h1 : 0 ≤ a ∧ a ≤ 18446744073709551615 := h1
  have h2 : 0 ≤ b ∧ b ≤ 18446744073709551615 := h2
  refine ⟨a.toNat * 2 ^ 64 + b.toNat, by omega, ?_⟩
  unfold wordOf
  congr 1 <;> omega
theorem cl_len : ∀ x, (S_api_Call.cells x).length = 13 := fun _ => rfl
theorem t_PlainPlays {c : S_api_Config} {sd sc : Sl} {xs : List S_api_Word} {cs : List S_api_Call} (ar : Arr cW h sd xs) (hx : xs.length * 16 ≤ 2 ^ 48) (gw : ∀ w ∈ xs, GoodW w) (ac : Arr S_api_Call.cells h sc cs) (hc : cs.length ≤ 2 ^ 60) (good : ∀ x ∈ cs, ∃ ds gs, PlayIn h x ds gs) {K : Bool → H → Prop} (y : ∀ h', Keeps h h' → K true h') : m_law22_PlainPlays c sd sc K h := by
  unfold m_law22_PlainPlays
  refine t_l22example fun h1 k1 => w_ifF rfl ?_
  refine w_empty (T := S_api_Word) (cells := cW) (sz := 2) fun b h2 hb b2 k2 => ?_
  have k02 := k1.trans k2
  refine w_anew word_len word_plain rfl k2 hb b2 (ar.keep k02) hx fun s3 h3 b3 k3 f3 _ => ?_
  have k03 := k1.trans k3
  refine t_pNew b3.arr gw (fun z => ?_) (fun z1 z2 => ?_) fun my hn p F h4 x4 i4 k4 f4 => ?_
  · exact w_rMay (w_ifT (by rw [decide_eq_false z]; rfl) (y _ k03))
  · refine w_rMay (w_ifF (by rw [decide_eq_true z1]; rfl) (w_ifT (decide_eq_true (by rw [ar.len]; omega)) (y _ k03)))
  have k04 := k03.trans k4
  refine w_rMay (w_ifF (by rw [decide_eq_true my]; rfl) (w_ifF (decide_eq_false (by rw [ar.len]; omega)) (w_ifF rfl ?_)))
  refine t_rNew (ar.keep k04) (by omega) fun q Fr h5 r5 k5 f5 => ?_
  have cl := ac.len
  refine w_for cs.length (fun n (s : Int) hh => s = (n : Int) ∧ ∃ Fp Fr m, PM hh p Fp m ∧ RM hh q Fr m ∧ MSI m ∧ MSR m ∧ MSK m ∧ Keeps h hh ∧ (∀ c, Fp c → h c = none) ∧ (∀ c, Fr c → h c = none) ∧ ∀ c, Fp c → ¬ Fr c) ?_
    ⟨rfl, F, Fr, newO c xs, x4.keep k5, r5, i4, rise_newO _ _, kin_newO _ _, k04.trans k5, fun c g => k03.fresh (f4 c g), fun c g => k04.fresh (f5 c g), fun c g g' => x4.has c g (f5 c g')⟩
  rintro rec n _ hh hn' ⟨rfl, Fp, Fr, m, xp, xr, i, ri, mk, kh, fp, fr, dj⟩ more
  refine w_if' (fun c0 => ?_) fun c0 => ?_
  · have c0 : (n : Int) < (sc.len : Int) := c0
    have hnl : n < cs.length := by omega
    have ht := List.getElem?_eq_getElem hnl
    obtain ⟨ds, gs, pin⟩ := good _ (List.getElem_mem hnl)
    generalize cs[n] = x at ht pin
    refine w_get cl_len (ac.keep kh) ht rfl rfl ?_
    have pin1 := pin.keep kh
    refine t_Copied pin1.ad pin1.hd pin1.ag pin1.hg fun s1 s2 h6 b6 g6 k6 f6 => ?_
    have xr6 := xr.keep k6
    have xp6 := xp.keep k6
    refine t_rDo xr6 i mk (c := { x with Data := s1, Gifts := s2 }) b6.arr (fun v g g' => xr.has v g' (f6 v (.inl g))) g6.arr pin.gw fun s7 h7 F7 xr7 c7 b7 f7 => ?_
    rw [doO_with] at xr7 b7 ⊢
    have kh6 := kh.trans k6
    have kh7 : Keeps h h7 := kh6.but c7.but fun v g => fr v g
    refine w_get cl_len (ac.keep kh7) ht rfl rfl ?_
    have pin7 := pin.keep kh7
    refine t_Copied pin7.ad pin7.hd pin7.ag pin7.hg fun s8 s9 h8 b8 g8 k8 f8 => ?_
    have xp7 : PM h7 p Fp m := xp6.but c7.but (fun v g => dj v g) c7.dom
    have xp8 := xp7.keep k8
    refine t_pDo xp8 i (c := { x with Data := s8, Gifts := s9 }) b8.arr g8.arr pin.gw fun s10 h10 F10 xp10 c10 b10 f10 => ?_
    rw [doO_with] at xp10 b10 ⊢
    have kh10 : Keeps h h10 := (kh7.trans k8).but c10.but fun v g => fp v g
    have dj7 : ∀ v, F7 v → ¬ Fp v := fun v g g' => (c7.foot v g).elim (fun g => dj v g' g) fun z => xp6.has v g' z
    have xr10 : RM h10 q F7 (doO m x ds gs).2 := (xr7.keep k8).but c10.but (fun v g => dj7 v g) c10.dom
    have b710 : Buf cU8 1 N_u8 h10 s7 (doO m x ds gs).1.data := (b7.keep k8).but c10.but fun ad ha g => xp6.has _ g (f7 _ ⟨ad, ha, rfl⟩).1
    have dl : (doO m x ds gs).1.data.length ≤ 2 ^ 60 := Nat.le_trans (do_data i x ds gs) (by decide)
    refine t_l21SameReply (a := ⟨_, _, s10, _⟩) (b := ⟨_, _, s7, _⟩) rfl rfl rfl b10.arr b710.arr dl ?_
    refine w_ifF rfl (more _ _ hnl ⟨ia1 n (by omega), F10, F7, (doO m x ds gs).2, xp10, xr10, do_inv i x ds gs, rise_do ri i x ds gs, do_kin mk i x ds gs, kh10, fun v g => (c10.foot v g).elim (fp v) fun z => (kh7.trans k8).fresh z, fun v g => (c7.foot v g).elim (fr v) fun z => kh6.fresh z, fun v g g' => ?_⟩)
    rcases c10.foot v g with g | z
    · exact dj7 v g' g
    · exact (xr7.keep k8).has v g' z
  · refine t_pState xp i ri fun st h6 so sl G at6 k6 => ?_
    refine t_rState (xr.keep k6) i mk fun st7 h7 so7 sl7 G7 at7 k7 => ?_
    have o1 : ∀ o ∈ (stateO m).ob, o.2.length ≤ 2 ^ 60 := fun o ho => Nat.le_trans (i.obs o ho) (by decide)
    have o2 : ∀ o ∈ (stateO m).ls, o.2.length ≤ 2 ^ 60 := fun o ho => Nat.le_trans (i.lsl o ho) (by decide)
    exact t_l21SameState ((at6.rd o1 o2).keep k7) (at7.rd o1 o2) (Nat.le_trans i.obn (by decide)) (Nat.le_trans (state_len i) (by decide)) (Nat.le_trans i.lsn (by decide)) (y _ ((kh.trans k6).trans k7))
end
end Go.Proofs.YtbjkfllncegpcaaGreat.K
namespace Go.Proofs.YtbjkfllncegpcaaGreat.K
open Go Go.ChangeShapes Go.WideShapes Go.ChangeAt Go.RowKit Go.Proofs
def G_api_Config (_W : World) (x : S_api_Config) : Prop := (IntKind.i64.min ≤ x.Width ∧ x.Width ≤ IntKind.i64.max) ∧ (IntKind.i64.min ≤ x.Objects ∧ x.Objects ≤ IntKind.i64.max) ∧ (IntKind.i64.min ≤ x.Pages ∧ x.Pages ≤ IntKind.i64.max) ∧ (IntKind.i64.min ≤ x.Entries ∧ x.Entries ≤ IntKind.i64.max) ∧ (IntKind.i64.min ≤ x.Quota ∧ x.Quota ≤ IntKind.i64.max) ∧ (IntKind.i64.min ≤ x.Procs ∧ x.Procs ≤ IntKind.i64.max) ∧ (IntKind.i64.min ≤ x.List ∧ x.List ≤ IntKind.i64.max) ∧ (IntKind.i64.min ≤ x.Sets ∧ x.Sets ≤ IntKind.i64.max) ∧ (IntKind.i64.min ≤ x.Ways ∧ x.Ways ≤ IntKind.i64.max) ∧ (IntKind.i64.min ≤ x.Knob ∧ x.Knob ≤ IntKind.i64.max)
def W_api_Config (_B : Nat) (_x : S_api_Config) : Prop := True
set_option maxRecDepth 100000 in
theorem openC_api_Config {HH : Type} {enc : TypeId × Value → HH} {W : World} {t : TypeId} (ht : Tryz.prog.underlying t = Tryz.prog.underlying 22) (hc : Tryz.prog.cellsOf t = 10) {n : Nat} {cs : List Value} {y : DataW HH × List MemPlace} (h : DataW.trod enc Tryz.prog W 0 (fun _ => true) true n t cs = some y) : ∃ x : S_api_Config, cs = S_api_Config.cells x ∧ G_api_Config W x ∧ ∀ B, Weigh B t y.1 → W_api_Config B x := by
  have ht : Tryz.prog.underlying t = _ := ht.trans Tryz.underlying22
  obtain ⟨_, _, _, _, hl0, _, _⟩ := DataW.trod_struct ht h
  obtain ⟨y0, n0, h0, k0⟩ := trod_fieldW ht h 0 _ rfl
  obtain ⟨x0, e0, g0⟩ := open_intC (k := .i64) (by kernel_rfl) h0
  obtain ⟨y1, n1, h1, k1⟩ := trod_fieldW ht h 1 _ rfl
  obtain ⟨x1, e1, g1⟩ := open_intC (k := .i64) (by kernel_rfl) h1
  obtain ⟨y2, n2, h2, k2⟩ := trod_fieldW ht h 2 _ rfl
  obtain ⟨x2, e2, g2⟩ := open_intC (k := .i64) (by kernel_rfl) h2
  obtain ⟨y3, n3, h3, k3⟩ := trod_fieldW ht h 3 _ rfl
  obtain ⟨x3, e3, g3⟩ := open_intC (k := .i64) (by kernel_rfl) h3
  obtain ⟨y4, n4, h4, k4⟩ := trod_fieldW ht h 4 _ rfl
  obtain ⟨x4, e4, g4⟩ := open_intC (k := .i64) (by kernel_rfl) h4
  obtain ⟨y5, n5, h5, k5⟩ := trod_fieldW ht h 5 _ rfl
  obtain ⟨x5, e5, g5⟩ := open_intC (k := .i64) (by kernel_rfl) h5
  obtain ⟨y6, n6, h6, k6⟩ := trod_fieldW ht h 6 _ rfl
  obtain ⟨x6, e6, g6⟩ := open_intC (k := .i64) (by kernel_rfl) h6
  obtain ⟨y7, n7, h7, k7⟩ := trod_fieldW ht h 7 _ rfl
  obtain ⟨x7, e7, g7⟩ := open_intC (k := .i64) (by kernel_rfl) h7
  obtain ⟨y8, n8, h8, k8⟩ := trod_fieldW ht h 8 _ rfl
  obtain ⟨x8, e8, g8⟩ := open_intC (k := .i64) (by kernel_rfl) h8
  obtain ⟨y9, n9, h9, k9⟩ := trod_fieldW ht h 9 _ rfl
  obtain ⟨x9, e9, g9⟩ := open_intC (k := .i64) (by kernel_rfl) h9
  have hl : cs.length = 10 := hl0.trans hc
  match cs, hl with
  | [c0, c1, c2, c3, c4, c5, c6, c7, c8, c9], _ =>
    replace e0 : [c0] = (cInt .i64) x0 := (show [c0] = _ by kernel_rfl).trans e0
    replace e1 : [c1] = (cInt .i64) x1 := (show [c1] = _ by kernel_rfl).trans e1
    replace e2 : [c2] = (cInt .i64) x2 := (show [c2] = _ by kernel_rfl).trans e2
    replace e3 : [c3] = (cInt .i64) x3 := (show [c3] = _ by kernel_rfl).trans e3
    replace e4 : [c4] = (cInt .i64) x4 := (show [c4] = _ by kernel_rfl).trans e4
    replace e5 : [c5] = (cInt .i64) x5 := (show [c5] = _ by kernel_rfl).trans e5
    replace e6 : [c6] = (cInt .i64) x6 := (show [c6] = _ by kernel_rfl).trans e6
    replace e7 : [c7] = (cInt .i64) x7 := (show [c7] = _ by kernel_rfl).trans e7
    replace e8 : [c8] = (cInt .i64) x8 := (show [c8] = _ by kernel_rfl).trans e8
    replace e9 : [c9] = (cInt .i64) x9 := (show [c9] = _ by kernel_rfl).trans e9
    exact ⟨⟨x0, x1, x2, x3, x4, x5, x6, x7, x8, x9⟩, (show [c0, c1, c2, c3, c4, c5, c6, c7, c8, c9] = [c0] ++ [c1] ++ [c2] ++ [c3] ++ [c4] ++ [c5] ++ [c6] ++ [c7] ++ [c8] ++ [c9] from rfl).trans (by rw [e0, e1, e2, e3, e4, e5, e6, e7, e8, e9]; rfl), ⟨g0, g1, g2, g3, g4, g5, g6, g7, g8, g9⟩, fun B hB => trivial⟩
def G_api_Word (_W : World) (x : S_api_Word) : Prop := (IntKind.u64.min ≤ x.Hi ∧ x.Hi ≤ IntKind.u64.max) ∧ (IntKind.u64.min ≤ x.Lo ∧ x.Lo ≤ IntKind.u64.max)
def W_api_Word (_B : Nat) (_x : S_api_Word) : Prop := True
set_option maxRecDepth 100000 in
theorem openC_api_Word {HH : Type} {enc : TypeId × Value → HH} {W : World} {t : TypeId} (ht : Tryz.prog.underlying t = Tryz.prog.underlying 35) (hc : Tryz.prog.cellsOf t = 2) {n : Nat} {cs : List Value} {y : DataW HH × List MemPlace} (h : DataW.trod enc Tryz.prog W 0 (fun _ => true) true n t cs = some y) : ∃ x : S_api_Word, cs = S_api_Word.cells x ∧ G_api_Word W x ∧ ∀ B, Weigh B t y.1 → W_api_Word B x := by
  have ht : Tryz.prog.underlying t = _ := ht.trans Tryz.underlying35
  obtain ⟨_, _, _, _, hl0, _, _⟩ := DataW.trod_struct ht h
  obtain ⟨y0, n0, h0, k0⟩ := trod_fieldW ht h 0 _ rfl
  obtain ⟨x0, e0, g0⟩ := open_intC (k := .u64) (by kernel_rfl) h0
  obtain ⟨y1, n1, h1, k1⟩ := trod_fieldW ht h 1 _ rfl
  obtain ⟨x1, e1, g1⟩ := open_intC (k := .u64) (by kernel_rfl) h1
  have hl : cs.length = 2 := hl0.trans hc
  match cs, hl with
  | [c0, c1], _ =>
    replace e0 : [c0] = (cInt .u64) x0 := (show [c0] = _ by kernel_rfl).trans e0
    replace e1 : [c1] = (cInt .u64) x1 := (show [c1] = _ by kernel_rfl).trans e1
    exact ⟨⟨x0, x1⟩, (show [c0, c1] = [c0] ++ [c1] from rfl).trans (by rw [e0, e1]; rfl), ⟨g0, g1⟩, fun B hB => trivial⟩
def G_api_Cap (W : World) (x : S_api_Cap) : Prop := (IntKind.i64.min ≤ x.Obj ∧ x.Obj ≤ IntKind.i64.max) ∧ G_api_Word W x.Pass
def W_api_Cap (_B : Nat) (_x : S_api_Cap) : Prop := True
set_option maxRecDepth 100000 in
theorem openC_api_Cap {HH : Type} {enc : TypeId × Value → HH} {W : World} {t : TypeId} (ht : Tryz.prog.underlying t = Tryz.prog.underlying 37) (hc : Tryz.prog.cellsOf t = 3) {n : Nat} {cs : List Value} {y : DataW HH × List MemPlace} (h : DataW.trod enc Tryz.prog W 0 (fun _ => true) true n t cs = some y) : ∃ x : S_api_Cap, cs = S_api_Cap.cells x ∧ G_api_Cap W x ∧ ∀ B, Weigh B t y.1 → W_api_Cap B x := by
  have ht : Tryz.prog.underlying t = _ := ht.trans Tryz.underlying37
  obtain ⟨_, _, _, _, hl0, _, _⟩ := DataW.trod_struct ht h
  obtain ⟨y0, n0, h0, k0⟩ := trod_fieldW ht h 0 _ rfl
  obtain ⟨x0, e0, g0⟩ := open_intC (k := .i64) (by kernel_rfl) h0
  obtain ⟨y1, n1, h1, k1⟩ := trod_fieldW ht h 1 _ rfl
  obtain ⟨x1, e1, g1⟩ := ((openC_api_Word (t := 36) (by kernel_rfl) (by kernel_rfl) h1).imp fun x q => And.intro q.1 q.2.1)
  have hl : cs.length = 3 := hl0.trans hc
  match cs, hl with
  | [c0, c1, c2], _ =>
    replace e0 : [c0] = (cInt .i64) x0 := (show [c0] = _ by kernel_rfl).trans e0
    replace e1 : [c1, c2] = S_api_Word.cells x1 := (show [c1, c2] = _ by kernel_rfl).trans e1
    exact ⟨⟨x0, x1⟩, (show [c0, c1, c2] = [c0] ++ [c1, c2] from rfl).trans (by rw [e0, e1]; rfl), ⟨g0, g1⟩, fun B hB => trivial⟩
def G_api_Call (W : World) (x : S_api_Call) : Prop := (IntKind.i64.min ≤ x.Op ∧ x.Op ≤ IntKind.i64.max) ∧ (IntKind.i64.min ≤ x.By ∧ x.By ≤ IntKind.i64.max) ∧ (IntKind.i64.min ≤ x.Size ∧ x.Size ≤ IntKind.i64.max) ∧ G_api_Cap W x.Cap ∧ True ∧ (IntKind.i64.min ≤ x.Rights ∧ x.Rights ≤ IntKind.i64.max) ∧ (IntKind.i64.min ≤ x.Off ∧ x.Off ≤ IntKind.i64.max) ∧ (IntKind.i64.min ≤ x.N ∧ x.N ≤ IntKind.i64.max) ∧ (∃ xs, Arr cU8 (heapH W) x.Data xs ∧ (∀ z ∈ xs, True) ∧ x.Data.cap ≤ maxLen) ∧ (IntKind.i64.min ≤ x.Index ∧ x.Index ≤ IntKind.i64.max) ∧ (∃ xs, Arr (cInt .i64) (heapH W) x.Gifts xs ∧ (∀ z ∈ xs, (IntKind.i64.min ≤ z ∧ z ≤ IntKind.i64.max)) ∧ x.Gifts.cap ≤ maxLen)
def W_api_Call (B : Nat) (x : S_api_Call) : Prop := x.Data.len * Tryz.prog.bytesOf 5 ≤ B ∧ x.Gifts.len * Tryz.prog.bytesOf 3 ≤ B
set_option maxRecDepth 100000 in
theorem openC_api_Call {HH : Type} {enc : TypeId × Value → HH} {W : World} {t : TypeId} (ht : Tryz.prog.underlying t = Tryz.prog.underlying 44) (hc : Tryz.prog.cellsOf t = 13) {n : Nat} {cs : List Value} {y : DataW HH × List MemPlace} (h : DataW.trod enc Tryz.prog W 0 (fun _ => true) true n t cs = some y) : ∃ x : S_api_Call, cs = S_api_Call.cells x ∧ G_api_Call W x ∧ ∀ B, Weigh B t y.1 → W_api_Call B x := by
  have ht : Tryz.prog.underlying t = _ := ht.trans Tryz.underlying44
  obtain ⟨_, _, _, _, hl0, _, _⟩ := DataW.trod_struct ht h
  obtain ⟨y0, n0, h0, k0⟩ := trod_fieldW ht h 0 _ rfl
  obtain ⟨x0, e0, g0⟩ := open_intC (k := .i64) (by kernel_rfl) h0
  obtain ⟨y1, n1, h1, k1⟩ := trod_fieldW ht h 1 _ rfl
  obtain ⟨x1, e1, g1⟩ := open_intC (k := .i64) (by kernel_rfl) h1
  obtain ⟨y2, n2, h2, k2⟩ := trod_fieldW ht h 2 _ rfl
  obtain ⟨x2, e2, g2⟩ := open_intC (k := .i64) (by kernel_rfl) h2
  obtain ⟨y3, n3, h3, k3⟩ := trod_fieldW ht h 3 _ rfl
  obtain ⟨x3, e3, g3⟩ := ((openC_api_Cap (t := 38) (by kernel_rfl) (by kernel_rfl) h3).imp fun x q => And.intro q.1 q.2.1)
  obtain ⟨y4, n4, h4, k4⟩ := trod_fieldW ht h 4 _ rfl
  obtain ⟨x4, e4, g4⟩ := open_boolC (by kernel_rfl) h4
  obtain ⟨y5, n5, h5, k5⟩ := trod_fieldW ht h 5 _ rfl
  obtain ⟨x5, e5, g5⟩ := open_intC (k := .i64) (by kernel_rfl) h5
  obtain ⟨y6, n6, h6, k6⟩ := trod_fieldW ht h 6 _ rfl
  obtain ⟨x6, e6, g6⟩ := open_intC (k := .i64) (by kernel_rfl) h6
  obtain ⟨y7, n7, h7, k7⟩ := trod_fieldW ht h 7 _ rfl
  obtain ⟨x7, e7, g7⟩ := open_intC (k := .i64) (by kernel_rfl) h7
  obtain ⟨y8, n8, h8, k8⟩ := trod_fieldW ht h 8 _ rfl
  obtain ⟨x8, e8, g8, w8⟩ := open_slCW (e := 5) (sz := 1) (cells := cU8) (Good := fun _ => True) (fun _ => rfl) (by decide) (by kernel_rfl) (by kernel_rfl) open_u8C h8
  obtain ⟨y9, n9, h9, k9⟩ := trod_fieldW ht h 9 _ rfl
  obtain ⟨x9, e9, g9⟩ := open_intC (k := .i64) (by kernel_rfl) h9
  obtain ⟨y10, n10, h10, k10⟩ := trod_fieldW ht h 10 _ rfl
  obtain ⟨x10, e10, g10, w10⟩ := open_slCW (e := 3) (sz := 1) (cells := (cInt .i64)) (Good := fun z => (IntKind.i64.min ≤ z ∧ z ≤ IntKind.i64.max)) (fun _ => rfl) (by decide) (by kernel_rfl) (by kernel_rfl) (fun _ _ _ hf => open_intC (k := .i64) (by kernel_rfl) hf) h10
  have hl : cs.length = 13 := hl0.trans hc
  match cs, hl with
  | [c0, c1, c2, c3, c4, c5, c6, c7, c8, c9, c10, c11, c12], _ =>
    replace e0 : [c0] = (cInt .i64) x0 := (show [c0] = _ by kernel_rfl).trans e0
    replace e1 : [c1] = (cInt .i64) x1 := (show [c1] = _ by kernel_rfl).trans e1
    replace e2 : [c2] = (cInt .i64) x2 := (show [c2] = _ by kernel_rfl).trans e2
    replace e3 : [c3, c4, c5] = S_api_Cap.cells x3 := (show [c3, c4, c5] = _ by kernel_rfl).trans e3
    replace e4 : [c6] = cBool x4 := (show [c6] = _ by kernel_rfl).trans e4
    replace e5 : [c7] = (cInt .i64) x5 := (show [c7] = _ by kernel_rfl).trans e5
    replace e6 : [c8] = (cInt .i64) x6 := (show [c8] = _ by kernel_rfl).trans e6
    replace e7 : [c9] = (cInt .i64) x7 := (show [c9] = _ by kernel_rfl).trans e7
    replace e8 : [c10] = cSl x8 := (show [c10] = _ by kernel_rfl).trans e8
    replace e9 : [c11] = (cInt .i64) x9 := (show [c11] = _ by kernel_rfl).trans e9
    replace e10 : [c12] = cSl x10 := (show [c12] = _ by kernel_rfl).trans e10
    exact ⟨⟨x0, x1, x2, x3, x4, x5, x6, x7, x8, x9, x10⟩, (show [c0, c1, c2, c3, c4, c5, c6, c7, c8, c9, c10, c11, c12] = [c0] ++ [c1] ++ [c2] ++ [c3, c4, c5] ++ [c6] ++ [c7] ++ [c8] ++ [c9] ++ [c10] ++ [c11] ++ [c12] from rfl).trans (by rw [e0, e1, e2, e3, e4, e5, e6, e7, e8, e9, e10]; rfl), ⟨g0, g1, g2, g3, g4, g5, g6, g7, g8, g9, g10⟩, fun B hB => ⟨w8 B (k8 B hB), w10 B (k10 B hB)⟩⟩
set_option maxRecDepth 100000 in
theorem plainPlays_lifted (os : Os) (started : os.Started) (HH : Type) (enc : TypeId × Value → HH) :
    ReturnsInHanded {} Tryz.checked os 3 .any (Rows.plainPlaysSpec.pre6 enc Tryz.prog Tryz.f3 Rows.plainPlaysRow.domain false) (Rows.plainPlaysSpec.post enc Tryz.prog Tryz.f3 false true false false) := by
  refine returnsInHanded_of_change_shaped (C := Tryz.checked) own started (by kernel_rfl) Tryz.func3
    (ChangeSpec.witness6 (enc := enc) (C := Tryz.checked) false ⟨#[], #[.agg #[.int .i64 0, .int .i64 0, .int .i64 0, .int .i64 0, .int .i64 0, .int .i64 0, .int .i64 0, .int .i64 0, .int .i64 0, .int .i64 0], .slice none 0 0, .slice none 0 0], []⟩ 8 (by kernel_rfl) (by kernel_rfl) (by kernel_rfl) (by kernel_rfl)) ?_
  intro W base args ds gs before hval0 hW hcnd hwt0 _ _
  have hval : ∀ (j : Nat) t v, Tryz.f3.params[j]? = some t → args[j]? = some v → Value.okWide Tryz.prog W .any base t v := hval0
  have hW' : DataW.Whole enc Tryz.prog Tryz.f3.params.toList Rows.plainPlaysSpec.vars false W args.toList ds gs before := hW
  obtain ⟨p, q, hA0, hV, rfl, hfz, hnd⟩ := hW
  have hA : DataW.TrodAll enc Tryz.prog W 0 (fun _ => true) true [23, 24, 25] args.toList ds p := hA0
  obtain ⟨l⟩ := args
  obtain ⟨v0, l0, d0, ds0, p0, q0, e0, rfl, rfl, t0, hB0⟩ := trodAll_cons hA
  replace e0 : l = v0 :: l0 := e0
  subst e0
  obtain ⟨v1, l1, d1, ds1, p1, q1, e1, rfl, rfl, t1, hB1⟩ := trodAll_cons hB0
  replace e1 : l0 = v1 :: l1 := e1
  subst e1
  obtain ⟨v2, l2, d2, ds2, p2, q2, e2, rfl, rfl, t2, hB2⟩ := trodAll_cons hB1
  replace e2 : l1 = v2 :: l2 := e2
  subst e2
  obtain ⟨rfl, rfl, rfl⟩ := trodAll_nil hB2
  obtain ⟨rfl, rfl⟩ := trodVars_none hV
  have hwt : (DataW.weightsEach Tryz.prog ([23, 24, 25] ++ []) ([d0, d1, d2] ++ [])).all (· ≤ reachBytes) = true := hwt0
  clear hwt0
  simp only [List.append_nil, DataW.weightsEach, List.all_append, Bool.and_eq_true] at hwt
  obtain ⟨y0, y1, y2⟩ := hwt
  obtain ⟨c0, rfl, _, _, hf0⟩ := open_str ((show Tryz.prog.underlying 23 = Tryz.prog.underlying 22 by kernel_rfl).trans Tryz.underlying22) (hval 0 23 v0 rfl rfl) t0
  obtain ⟨x0, ec0, g0⟩ := openC_api_Config (t := 23) (by kernel_rfl) (by kernel_rfl) hf0
  subst ec0
  obtain ⟨s1, b1, rfl, r1, g1, m1, u1⟩ := open_arrW (e := 36) (sz := 2) S_api_Word.cells (fun z => G_api_Word W z) W_api_Word (fun _ => rfl) (by decide) (by kernel_rfl) (by kernel_rfl) (fun _ _ _ hf => openC_api_Word (t := 36) (by kernel_rfl) (by kernel_rfl) hf) (hval 1 24 v1 rfl rfl) t1
  obtain ⟨s2, b2, rfl, r2, g2, m2, u2⟩ := open_arrW (e := 45) (sz := 13) S_api_Call.cells (fun z => G_api_Call W z) W_api_Call (fun _ => rfl) (by decide) (by kernel_rfl) (by kernel_rfl) (fun _ _ _ hf => openC_api_Call (t := 45) (by kernel_rfl) (by kernel_rfl) hf) (hval 2 25 v2 rfl rfl) t2
  have z1 := u1 reachBytes y1
  unfold reachBytes at z1
  have z2 := u2 reachBytes y2
  unfold reachBytes at z2
  have walk := s_law22_PlainPlays.ok (x0, s1, s2) (fun r h' => r = true ∧ Keeps (heapH W) h') (heapH W) (t_PlainPlays r1 (by have w := z1.1; rw [show Tryz.prog.bytesOf 36 = 16 from by kernel_rfl] at w; omega) (fun w hw => goodW_of (g1 w hw).1 (g1 w hw).2) r2 (by have w := z2.1; rw [show Tryz.prog.bytesOf 45 = 136 from by kernel_rfl] at w; omega) (fun x hx => by obtain ⟨_, _, _, gc, _, _, _, _, ⟨ds, a1, _, _⟩, _, ⟨gs, a2, _, _⟩⟩ := g2 x hx; have w := z2.2 x hx; unfold W_api_Call at w; rw [show Tryz.prog.bytesOf 5 = 1 from by kernel_rfl, show Tryz.prog.bytesOf 3 = 8 from by kernel_rfl, a1.len, a2.len] at w; exact ⟨ds, gs, a1, by omega, a2, by omega, goodW_of gc.2.1 gc.2.2⟩) (K := fun r h' => r = true ∧ Keeps (heapH W) h') fun h' k => ⟨rfl, k⟩)
  refine (calls_law (walk.mono (fun v h' => fun ⟨r, e, er, k⟩ => ⟨by rw [e, er]; rfl, k⟩) fun _ _ k => k)).mono fun e W' => fun ⟨he, hb⟩ => ?_
  subst he
  exact ⟨_, rfl, post_law (tb := 4) laid (by kernel_rfl) rfl (by kernel_rfl) rfl hW' ⟨rfl, rfl, rfl⟩ hb⟩
theorem plainPlays_holds : Rows.PlainPlaysSaid :=
  OpenClaim.holds_of_wide 3 Tryz.f3 rfl rfl rfl rfl rfl rfl rfl ⟨rfl, rfl, rfl, rfl, rfl⟩ rfl rfl rfl rfl rfl (by kernel_rfl) Tryz.func3 (by kernel_rfl)
    (of_decide_eq_true (by kernel_rfl)) (by unfold Func.isWrapper; rw [if_neg (by decide +kernel)]; exact ⟨rfl, rfl⟩)
    (fun os started H enc _ => plainPlays_lifted os started H enc)
end Go.Proofs.YtbjkfllncegpcaaGreat.K
