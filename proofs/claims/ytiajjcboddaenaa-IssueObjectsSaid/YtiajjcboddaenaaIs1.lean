/- Draws and their reference; words drawn till one is not taken. -/
import Derived.Test.YtiajjcboddaenaaLc5
import Derived.Test.YtiajjcboddaenaaWd0
import Derived.Test.YtiajjcboddaenaaFdraws
import Derived.Test.YtiajjcboddaenaaFref04
import Derived.Test.YtiajjcboddaenaaFissue
import Derived.Test.YtiajjcboddaenaaFref13
namespace Go.Proofs.Ytiajjcboddaenaa.K
open Go
abbrev cW := S_api_Word.cells
def GoodW (x : S_api_Word) : Prop := ∃ n : Nat, n < 2 ^ 128 ∧ x = wordOf n
def cutW (w : Int) (x : S_api_Word) : S_api_Word := wordOf (valW x.Hi.toNat x.Lo.toNat % 2 ^ wc w)
theorem valW_of (n : Nat) : valW (wordOf n).Hi.toNat (wordOf n).Lo.toNat = n := by
  unfold valW wordOf
  rw [Int.toNat_natCast, Int.toNat_natCast]
  omega
section
variable {h : H}
theorem w_WCut {x : S_api_Word} (g : GoodW x) {w : Int} {k : S_api_Word → H → Prop} (y : k (cutW w x) h) : mPure (m_wide_Cut x w) k h := by
  obtain ⟨n, hn, rfl⟩ := g
  refine w_pure _ (fun _ _ q => p_Cut hn q) ?_
  unfold cutW at y
  rwa [valW_of] at y
theorem w_RWCut {x : S_api_Word} (g : GoodW x) {w : Int} {k : S_api_Word → H → Prop} (y : k (cutW w x) h) : mPure (m_ref01_Cut x w) k h := by
  obtain ⟨n, hn, rfl⟩ := g
  refine w_pure _ (fun _ _ q => p_RCut hn q) ?_
  unfold cutW at y
  rwa [valW_of] at y
structure DAt (h : H) (d : Nat) (ws : Sl) (cs : List S_api_Word) (tk : Nat) : Prop where
  cell : h d = some (.cells (S_draws_Draws.cells ⟨ws, tk⟩).toArray N_draws_Draws (0, 0))
  buf : Buf cW 2 N_api_Word h ws cs
  le : tk ≤ cs.length ∧ cs.length ≤ 4096
structure RAt (h : H) (r : Nat) (s : Sl) (xs : List S_api_Word) (w : Int) (tk : Nat) : Prop where
  cell : h r = some (.cells (S_ref04_Draws.cells ⟨s, w, tk⟩).toArray N_ref04_Draws (0, 0))
  buf : Buf cW 2 N_api_Word h s xs
  le : tk ≤ xs.length ∧ xs.length ≤ 4096
variable {d r : Nat} {ws s : Sl} {cs xs : List S_api_Word} {w : Int} {tk : Nat}
theorem DAt.keep {h' : H} (x : DAt h d ws cs tk) (k : Keeps h h') : DAt h' d ws cs tk := ⟨k _ _ x.cell, x.buf.keep k, x.le⟩
theorem DAt.but {h' : H} {E : Nat → Prop} (x : DAt h d ws cs tk) (k : But E h h') (f : ∀ c, E c → c ≠ d ∧ ¬ ws.foot c) : DAt h' d ws cs tk := ⟨k _ _ x.cell fun q => (f _ q).1 rfl, x.buf.but k fun a ha q => (f _ q).2 ⟨a, ha, rfl⟩, x.le⟩
theorem RAt.keep {h' : H} (x : RAt h r s xs w tk) (k : Keeps h h') : RAt h' r s xs w tk := ⟨k _ _ x.cell, x.buf.keep k, x.le⟩
theorem RAt.but {h' : H} {E : Nat → Prop} (x : RAt h r s xs w tk) (k : But E h h') (f : ∀ c, E c → c ≠ r ∧ ¬ s.foot c) : RAt h' r s xs w tk := ⟨k _ _ x.cell fun q => (f _ q).1 rfl, x.buf.but k fun a ha q => (f _ q).2 ⟨a, ha, rfl⟩, x.le⟩
theorem DAt.apart (x : DAt h d ws cs tk) : ¬ ws.foot d := fun f => (x.buf.typed f).ne (Typed.of x.cell) (by decide) rfl
theorem RAt.apart (x : RAt h r s xs w tk) : ¬ s.foot r := fun f => (x.buf.typed f).ne (Typed.of x.cell) (by decide) rfl
theorem DAt.f0 (x : DAt h d ws cs tk) : At h ((⟨d, 0, none⟩ : Addr).add 0) (cSl ws) := by
  rw [pt_add]; exact At.own (l1 := []) (l3 := [Value.int .i64 tk]) x.cell rfl
theorem DAt.f1 (x : DAt h d ws cs tk) : At h ((⟨d, 0, none⟩ : Addr).add 1) (cInt .i64 (tk : Int)) := by
  rw [pt_add]; exact At.own (l1 := [Sl.val ws]) (l3 := []) x.cell rfl
theorem RAt.f0 (x : RAt h r s xs w tk) : At h ((⟨r, 0, none⟩ : Addr).add 0) (cSl s) := by
  rw [pt_add]; exact At.own (l1 := []) (l3 := [Value.int .i64 w, Value.int .i64 tk]) x.cell rfl
theorem RAt.f1 (x : RAt h r s xs w tk) : At h ((⟨r, 0, none⟩ : Addr).add 1) (cInt .i64 w) := by
  rw [pt_add]; exact At.own (l1 := [Sl.val s]) (l3 := [Value.int .i64 tk]) x.cell rfl
theorem RAt.f2 (x : RAt h r s xs w tk) : At h ((⟨r, 0, none⟩ : Addr).add 2) (cInt .i64 (tk : Int)) := by
  rw [pt_add]; exact At.own (l1 := [Sl.val s, Value.int .i64 w]) (l3 := []) x.cell rfl
theorem t_DTaken (x : DAt h d ws cs tk) {K : Int → H → Prop} (y : K (tk : Int) h) : m_draws_Draws_Taken (some ⟨d, 0, none⟩) K h := by
  unfold m_draws_Draws_Taken
  exact w_deref (w_load x.f1 y)
theorem t_RTaken (x : RAt h r s xs w tk) {K : Int → H → Prop} (y : K (tk : Int) h) : m_ref04_Draws_Taken (some ⟨r, 0, none⟩) K h := by
  unfold m_ref04_Draws_Taken
  exact w_deref (w_load x.f2 y)
theorem t_DNew {a : Sl} (ar : Arr cW h a xs) (hx : ∀ x ∈ xs, GoodW x) {K : Option Addr × Int → H → Prop} (bad1 : (w < 1 ∨ 128 < w) → K (none, 18) h) (bad2 : 1 ≤ w → w ≤ 128 → 4096 < xs.length → K (none, 23) h)
    (y : 1 ≤ w → w ≤ 128 → xs.length ≤ 4096 → ∀ d ws h', DAt h' d ws (xs.map (cutW w)) 0 → Keeps h h' → h d = none → (∀ c, ws.foot c → h c = none) → K (some ⟨d, 0, none⟩, 0) h') : m_draws_New a w K h := by
  unfold m_draws_New
  have hl := ar.len
  refine w_if (fun c => bad1 ?_) fun c => w_if' (fun c2 => ?_) fun c2 => ?_
  · simp only [Bool.or_eq_true, decide_eq_true_eq] at c; omega
  · simp only [Bool.or_eq_false_iff, decide_eq_false_iff_not] at c
    exact bad2 (by omega) (by omega) (by omega)
  simp only [Bool.or_eq_false_iff, decide_eq_false_iff_not] at c
  refine w_box fun d h1 f1 c1 k1 => ?_
  refine w_for xs.length (fun i (z : Int) h' => z = (i : Int) ∧ Keeps h h' ∧ ∃ ws, h' d = some (.cells (S_draws_Draws.cells ⟨ws, (0 : Nat)⟩).toArray N_draws_Draws (0, 0)) ∧ Buf cW 2 N_api_Word h' ws ((xs.take i).map (cutW w)) ∧ ∀ c, ws.foot c → h c = none) ?_ ⟨rfl, k1, Sl.nil, c1, Buf.nil, fun c ⟨_, q, _⟩ => by cases q⟩
  rintro rec i z h' hi ⟨rfl, kp, ws, cd, bu, fw⟩ more
  refine w_if' (fun c3 => ?_) fun c3 => ?_
  · have c3 : (i : Int) < (a.len : Int) := c3
    have hil : i < xs.length := by omega
    have hz := List.getElem?_eq_getElem hil
    refine w_get word_len (ar.keep kp) hz rfl (v' := xs[i]) rfl (w_WCut (hx _ (List.getElem_mem hil)) (w_load (v := ws) (cells := cSl) ?_ ?_))
    · rw [pt_add]; exact At.own (l1 := []) (l3 := [Value.int .i64 (0 : Nat)]) cd rfl
    refine w_app (by_ := 16) word_len rfl bu [cutW w xs[i]] rfl rfl (.inl (by simp only [List.length_map, List.length_take, List.length_singleton]; omega)) fun s8 h2 bu2 b2 f2 d2 => ?_
    have ap : ¬ ws.foot d := fun f => (bu.typed f).ne (Typed.of cd) (by decide) rfl
    have cd2 := b2 _ _ cd ap
    refine w_store (b := d) (i := 0) (l1 := []) (l2 := [Sl.val ws]) (l3 := [Value.int .i64 (0 : Nat)]) (t := N_draws_Draws) (pt_add d 0) cd2 rfl rfl ?_
    refine more _ _ hil ⟨ia1 i (by omega), (kp.but b2 fw).but (But.upd (F := (· = d)) rfl) fun c q => q ▸ f1, s8, upd_same _ _ _, ?_, fun c q => (f2 c q).elim (fw c) fun z => kp.fresh z⟩
    have := bu2.but (But.upd (F := (· = d)) (o := (.cells ([] ++ [Sl.val s8] ++ [Value.int .i64 (0 : Nat)]).toArray N_draws_Draws (0, 0))) rfl) fun ad ha q => (bu2.typed ⟨ad, ha, rfl⟩).ne (Typed.of cd2) (by decide) q
    rw [List.take_add_one, hz, List.map_append]
    exact this
  · have c3 : ¬ (i : Int) < (a.len : Int) := c3
    obtain rfl : i = xs.length := by omega
    rw [List.take_length] at bu
    exact y (by omega) (by omega) (by omega) d ws h' ⟨cd, bu, by rw [List.length_map]; omega⟩ kp f1 fw
theorem t_RDNew {a : Sl} (ar : Arr cW h a xs) {K : Option Addr × Int → H → Prop} (bad1 : (w < 1 ∨ 128 < w) → K (none, 18) h) (bad2 : 1 ≤ w → w ≤ 128 → 4096 < xs.length → K (none, 23) h)
    (y : 1 ≤ w → w ≤ 128 → xs.length ≤ 4096 → ∀ r s h', RAt h' r s xs w 0 → Keeps h h' → h r = none → (∀ c, s.foot c → h c = none) → K (some ⟨r, 0, none⟩, 0) h') : m_ref04_New a w K h := by
  unfold m_ref04_New
  have hl := ar.len
  refine w_if (fun c => bad1 ?_) fun c => w_if' (fun c2 => ?_) fun c2 => ?_
  · simp only [Bool.or_eq_true, decide_eq_true_eq] at c; omega
  · simp only [Bool.or_eq_false_iff, decide_eq_false_iff_not] at c
    exact bad2 (by omega) (by omega) (by omega)
  simp only [Bool.or_eq_false_iff, decide_eq_false_iff_not] at c
  refine w_append (by_ := 16) word_len word_plain rfl (Buf.nil (e := N_api_Word)) ar (.inr ⟨rfl, by omega⟩) fun s1 h1 bu b1 f1 d1 => w_box fun r h2 f2 c2 k2 => ?_
  have k1 : Keeps h h1 := b1.keeps fun b ⟨_, q, _⟩ => by cases q
  rw [List.nil_append] at bu
  exact y (by omega) (by omega) (by omega) r s1 h2 ⟨c2, bu.keep k2, by omega⟩ (k1.trans k2) (k1.fresh f2) fun c q => (f1 c q).elim (fun ⟨_, q, _⟩ => by cases q) id
theorem t_DDraw (x : DAt h d ws cs tk) {K : S_api_Word × Int → H → Prop} (y0 : cs[tk]? = none → K (⟨0, 0⟩, 11) h) (y1 : ∀ c, cs[tk]? = some c → ∀ h', DAt h' d ws cs (tk + 1) → But (· = d) h h' → (∀ z, h' z = none → h z = none) → K (c, 0) h') : m_draws_Draws_Draw (some ⟨d, 0, none⟩) K h := by
  unfold m_draws_Draws_Draw
  have hl := x.buf.len
  have hc := x.buf.cap
  obtain ⟨le1, le2⟩ := x.le
  refine w_deref (w_deref (w_load x.f0 (w_load x.f1 ?_)))
  have mid : mCut ws (tk : Int) (ws.len : Int) 2 (fun s' h' => Arr cW h s' (cs.drop tk) ∧ s'.len = cs.length - tk) h := by
    refine w_mid word_len x.buf.arr (lo := tk) (hi := cs.length) le1 (Nat.le_refl _) rfl (by rw [hl]) fun s3 a3 _ _ _ => ?_
    have e3 : (cs.drop tk).take (cs.length - tk) = cs.drop tk := by rw [List.take_of_length_le]; rw [List.length_drop]; omega
    rw [e3] at a3
    exact ⟨a3, by have := a3.len; rw [List.length_drop] at this; exact this⟩
  obtain ⟨r5, cond, ar5, l5⟩ := mid
  refine w_pure r5 (fun h' k' q => ⟨r5, cond, q⟩) (w_if' (fun c => y0 ?_) fun c => ?_)
  · have c : (r5.len : Int) = 0 := c
    exact List.getElem?_eq_none (by omega)
  have c : ¬ (r5.len : Int) = 0 := c
  have hlt : tk < cs.length := by omega
  have hz := List.getElem?_eq_getElem hlt
  refine w_deref (w_load x.f1 (w_deref ?_))
  rw [ia1 tk (by omega)]
  refine w_store (b := d) (i := 1) (l1 := [Sl.val ws]) (l2 := [Value.int .i64 tk]) (l3 := []) (t := N_draws_Draws) (pt_add d 1) x.cell rfl rfl ?_
  generalize eh : upd h d _ = h2
  have c2 : h2 d = some (.cells (S_draws_Draws.cells ⟨ws, ((tk + 1 : Nat) : Int)⟩).toArray N_draws_Draws (0, 0)) := by rw [← eh]; exact upd_same _ _ _
  have b2 : But (· = d) h h2 := eh ▸ .upd rfl
  have d2 : ∀ z, h2 z = none → h z = none := fun z q => by rw [← eh] at q; exact (upd_none.1 q).2
  have bu2 := x.buf.but b2 fun ad ha q => x.apart ⟨ad, ha, q⟩
  have hz5 : (cs.drop tk)[0]? = some cs[tk] := by rw [List.getElem?_drop, Nat.add_zero]; exact hz
  have ar5' : Arr cW h2 r5 (cs.drop tk) := ar5.but b2 fun _ ad ha q => by
    obtain ⟨ad', ha', at'⟩ := ar5.at_ (fun e => by rw [e] at hz5; cases hz5)
    rw [ha] at ha'; cases ha'
    have q : ad.block = d := q
    obtain ⟨_, cc, ee, fz, q1, q2⟩ := at_iff.1 at'
    rw [q, x.cell] at q1
    cases q1
    have := q2 0 (Value.int .u64 (cs[tk]).Hi) (by
      have e1 : cs.drop tk = cs[tk] :: cs.drop (tk + 1) := List.drop_eq_getElem_cons hlt
      rw [e1, flat_cons]; rfl)
    rw [Nat.add_zero] at this
    rcases Nat.lt_or_ge ad.off 2 with z | z
    · rcases (by omega : ad.off = 0 ∨ ad.off = 1) with z | z
      · rw [z] at this; cases this
      · rw [z] at this; cases this
    · have : ad.off < 2 := by
        have := (Array.getElem?_eq_some_iff.1 this).1
        simpa [S_draws_Draws.cells] using this
      omega
  refine w_get word_len ar5' hz5 rfl (v' := cs[tk]) rfl ?_
  exact y1 _ hz h2 ⟨c2, bu2, by omega⟩ b2 d2
theorem t_RDDraw (x : RAt h r s xs w tk) (hx : ∀ x ∈ xs, GoodW x) {K : S_api_Word × Int → H → Prop} (y0 : (xs.map (cutW w))[tk]? = none → K (⟨0, 0⟩, 11) h) (y1 : ∀ c, (xs.map (cutW w))[tk]? = some c → ∀ h', RAt h' r s xs w (tk + 1) → But (· = r) h h' → (∀ z, h' z = none → h z = none) → K (c, 0) h') : m_ref04_Draws_Draw (some ⟨r, 0, none⟩) K h := by
  unfold m_ref04_Draws_Draw
  have hl := x.buf.len
  obtain ⟨le1, le2⟩ := x.le
  refine w_deref (w_deref (w_load x.f2 (w_load x.f0 (w_if' (fun c => y0 ?_) fun c => ?_))))
  · have c : (tk : Int) = (s.len : Int) := c
    exact List.getElem?_eq_none (by rw [List.length_map]; omega)
  have c : ¬ (tk : Int) = (s.len : Int) := c
  have hlt : tk < xs.length := by omega
  have hz := List.getElem?_eq_getElem hlt
  refine w_deref (w_load x.f2 (w_deref ?_))
  rw [ia1 tk (by omega)]
  refine w_store (b := r) (i := 2) (l1 := [Sl.val s, Value.int .i64 w]) (l2 := [Value.int .i64 tk]) (l3 := []) (t := N_ref04_Draws) (pt_add r 2) x.cell rfl rfl ?_
  generalize eh : upd h r _ = h2
  have c2 : h2 r = some (.cells (S_ref04_Draws.cells ⟨s, w, ((tk + 1 : Nat) : Int)⟩).toArray N_ref04_Draws (0, 0)) := by rw [← eh]; exact upd_same _ _ _
  have b2 : But (· = r) h h2 := eh ▸ .upd rfl
  have d2 : ∀ z, h2 z = none → h z = none := fun z q => by rw [← eh] at q; exact (upd_none.1 q).2
  have bu2 := x.buf.but b2 fun ad ha q => x.apart ⟨ad, ha, q⟩
  have x2 : RAt h2 r s xs w (tk + 1) := ⟨c2, bu2, by omega⟩
  refine w_deref (w_deref (w_deref (w_load x2.f0 (w_load x2.f2 ?_))))
  rw [is1 (tk + 1) (by omega) (by omega), Nat.add_sub_cancel]
  refine w_get word_len bu2.arr hz rfl (v' := xs[tk]) rfl (w_load x2.f1 (w_RWCut (hx _ (List.getElem_mem hlt)) ?_))
  exact y1 _ (by rw [List.getElem?_map, hz]; rfl) h2 x2 b2 d2
end
/-- What is issued: the first word that is not taken, of nine at most. -/
def issueO (f : S_api_Word → Bool) (cs : List S_api_Word) : Nat → Nat → (S_api_Word × Int) × Nat
  | tk, 0 => ((⟨0, 0⟩, 12), tk)
  | tk, n + 1 => match cs[tk]? with
    | none => ((⟨0, 0⟩, 11), tk)
    | some c => if f c = true then issueO f cs (tk + 1) n else ((c, 0), tk + 1)
theorem issueO_none {f : S_api_Word → Bool} {cs : List S_api_Word} {tk n : Nat} (h : cs[tk]? = none) : issueO f cs tk (n + 1) = ((⟨0, 0⟩, 11), tk) := by
  unfold issueO; rw [h]
theorem issueO_some {f : S_api_Word → Bool} {cs : List S_api_Word} {tk n : Nat} {c : S_api_Word} (h : cs[tk]? = some c) : issueO f cs tk (n + 1) = if f c = true then issueO f cs (tk + 1) n else ((c, 0), tk + 1) := by
  rw [issueO, h]
theorem issueO_congr {f g : S_api_Word → Bool} (e : ∀ c, f c = g c) (cs : List S_api_Word) (tk n : Nat) : issueO f cs tk n = issueO g cs tk n := by
  have : f = g := funext e
  rw [this]
section
variable {h : H} {d r : Nat} {ws s : Sl} {cs xs : List S_api_Word} {w : Int} {tk : Nat}
theorem t_idraw {fv : PV} {f : S_api_Word → Bool} {P : H → Prop} (hP : ∀ h1 h2, P h1 → But (· = d) h1 h2 → (∀ z, h2 z = none → h1 z = none) → P h2) (hcall : ∀ h' c k, P h' → k (f c) h' → mCallV (T := Bool) Try.prog (fun r => (Value.bool r)) fv.1 [(S_api_Word.val c)] k h') (p0 : P h) (x : DAt h d ws cs tk)
    {K : S_api_Word × Int → H → Prop} (y : ∀ h', DAt h' d ws cs (issueO f cs tk 9).2 → P h' → But (· = d) h h' → (∀ z, h' z = none → h z = none) → K (issueO f cs tk 9).1 h') : m_issue_draw (some ⟨d, 0, none⟩) fv K h := by
  unfold m_issue_draw
  refine w_for 9 (fun i (z : Int) h' => z = (i : Int) ∧ ∃ tk', issueO f cs tk 9 = issueO f cs tk' (9 - i) ∧ DAt h' d ws cs tk' ∧ P h' ∧ But (· = d) h h' ∧ ∀ z, h' z = none → h z = none) ?_ ⟨rfl, tk, rfl, x, p0, .refl _ _, fun _ q => q⟩
  rintro rec i z h' hi ⟨rfl, tk', e, x', p', b', d'⟩ more
  refine w_if' (fun c => ?_) fun c => ?_
  · have c : (i : Int) < 9 := c
    obtain ⟨m, hm⟩ : ∃ m, 9 - i = m + 1 := ⟨8 - i, by omega⟩
    rw [hm] at e
    refine t_DDraw x' (fun hno => ?_) fun cc hc h2 x2 b2 d2 => ?_
    · rw [issueO_none hno] at e
      rw [e] at y
      exact w_ifT rfl (y _ x' p' b' d')
    · rw [issueO_some hc] at e
      have p2 := hP _ _ p' b2 d2
      refine w_ifF rfl (hcall _ _ _ p2 ?_)
      cases ef : f cc with
      | true =>
        rw [ef, if_pos rfl] at e
        exact w_ifF rfl (more _ _ (by omega) ⟨ia1 i (by omega), tk' + 1, by rw [e]; congr 1; omega, x2, p2, b'.trans b2 fun _ q => .inl q, fun z q => d' z (d2 z q)⟩)
      | false =>
        rw [ef, if_neg (by decide)] at e
        rw [e] at y
        exact w_ifT rfl (y _ x2 p2 (b'.trans b2 fun _ q => .inl q) fun z q => d' z (d2 z q))
  · have c : ¬ (i : Int) < 9 := c
    obtain rfl : i = 9 := by omega
    have e : issueO f cs tk 9 = ((⟨0, 0⟩, 12), tk') := e
    rw [e] at y
    exact y _ x' p' b' d'
theorem t_R13Draw (x : RAt h r s xs w tk) (hx : ∀ x ∈ xs, GoodW x) {a : Sl} {W : List S_api_Word} (ar : Arr cW h a W) (hW : W.length ≤ 2 ^ 40) (ha : ¬ a.foot r) {K : S_api_Word × Int → H → Prop}
    (y : ∀ h', RAt h' r s xs w (issueO (fun c => decide (c ∈ W)) (xs.map (cutW w)) tk 9).2 → But (· = r) h h' → (∀ z, h' z = none → h z = none) → K (issueO (fun c => decide (c ∈ W)) (xs.map (cutW w)) tk 9).1 h') : m_ref13_Draw (some ⟨r, 0, none⟩) a K h := by
  unfold m_ref13_Draw
  have hl := ar.len
  refine w_for 9 (fun i (z : Int) h' => z = (i : Int) ∧ ∃ tk', issueO (fun c => decide (c ∈ W)) (xs.map (cutW w)) tk 9 = issueO (fun c => decide (c ∈ W)) (xs.map (cutW w)) tk' (9 - i) ∧ RAt h' r s xs w tk' ∧ But (· = r) h h' ∧ ∀ z, h' z = none → h z = none) ?_ ⟨rfl, tk, rfl, x, .refl _ _, fun _ q => q⟩
  rintro rec i z h' hi ⟨rfl, tk', e, x', b', d'⟩ more
  refine w_if' (fun c => ?_) fun c => ?_
  · have c : (i : Int) < 9 := c
    obtain ⟨m, hm⟩ : ∃ m, 9 - i = m + 1 := ⟨8 - i, by omega⟩
    rw [hm] at e
    refine t_RDDraw x' hx (fun hno => ?_) fun cc hc h2 x2 b2 d2 => ?_
    · rw [issueO_none hno] at e
      rw [e] at y
      exact w_ifT rfl (y _ x' b' d')
    · rw [issueO_some hc] at e
      have b2' : But (· = r) h h2 := b'.trans b2 fun _ q => .inl q
      have d2' : ∀ z, h2 z = none → h z = none := fun z q => d' z (d2 z q)
      have ar2 := ar.but b2' fun _ ad had q => ha ⟨ad, had, q⟩
      refine w_ifF rfl ?_
      refine w_for W.length (fun j (z : Bool × Int) hh => h2 = hh ∧ z = (decide (cc ∈ W.take j), (j : Int))) ?_ ⟨rfl, by rw [List.take_zero, decide_eq_false (by simp)]; rfl⟩
      rintro rec2 j z hh hj ⟨rfl, rfl⟩ more2
      refine w_if' (fun cj => ?_) fun cj => ?_
      · have cj : (j : Int) < (a.len : Int) := cj
        have hjl : j < W.length := by omega
        have hz := List.getElem?_eq_getElem hjl
        have tk1 : W.take (j + 1) = W.take j ++ [W[j]] := by rw [List.take_add_one, hz]; rfl
        refine w_if' (fun q => ?_) fun q => ?_
        · refine more2 _ _ hjl ⟨rfl, ?_⟩
          show (true, iAdd .i64 (j : Int) 1) = _
          rw [ia1 j (by omega), tk1, decide_eq_true (List.mem_append_left _ q)]
        · refine w_get word_len ar2 hz rfl (v' := W[j]) rfl (more2 _ _ hjl ⟨rfl, ?_⟩)
          show (eqWd W[j] cc, iAdd .i64 (j : Int) 1) = _
          rw [ia1 j (by omega), tk1]
          congr 1
          rw [Bool.eq_iff_iff, eqWd_iff, decide_eq_true_eq, List.mem_append, List.mem_singleton]
          exact ⟨fun e => .inr e.symm, fun e => e.elim (fun z => absurd z q) Eq.symm⟩
      · have cj : ¬ (j : Int) < (a.len : Int) := cj
        obtain rfl : j = W.length := by omega
        rw [List.take_length]
        by_cases q : cc ∈ W
        · rw [if_pos (decide_eq_true q)] at e
          rw [decide_eq_true q]
          exact w_ifF rfl (more _ _ (by omega) ⟨ia1 i (by omega), tk' + 1, by rw [e]; congr 1; omega, x2, b2', d2'⟩)
        · rw [if_neg (by rw [decide_eq_false q]; decide)] at e
          rw [decide_eq_false q]
          rw [e] at y
          exact w_ifT rfl (y _ x2 b2' d2')
  · have c : ¬ (i : Int) < 9 := c
    obtain rfl : i = 9 := by omega
    have e : issueO (fun c => decide (c ∈ W)) (xs.map (cutW w)) tk 9 = ((⟨0, 0⟩, 12), tk') := e
    rw [e] at y
    exact y _ x' b' d'
end
end Go.Proofs.Ytiajjcboddaenaa.K
