/- IssueObjects: of the tokens of any catalogue. -/
import Derived.Test.YtiajjcboddaenaaIs1
import Derived.Test.YtiajjcboddaenaaFlaw13
namespace Go.Proofs.Ytiajjcboddaenaa.K
open Go
section
variable {h : H}
theorem w_indexW {s : Sl} {W : List S_api_Word} (x : Arr cW h s W) (hn : W.length ≤ 2 ^ 40) {c : S_api_Word} {K : Bool → H → Prop} (y : K (decide (c ∈ W)) h) : m_slices_Contains_api_Word_api_Word s c K h := by
  unfold m_slices_Contains_api_Word_api_Word m_slices_Index_api_Word_api_Word
  have hl := x.len
  refine w_for W.length (fun i (z : Int) h' => z = (i : Int) ∧ h = h' ∧ c ∉ W.take i) ?_ ⟨rfl, rfl, by simp⟩
  rintro rec i z h' hi ⟨rfl, rfl, hno⟩ more
  refine w_if' (fun q => ?_) fun q => ?_
  · have q : (i : Int) < (s.len : Int) := q
    have hil : i < W.length := by omega
    have hz := List.getElem?_eq_getElem hil
    refine w_get word_len x hz rfl (v' := W[i]) rfl ?_
    show mIf (eqWd c W[i]) _ _ h
    refine w_if (fun e => ?_) fun e => ?_
    · have e := (eqWd_iff _ _).1 e
      rw [decide_eq_true (show c ∈ W by rw [e]; exact List.getElem_mem hil)] at y
      show K (decide (0 ≤ (i : Int))) h
      rw [decide_eq_true (by omega)]; exact y
    · refine more _ _ hil ⟨ia1 i (by omega), rfl, ?_⟩
      rw [List.take_add_one, hz, List.mem_append]
      rintro (z | z)
      · exact hno z
      · have : c = W[i] := by simpa using z
        rw [(eqWd_iff _ _).2 this] at e; cases e
  · have q : ¬ (i : Int) < (s.len : Int) := q
    obtain rfl : i = W.length := by omega
    rw [List.take_length] at hno
    rw [decide_eq_false hno] at y
    exact y
variable {d r : Nat} {ws s : Sl} {cs xs : List S_api_Word} {w : Int} {tk : Nat}
theorem t_issueDraw (x : DAt h d ws cs tk) {a : Sl} {W : List S_api_Word} (ar : Arr cW h a W) (hW : W.length ≤ 2 ^ 40) (ha : ¬ a.foot d) {K : S_api_Word × Int → H → Prop}
    (y : ∀ h', DAt h' d ws cs (issueO (fun c => decide (c ∈ W)) cs tk 9).2 → But (· = d) h h' → (∀ z, h' z = none → h z = none) → K (issueO (fun c => decide (c ∈ W)) cs tk 9).1 h') : m_issue_Draw (some ⟨d, 0, none⟩) a K h := by
  unfold m_issue_Draw
  refine w_box fun b h1 f1 c1 k1 => ?_
  have hdb : b ≠ d := fun e => by rw [e, x.cell] at f1; cases f1
  refine t_idraw (f := fun c => decide (c ∈ W)) (P := fun h' => Arr cW h' a W ∧ h' b = some (.cells [Sl.val a].toArray 24 (0, 0))) (fun h1 h2 ⟨p1, p2⟩ b2 _ => ⟨p1.but b2 fun _ ad had q => ha ⟨ad, had, q⟩, b2 _ _ p2 hdb⟩) (fun h' c k ⟨p1, p2⟩ hk => ?_) ⟨ar.keep k1, c1⟩ (x.keep k1) fun h' x' _ b' d' => y h' x' ((But.of k1).trans b' fun _ q => .inl q) fun z q => k1.fresh (d' z q)
  have hm : m_issue_Draw_1 c (⟨b, 0, none⟩ : Addr) k h' := by
    unfold m_issue_Draw_1
    exact w_load (v := a) (cells := cSl) (at_box p2) (w_indexW p1 hW hk)
  exact callV_of s_issue_Draw_1 (first := #[]) (cap := #[(Value.pointer (some ⟨b, 0, none⟩))]) (args := [S_api_Word.val c]) (c, (⟨b, 0, none⟩ : Addr)) rfl hm
theorem t_issueOf (x : DAt h d ws cs tk) {p : Nat} {knob : Int} {G : Nat → Prop} {es : List En} (ct : Cat h p knob G es) (hd : ¬ G d) {o : Int} {K : S_api_Word × Int → H → Prop}
    (y : ∀ h', DAt h' d ws cs (issueO (fun c => (findE es ⟨o, c⟩).isSome) cs tk 9).2 → But (· = d) h h' → (∀ z, h' z = none → h z = none) → K (issueO (fun c => (findE es ⟨o, c⟩).isSome) cs tk 9).1 h') : m_issue_Of (some ⟨d, 0, none⟩) (some ⟨p, 0, none⟩) o K h := by
  unfold m_issue_Of
  refine w_box fun b1 h1 f1 c1 k1 => w_box fun b2 h2 f2 c2 k2 => ?_
  have k12 := k1.trans k2
  have hdb1 : b1 ≠ d := fun e => by rw [e, x.cell] at f1; cases f1
  have hdb2 : b2 ≠ d := fun e => by have := k1 _ _ x.cell; rw [← e, f2] at this; cases this
  refine t_idraw (f := fun c => (findE es ⟨o, c⟩).isSome) (P := fun h' => Cat h' p knob G es ∧ h' b1 = some (.cells [Value.pointer (some ⟨p, 0, none⟩)].toArray 64 (0, 0)) ∧ h' b2 = some (.cells [Value.int .i64 o].toArray 3 (0, 0))) (fun h1 h2 ⟨p1, p2, p3⟩ bb _ => ⟨p1.but bb fun c q g => by (have q : c = d := q); exact hd (q ▸ g), bb _ _ p2 hdb1, bb _ _ p3 hdb2⟩) (fun h' c k ⟨p1, p2, p3⟩ hk => ?_) ⟨ct.keep k12, k2 _ _ c1, c2⟩ (x.keep k12) fun h' x' _ b' d' => y h' x' ((But.of k12).trans b' fun _ q => .inl q) fun z q => k12.fresh (d' z q)
  have hm : m_issue_Of_1 c (⟨b1, 0, none⟩ : Addr) (⟨b2, 0, none⟩ : Addr) k h' := by
    unfold m_issue_Of_1
    exact w_load (v := some ⟨p, 0, none⟩) (cells := cPtr) (at_box p2) (w_load (v := o) (cells := cInt .i64) (at_box p3) (t_CFind p1 hk))
  exact callV_of s_issue_Of_1 (first := #[]) (cap := #[(Value.pointer (some ⟨b1, 0, none⟩)), (Value.pointer (some ⟨b2, 0, none⟩))]) (args := [S_api_Word.val c]) (c, (⟨b1, 0, none⟩ : Addr), (⟨b2, 0, none⟩ : Addr)) rfl hm
theorem t_ROfU {q ev : Nat} {G : Nat → Prop} {es : List En} (x : Ref h q ev G es) {o : Int} {K : Sl → H → Prop} (y : ∀ s' h', Buf cTok 5 N_api_Token h' s' (ofO es o) → Keeps h h' → (∀ c, s'.foot c → h c = none) → K s' h') : m_ref11_Catalogue_Of (some ⟨q, 0, none⟩) o K h :=
  t_ROf x (fun hno h' k => y _ h' (by rw [ofO_none hno]; exact Buf.nil) k fun c ⟨_, q, _⟩ => by cases q) fun n t ks l hn ho hp bl s' h' bu k f => y s' h' (by rw [ofO_some x.wf hn ho hp bl]; exact bu) k f
noncomputable def passes (es : List En) (o : Int) : List S_api_Word := (ofO es o).map fun t => t.Cap.Pass
theorem t_ref13Of (x : RAt h r s xs w tk) (hx : ∀ x ∈ xs, GoodW x) {q ev : Nat} {G : Nat → Prop} {es : List En} (rf : Ref h q ev G es) {o : Int} {K : S_api_Word × Int → H → Prop}
    (y : ∀ h', RAt h' r s xs w (issueO (fun c => decide (c ∈ passes es o)) (xs.map (cutW w)) tk 9).2 → But (· = r) h h' → (∀ z, h' z = none → h z = none) → K (issueO (fun c => decide (c ∈ passes es o)) (xs.map (cutW w)) tk 9).1 h') : m_ref13_Of (some ⟨r, 0, none⟩) (some ⟨q, 0, none⟩) o K h := by
  unfold m_ref13_Of m_ref13_Words
  have wl := rf.wf.len
  have ol := ofO_len rf.wf o
  refine t_ROfU rf fun s1 h1 bu1 k1 f1 => ?_
  have l1 := bu1.len
  refine w_for (ofO es o).length (fun i (z : Sl × Int) h' => z.2 = (i : Int) ∧ Keeps h1 h' ∧ Buf cW 2 N_api_Word h' z.1 (((ofO es o).take i).map fun t => t.Cap.Pass) ∧ ∀ c, z.1.foot c → h1 c = none) ?_ ⟨rfl, .refl _, Buf.nil, fun c ⟨_, q, _⟩ => by cases q⟩
  rintro rec i ⟨ou, iz⟩ h' hi ⟨ei, kp, bu, fo⟩ more
  have ei : iz = (i : Int) := ei
  subst ei
  have bu : Buf cW 2 N_api_Word h' ou (((ofO es o).take i).map fun t => t.Cap.Pass) := bu
  refine w_if' (fun c => ?_) fun c => ?_
  · have c : (i : Int) < (s1.len : Int) := c
    have hil : i < (ofO es o).length := by omega
    have hz := List.getElem?_eq_getElem hil
    generalize (ofO es o)[i] = t at hz
    refine w_idx tok_len (bu1.keep kp).arr hz rfl fun ad _ had => w_load (v := t.Cap.Pass) (cells := cW) ?_ ?_
    · rw [add_zero]
      exact At.sub (l1 := (cTok t).take 1) (l3 := (cTok t).drop 3) had rfl
    refine w_app (by_ := 16) word_len rfl bu [t.Cap.Pass] rfl rfl (.inl (by simp only [List.length_map, List.length_take, List.length_singleton]; omega)) fun s2 h2 bu2 b2 f2 d2 => ?_
    refine more _ _ hil ⟨ia1 i (by omega), kp.but b2 fo, ?_, fun c q => (f2 c q).elim (fo c) fun z => kp.fresh z⟩
    rw [List.take_add_one, hz, List.map_append]
    exact bu2
  · have c : ¬ (i : Int) < (s1.len : Int) := c
    obtain rfl : i = (ofO es o).length := by omega
    rw [List.take_length] at bu
    have kk := k1.trans kp
    have hr : ¬ ou.foot r := fun f => by
      have := fo r f
      have := k1.fresh this
      rw [x.cell] at this; cases this
    refine t_R13Draw (x.keep kk) hx bu.arr (by rw [List.length_map]; omega) hr fun h2 x2 b2 d2 => ?_
    exact y h2 x2 ((But.of kk).trans b2 fun _ q => .inl q) fun z q => kk.fresh (d2 z q)
theorem find_passes {es : List En} (wf : CWF es) (o : Int) (c : S_api_Word) : (findE es ⟨o, c⟩).isSome = decide (c ∈ passes es o) := by
  rw [Bool.eq_iff_iff, decide_eq_true_eq]
  unfold passes
  rw [List.mem_map]
  constructor
  · intro e
    cases hf : findE es ⟨o, c⟩ with
    | none => rw [hf] at e; cases e
    | some n =>
      obtain ⟨t, ks, ht, ec⟩ := findE_has hf
      obtain ⟨r, v, vs, hr, hp, ho, dd⟩ := wf.rootOf ht
      obtain ⟨l, bl⟩ := wf.ex hr
      have hro : v.Cap.Obj = o := by rw [ho, ec]
      rw [ofO_some wf hr hro hp bl]
      refine ⟨tokIn es l (n : Int), List.mem_map.2 ⟨(n : Int), bl.pre.mem.2 ⟨_, by simp, dd⟩, rfl⟩, ?_⟩
      rw [tokIn_has ht, ec]
  · rintro ⟨t, ht, rfl⟩
    by_cases hex : ∃ i u us, Has es i u us ∧ u.Cap.Obj = o
    · obtain ⟨i, u, us, hi, ho⟩ := hex
      obtain ⟨r, v, vs, hr, hp, ho', _⟩ := wf.rootOf hi
      obtain ⟨l, bl⟩ := wf.ex hr
      rw [ofO_some wf hr (ho'.trans ho) hp bl] at ht
      obtain ⟨z, hz, rfl⟩ := List.mem_map.1 ht
      obtain ⟨q, x, xs, rfl, hx⟩ := hasN_nds.1 (bl.live _ hz)
      rw [tokIn_has hx]
      have hxo := bl.obj wf hr hz hx
      have : (⟨o, x.Cap.Pass⟩ : S_api_Cap) = x.Cap := by
        rw [← ho, ← ho', ← hxo]
      show (findE es ⟨o, x.Cap.Pass⟩).isSome = true
      rw [this, wf.find hx]; rfl
    · rw [ofO_none fun i u us hi ho => hex ⟨i, u, us, hi, ho⟩] at ht
      cases ht
def kCs : List S_api_Word := [⟨0, 1⟩, ⟨0, 1⟩, ⟨0, 2⟩]
theorem kCs_cut : kCs.map (cutW 8) = kCs := by kernel_rfl
theorem kCs_good : ∀ x ∈ kCs, GoodW x := by
  intro x hx
  simp only [kCs, List.mem_cons, List.not_mem_nil, or_false] at hx
  rcases hx with rfl | rfl | rfl
  · exact ⟨1, by decide, by kernel_rfl⟩
  · exact ⟨1, by decide, by kernel_rfl⟩
  · exact ⟨2, by decide, by kernel_rfl⟩
theorem kI1 : issueO (fun c => decide (c ∈ ([] : List S_api_Word))) kCs 0 9 = ((⟨0, 1⟩, 0), 1) := by kernel_rfl
theorem kI2 : issueO (fun c => decide (c ∈ [(⟨0, 1⟩ : S_api_Word)])) kCs 1 9 = ((⟨0, 2⟩, 0), 3) := by kernel_rfl
theorem kI3 : issueO (fun c => decide (c ∈ ([] : List S_api_Word))) kCs 3 9 = ((⟨0, 0⟩, 11), 3) := by kernel_rfl
theorem t_known13 {K : Bool → H → Prop} (y : ∀ h', Keeps h h' → K true h') : m_law13_known K h := by
  unfold m_law13_known
  refine w_box fun b h1 f1 c1 k1 => ?_
  have ar : Arr cW h1 ⟨some ⟨b, 0, none⟩, 3, 3⟩ kCs := ⟨rfl, Nat.le_refl _, fun _ => ⟨_, rfl, at_box c1⟩⟩
  refine t_DNew ar kCs_good (fun q => by omega) (fun _ _ q => by simp [kCs] at q) fun _ _ _ d ws h2 x2 k2 f2 fw => w_ifF rfl ?_
  rw [kCs_cut] at x2
  refine t_issueDraw x2 Arr.nil (by simp) (fun ⟨_, q, _⟩ => by cases q) fun h3 x3 b3 d3 => ?_
  rw [kI1] at x3 ⊢
  refine w_box fun b4 h4 f4 c4 k4 => ?_
  have ar4 : Arr cW h4 ⟨some ⟨b4, 0, none⟩, 1, 1⟩ [⟨0, 1⟩] := ⟨rfl, Nat.le_refl _, fun _ => ⟨_, rfl, at_box c4⟩⟩
  refine t_issueDraw (x3.keep k4) ar4 (by simp) (fun ⟨ad, q, e⟩ => ?_) fun h5 x5 b5 d5 => ?_
  · cases q
    have e : b4 = d := e
    rw [e, x3.cell] at f4; cases f4
  rw [kI2] at x5 ⊢
  refine t_issueDraw x5 Arr.nil (by simp) (fun ⟨_, q, _⟩ => by cases q) fun h6 x6 b6 d6 => ?_
  rw [kI3] at x6 ⊢
  refine w_ifT rfl (t_DTaken x6 ?_)
  have k12 := k1.trans k2
  have fd : h d = none := k1.fresh f2
  have kE : Keeps h h6 := by
    have q3 : Keeps h h3 := k12.but b3 fun c q => q ▸ fd
    have q5 : Keeps h h5 := (q3.trans k4).but b5 fun c q => q ▸ fd
    exact q5.but b6 fun c q => q ▸ fd
  exact y _ kE
theorem put_len : ∀ x, (S_law13_Put.cells x).length = 5 := fun _ => rfl
/-- The draws and their reference, made or refused alike. -/
theorem t_draws2 {a0 : Sl} {a1 : Int} {xs : List S_api_Word} (r0 : Arr cW h a0 xs) (hx : ∀ x ∈ xs, GoodW x) {k : Option Addr × Int → Option Addr × Int → H → Prop}
    (y : ∀ (R D : Option Addr) (e : Int) (h1 : H), Keeps h h1 → D.isNone = (!decide (e = 0)) → (e = 0 → ∃ r s d ws, R = some ⟨r, 0, none⟩ ∧ D = some ⟨d, 0, none⟩ ∧ RAt h1 r s xs a1 0 ∧ DAt h1 d ws (xs.map (cutW a1)) 0 ∧ h r = none ∧ h d = none ∧ (∀ c, s.foot c → c ≠ d) ∧ (∀ c, ws.foot c → c ≠ r) ∧ r ≠ d) → k (R, e) (D, e) h1) :
    m_ref04_New a0 a1 (fun r1 => m_draws_New a0 a1 (fun r2 => k r1 r2)) h := by
  refine t_RDNew r0 (fun q => t_DNew r0 hx (fun _ => ?_) (fun _ _ _ => by omega) fun _ _ _ _ _ _ _ _ _ _ => by omega) (fun q1 q2 q3 => t_DNew r0 hx (fun q => by omega) (fun _ _ _ => ?_) fun _ _ _ _ _ _ _ _ _ _ => by omega) fun q1 q2 q3 r s h1 x1 k1 f1 fs => t_DNew (r0.keep k1) hx (fun q => by omega) (fun _ _ _ => by omega) fun _ _ _ d ws h2 x2 k2 f2 fw => ?_
  · exact y none none 18 h (.refl _) rfl fun q => by cases q
  · exact y none none 23 h (.refl _) rfl fun q => by cases q
  · refine y _ _ 0 h2 (k1.trans k2) rfl fun _ => ⟨r, s, d, ws, rfl, rfl, x1.keep k2, x2, f1, k1.fresh f2, fun c q e => ?_, fun c q e => ?_, fun e => ?_⟩
    · rw [e] at q; exact x1.buf.has q f2
    · have := fw c q
      rw [e, x1.cell] at this; cases this
    · rw [← e, x1.cell] at f2; cases f2
theorem PairAt.make {h1 h2 : H} {p q ev' : Nat} {knob : Int} {G G' G1 G1' : Nat → Prop} {es' : List En} (ap : ∀ c, G c → ¬ G' c) (hasG' : ∀ c, G' c → h c ≠ none) (k1 : KChg G G1 h h1) (k2 : KChg G' G1' h1 h2) (c1 : Cat h1 p knob G1 es') (c2 : Ref h2 q ev' G1' es') : PairAt h2 p q ev' (fun c => G1 c ∨ G1' c) es' := by
  have ap1 := k1.apart ap hasG'
  have ap2 : ∀ c, G1 c → ¬ G1' c := fun c q q' => by
    rcases k2.foot c q' with z | z
    · exact ap1 c q z
    · exact c1.has q z
  exact ⟨knob, G1, G1', c1.but k2.but (fun c q q' => ap1 c q' q), c2, ap2, fun _ => Iff.rfl⟩
theorem t_IssueObjects {a0 a2 a3 : Sl} {a1 : Int} {xs : List S_api_Word} {puts : List S_law13_Put} {objs : List Int} (r0 : Arr cW h a0 xs) (hx : ∀ x ∈ xs, GoodW x) (r2 : Arr S_law13_Put.cells h a2 puts) (r3 : Arr (cInt .i64) h a3 objs) (n2 : puts.length ≤ 9223372036854775807) (n3 : objs.length ≤ 9223372036854775807) {K : Bool → H → Prop} (y : ∀ h', Keeps h h' → K true h') : m_law13_IssueObjects a0 a1 a2 a3 K h := by
  unfold m_law13_IssueObjects
  refine t_draws2 r0 hx fun R Dd e h1 k1 hnone hdr => ?_
  refine t_CNew (fun q => by omega) fun _ _ n en _ _ p G h2 c2 k2 f2 => t_RNew (fun q => by omega) fun _ _ n' en' _ _ q G' h3 c3 k3 f3 => t_known13 fun h4 k4 => ?_
  obtain rfl : n = n' := by omega
  refine w_ifF (by rw [hnone]; simp) ?_
  have pa0 : PairAt h4 p q 0 (fun c => G c ∨ G' c) (List.replicate n none) := ⟨_, G, G', (c2.keep k3).keep k4, c3.keep k4, fun c g g' => c2.has g (f3 c g'), fun _ => Iff.rfl⟩
  have k14 : Keeps h1 h4 := (k2.trans k3).trans k4
  have l2 := r2.len
  have l3 := r3.len
  refine w_for puts.length (fun i (z : Int) h' => z = (i : Int) ∧ Keeps h1 h' ∧ ∃ D es ev, PairAt h' p q ev D es ∧ ev ≤ i ∧ ∀ c, D c → h1 c = none) ?_ ⟨rfl, k14, _, _, 0, pa0, Nat.le_refl _, fun c g => g.elim (f2 c) fun g => k2.fresh (f3 c g)⟩
  rintro rec i z h' hi ⟨rfl, kp, D, es, ev, pa, hev, hD⟩ more
  refine w_if' (fun c => ?_) fun c => ?_
  · have c : (i : Int) < (a2.len : Int) := c
    have hil : i < puts.length := by omega
    have hz := List.getElem?_eq_getElem hil
    generalize puts[i] = pt at hz
    have ei : iAdd .i64 (i : Int) 1 = ((i + 1 : Nat) : Int) := (iAdd_eq (by omega) (by omega)).trans (by omega)
    rw [ei]
    have kh : Keeps h h' := k1.trans kp
    obtain ⟨knob, G, G', a, b, ap, d⟩ := pa.ex
    have hasG' : ∀ c, G' c → h' c ≠ none := fun c q => b.has q
    have fr1 : ∀ c, G c → h1 c = none := fun c g => hD c ((d c).2 (.inl g))
    have fr2 : ∀ c, G' c → h1 c = none := fun c g => hD c ((d c).2 (.inr g))
    -- what a pair of calls leaves
    have fin : ∀ {ha hb : H} {G1 G1' : Nat → Prop} {es' : List En} {ev' : Nat}, ev' ≤ ev + 1 → KChg G G1 h' ha → KChg G' G1' ha hb → Cat ha p knob G1 es' → Ref hb q ev' G1' es' → rec ((i + 1 : Nat) : Int) hb := fun {ha hb G1 G1' es' ev'} e1 q1 q2 w1 w2 => by
      refine more _ _ hil ⟨rfl, (kp.but q1.but fr1).but q2.but fr2, _, es', ev', PairAt.make ap hasG' q1 q2 w1 w2, by omega, fun c g => ?_⟩
      rcases g with g | g
      · exact (q1.foot c g).elim (fr1 c) kp.fresh
      · exact (q2.foot c g).elim (fr2 c) fun z => kp.fresh (q1.dom c z)
    have rdP : ∀ {hh : H} {k : Int → H → Prop}, Keeps h hh → k pt.Parent hh → mIdx a2 (i : Int) 5 (fun ad => mLoad (cInt .i64) (ad.add 0) k) hh := fun kk z => w_field put_len (r2.keep kk) hz rfl (v' := pt.Parent) (cells' := cInt .i64) (l1 := []) (l3 := (S_law13_Put.cells pt).drop 1) rfl rfl z
    have at2 : ∀ {hh : H} {ad : Addr}, At hh ad (S_law13_Put.cells pt) → At hh (ad.add 1) (S_api_Cap.cells pt.C) ∧ At hh (ad.add 4) (cInt .i64 pt.Rights) ∧ At hh (ad.add 0) (cInt .i64 pt.Parent) := fun {hh ad} q => by
      refine ⟨At.sub (l1 := (S_law13_Put.cells pt).take 1) (l3 := (S_law13_Put.cells pt).drop 4) q rfl, At.sub (l1 := (S_law13_Put.cells pt).take 4) (l3 := []) (by rw [List.append_nil]; exact q) rfl, ?_⟩
      rw [add_zero]; exact At.head (l2 := (S_law13_Put.cells pt).drop 1) q
    refine rdP kh (w_if' (fun _ => ?_) fun _ => ?_)
    · refine w_idx put_len (r2.keep kh) hz rfl fun ad _ had => w_idx put_len (r2.keep kh) hz rfl fun ad' _ had' => w_load (at2 had).1 (w_load (at2 had').2.1 (t_CRoot a fun G1 ha w1 q1 => ?_))
      have ka : Keeps h ha := k1.trans (kp.but q1.but fr1)
      refine w_idx put_len (r2.keep ka) hz rfl fun ad _ had => w_idx put_len (r2.keep ka) hz rfl fun ad' _ had' => w_load (at2 had).1 (w_load (at2 had').2.1 (t_RRoot (b.but q1.but fun c q q' => ap c q q') (by omega) fun G1' hb ev' e1 w2 q2 => fin e1 q1 q2 w1 w2))
    · refine w_idx put_len (r2.keep kh) hz rfl fun ad _ had => w_idx put_len (r2.keep kh) hz rfl fun ad' _ had' => w_idx put_len (r2.keep kh) hz rfl fun ad'' _ had'' => w_load (at2 had).2.2 (w_load (at2 had').1 (w_load (at2 had'').2.1 (t_CChild a fun G1 ha w1 q1 => ?_)))
      have ka : Keeps h ha := k1.trans (kp.but q1.but fr1)
      refine w_idx put_len (r2.keep ka) hz rfl fun ad _ had => w_idx put_len (r2.keep ka) hz rfl fun ad' _ had' => w_idx put_len (r2.keep ka) hz rfl fun ad'' _ had'' => w_load (at2 had).2.2 (w_load (at2 had').1 (w_load (at2 had'').2.1 (t_RChild (b.but q1.but fun c q q' => ap c q q') (by omega) fun G1' hb ev' e1 w2 q2 => fin e1 q1 q2 w1 w2)))
  · -- the words
    by_cases he : e = 0
    · obtain ⟨r, s, d, ws, rfl, rfl, xr, xd, fr, fd, sd, wr, hrd⟩ := hdr he
      have nr : ¬ D r := fun g => by have := hD r g; rw [xr.cell] at this; cases this
      have nd : ¬ D d := fun g => by have := hD d g; rw [xd.cell] at this; cases this
      refine w_for objs.length (fun j (z : Int) hh => z = (j : Int) ∧ Keeps h hh ∧ PairAt hh p q ev D es ∧ ∃ tk, RAt hh r s xs a1 tk ∧ DAt hh d ws (xs.map (cutW a1)) tk) ?_ ⟨rfl, k1.trans kp, pa, 0, xr.keep kp, xd.keep kp⟩
      rintro rec2 j z hh hj ⟨rfl, kh, pa, tk, yr, yd⟩ more2
      refine w_if (fun cj => ?_) fun cj => y _ kh
      rw [Bool.and_eq_true, decide_eq_true_eq] at cj
      have cj : (j : Int) < (a3.len : Int) := cj.1
      have hjl : j < objs.length := by omega
      have hz := List.getElem?_eq_getElem hjl
      generalize objs[j] = o at hz
      have ej : iAdd .i64 (j : Int) 1 = ((j + 1 : Nat) : Int) := (iAdd_eq (by omega) (by omega)).trans (by omega)
      rw [ej]
      obtain ⟨knob, G, G', ca, cb, ap, dd⟩ := pa.ex
      refine w_get ci_len (r3.keep kh) hz rfl (v' := o) rfl (t_ref13Of yr hx cb fun hA yr2 bA dA => ?_)
      have kA : Keeps h hA := kh.but bA fun c q => q ▸ fr
      have paA := pa.but bA fun c q g => by (have q : c = r := q); exact nr (q ▸ g)
      have ydA := yd.but bA fun c q => by (have q : c = r := q); exact ⟨fun z => hrd (q.symm.trans z), fun z => wr c z q⟩
      obtain ⟨knob, G, G', ca, cb, ap, dd⟩ := paA.ex
      have nGd : ¬ G d := fun g => nd ((dd d).2 (.inl g))
      refine w_get ci_len (r3.keep kA) hz rfl (v' := o) rfl (t_issueOf ydA ca nGd fun hB yd2 bB dB => ?_)
      have kB : Keeps h hB := kA.but bB fun c q => q ▸ fd
      have paB := paA.but bB fun c q g => by (have q : c = d := q); exact nd (q ▸ g)
      have yrB := yr2.but bB fun c q => by (have q : c = d := q); exact ⟨fun z => hrd (z.symm.trans q), fun z => sd c z q⟩
      have hcon := issueO_congr (f := fun c => (findE es ⟨o, c⟩).isSome) (g := fun c => decide (c ∈ passes es o)) (fun c => find_passes ca.wf o c) (xs.map (cutW a1)) tk 9
      rw [hcon] at yd2 ⊢
      obtain ⟨knob, G, G', ca, cb, ap, dd⟩ := paB.ex
      generalize issueO (fun c => decide (c ∈ passes es o)) (xs.map (cutW a1)) tk 9 = out at yd2 yrB ⊢
      refine w_joinV false (fun J hJ => w_ifF ?_ (t_DTaken yd2 (t_RTaken yrB ?_))) ?_
      · rw [decide_eq_true rfl, decide_eq_true rfl, decide_eq_true rfl]; rfl
      · rw [decide_eq_true rfl]; exact hJ
      refine w_joinV false (fun J hJ => w_ifF rfl (t_CCount ca (t_RCount cb ?_))) ?_
      · rw [decide_eq_true rfl]; exact hJ
      refine w_joinV false (fun J hJ => w_ifF rfl ?_) (w_ifF rfl (more2 _ _ hjl ⟨rfl, kB, paB, _, yrB, yd2⟩))
      have r3B := r3.keep kB
      refine w_idx ci_len r3B hz rfl fun ad _ had => w_idx ci_len r3B hz rfl fun ad' _ had' => w_load (v := o) had (w_joinV ((cnt es o : Int), o) (fun J2 hJ2 => w_both (t_CIn ca (w_load (v := o) had' hJ2)) (w_load (v := o) had' (t_CIn ca hJ2))) (t_RIn cb ?_))
      rw [decide_eq_true rfl]; exact hJ
    · refine w_for 0 (fun j (z : Int) hh => Keeps h hh) ?_ (k1.trans kp)
      rintro rec2 j z hh hj kh more2
      refine w_ifF ?_ (y _ kh)
      rw [decide_eq_false (show ¬ e = 0 from he), Bool.and_false]
end
theorem goodW_of {x : S_api_Word} (h1 : IntKind.u64.min ≤ x.Hi ∧ x.Hi ≤ IntKind.u64.max) (h2 : IntKind.u64.min ≤ x.Lo ∧ x.Lo ≤ IntKind.u64.max) : GoodW x := by
  have a1 : (0 : Int) ≤ x.Hi ∧ x.Hi ≤ 18446744073709551615 := h1
  have a2 : (0 : Int) ≤ x.Lo ∧ x.Lo ≤ 18446744073709551615 := h2
  refine ⟨valW x.Hi.toNat x.Lo.toNat, valW_lt (by omega) (by omega), ?_⟩
  rw [wordOf_val (by omega), Int.toNat_of_nonneg a1.1, Int.toNat_of_nonneg a2.1]
end Go.Proofs.Ytiajjcboddaenaa.K
