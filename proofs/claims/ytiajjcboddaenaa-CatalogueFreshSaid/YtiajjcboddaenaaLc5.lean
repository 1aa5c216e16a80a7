/- Catalogues: lists that are handed out are the asker's own. -/
import Derived.Test.YtiajjcboddaenaaLc4
import Derived.Test.YtiajjcboddaenaaMk2
namespace Go.Proofs.Ytiajjcboddaenaa.K
open Go
open Classical in
noncomputable def ofO (es : List En) (o : Int) : List S_api_Token := if h : ∃ n t ks, Has es n t ks ∧ t.Cap.Obj = o ∧ t.Parent = -1 then ofE es (belowOf es h.choose) else []
theorem ofO_some {es : List En} (w : CWF es) {o : Int} {n t ks l} (hn : Has es n t ks) (ho : t.Cap.Obj = o) (hp : t.Parent = -1) (bl : Below es n l) : ofO es o = ofE es l := by
  have hex : ∃ n t ks, Has es n t ks ∧ t.Cap.Obj = o ∧ t.Parent = -1 := ⟨n, t, ks, hn, ho, hp⟩
  unfold ofO
  rw [dif_pos hex]
  obtain ⟨t', ks', h1, h2, h3⟩ := hex.choose_spec
  have : hex.choose = n := w.one _ _ _ _ _ _ h1 hn h3 hp (h2.trans ho.symm)
  rw [this, bl.eq]
theorem ofO_none {es : List En} {o : Int} (hno : ∀ i t ks, Has es i t ks → t.Cap.Obj ≠ o) : ofO es o = [] := by
  unfold ofO
  rw [dif_neg]
  rintro ⟨n, t, ks, h1, h2, _⟩
  exact hno n t ks h1 h2
theorem ofO_len {es : List En} (w : CWF es) (o : Int) : (ofO es o).length ≤ es.length := by
  unfold ofO
  split
  · rename_i hex
    obtain ⟨t, ks, h1, _⟩ := hex.choose_spec
    obtain ⟨l, bl⟩ := w.ex h1
    rw [bl.eq]
    unfold ofE
    rw [List.length_map]
    exact bl.len
  · exact Nat.zero_le _
section
variable {h : H} {p : Nat} {knob : Int} {G : Nat → Prop} {es : List En}
theorem t_COfU (x : Cat h p knob G es) {o : Int} {K : Sl → H → Prop} (y : ∀ s' h', Buf cTok 5 N_api_Token h' s' (ofO es o) → Keeps h h' → (∀ c, s'.foot c → h c = none) → K s' h') : m_catalogue_Catalogue_Of (some ⟨p, 0, none⟩) o K h :=
  t_COf x (fun hno h' k => y _ h' (by rw [ofO_none hno]; exact Buf.nil) k fun c ⟨_, q, _⟩ => by cases q) fun n t ks l hn ho hp bl s' h' bu k f => y s' h' (by rw [ofO_some x.wf hn ho hp bl]; exact bu) k f
end
/-- append([]T{}, s...). -/
theorem w_copyOf {T : Type} {cells : T → List Value} {sz by_ : Nat} {e : TypeId} (hs : ∀ x, (cells x).length = sz) (hp : ∀ x, (cells x).all plainVal = true) {zero : Array Value} (hz : zero.size = sz) {h : H} {s : Sl} {xs : List T} (x : Arr cells h s xs) (room : xs.length * by_ ≤ 2 ^ 48) {k : Sl → H → Prop}
    (y : ∀ s' h', Buf cells sz e h' s' xs → Keeps h h' → (∀ b, s'.foot b → h b = none) → k s' h') : mNew e #[] (fun ad => mAppend e sz by_ zero (⟨some ad, 0, 0⟩ : Sl) s k) h := by
  refine w_new fun b hb => ?_
  have bu : Buf cells sz e (upd h b (.cells #[] e (0, 0))) ⟨some ⟨b, 0, none⟩, 0, 0⟩ ([] : List T) := ⟨rfl, Nat.le_refl _, .inr ⟨b, [], (0, 0), rfl, upd_same _ _ _, by simp [flat], thawed0 _⟩⟩
  refine w_append hs hp hz bu (x.keep (.new hb)) (.inr ⟨rfl, room⟩) fun s' h' bu' b' f' n' => ?_
  rw [List.nil_append] at bu'
  have foot : ∀ c, (⟨some ⟨b, 0, none⟩, 0, 0⟩ : Sl).foot c → h c = none := fun c ⟨a, ha, hc⟩ => by
    cases ha; subst hc; exact hb
  refine y s' h' bu' (Keeps.but (.new hb) b' foot) fun c fc => ?_
  rcases f' c fc with q | q
  · exact foot c q
  · exact (upd_none.1 q).2
def capMark (k : Nat) : S_api_Cap := ⟨-1 - (k : Int), ⟨0, 0⟩⟩
theorem t_markedCaps {h : H} {a : Sl} {ss : List Sl} (sp : Arr cSl h a ss) (hn : ss.length ≤ 2 ^ 30) (hbl : ∀ s ∈ ss, s.len ≤ 2 ^ 40) (sep : ∀ (i j : Nat) (s t : Sl), ss[i]? = some s → ss[j]? = some t → i ≠ j → ∀ b, s.foot b → ¬ t.foot b) (hsp : ∀ b, feetS ss b → ¬ a.foot b)
    (r0 : ∀ s ∈ ss, ∃ ys, Buf S_api_Cap.cells 3 N_api_Cap h s ys) {K : Bool → H → Prop} (y : ∀ h', But (feetS ss) h h' → (∀ c, h' c = none → h c = none) → K true h') : m_law11_markedCaps a K h := by
  have em : ∀ k : Nat, k < 2 ^ 40 → iSub .i64 (-1) (k : Int) = -1 - (k : Int) := fun k q => iSub_eq (by omega) (by omega)
  show mMark3 39 34 3 24 #[(Value.int .i64 0), (Value.int .u64 0), (Value.int .u64 0)] (fun z => [(Value.int .i64 (iSub .i64 (-1) z)), (Value.int .u64 0), (Value.int .u64 0)]) (fun ad k => mLoad (cInt .i64) (ad.add 0) k) (fun z => iSub .i64 (-1) z) a K h
  refine w_mark3 cap_len rfl capMark (fun k q => by rw [em k q]; rfl) (fun k ad h c q had hc => w_load (v := iSub .i64 (-1) (k : Int)) ?_ hc) sp hn (fun s hs => by have := hbl s hs; omega) (fun s hs => by have := hbl s hs; omega) sep hsp r0 y
  rw [add_zero, em k q]
  exact At.head (l2 := (S_api_Cap.cells (capMark k)).drop 1) had
def tokM (r : Int) : S_api_Token := ⟨⟨0, ⟨0, 0⟩⟩, r, 0⟩
section
variable {h : H}
set_option maxRecDepth 100000 in
theorem t_CatalogueFresh {a0 a1 a3 : Int} {s : Sl} {sts : List S_law11_Step} (ar : Arr S_law11_Step.cells h s sts) (hn : sts.length ≤ 9223372036854775807) {K : Bool → H → Prop} (y : ∀ h', Keeps h h' → K true h') : m_law11_CatalogueFresh a0 a1 s a3 K h := by
  unfold m_law11_CatalogueFresh
  have hr := intoV_rng a0 (b := 60) (by omega)
  obtain ⟨n, hN⟩ : ∃ n : Nat, iAdd .i64 1 (intoV a0 60) = (n : Int) := ⟨(1 + intoV a0 60).toNat, by rw [iAdd_eq (by omega) (by omega)]; omega⟩
  have hn1 : 1 ≤ n ∧ n ≤ 60 := by rw [iAdd_eq (by omega) (by omega)] at hN; omega
  refine w_into (by omega) (by omega) ?_
  rw [hN]
  refine t_grown (by omega) (by omega) ar hn fun p2 knob2 G2 h1 c2 k1 f1 => t_grown (by omega) (by omega) (ar.keep k1) hn fun p3 knob3 G3 h2 c3 k2 f2 => ?_
  have hlen := grownE_len n sts
  generalize grownE n sts = es at c2 c3 hlen
  have w := c2.wf
  have x2 := c2.keep k2
  have apG : ∀ c, G2 c → ¬ G3 c := fun c q q' => c2.has q (f2 c q')
  have f3 : ∀ c, G3 c → h c = none := fun c q => k1.fresh (f2 c q)
  refine w_joinP (fun s5 hh => s5 = false ∧ Keeps h2 hh) (fun j hj => w_ifF rfl (t_known fun h3 k3 => hj _ _ ⟨rfl, k3⟩)) ?_
  rintro _ h3 ⟨rfl, k3⟩
  have hj := intoV_rng a3 (b := (n : Int)) (by omega)
  refine w_ifF rfl (w_into (by omega) (by omega) ?_)
  obtain ⟨jn, hjn⟩ : ∃ jn : Nat, intoV a3 (n : Int) = (jn : Int) := ⟨(intoV a3 (n : Int)).toNat, by omega⟩
  rw [hjn]
  have x2 := x2.keep k3
  have x3 := c3.keep k3
  have k03 : Keeps h h3 := (k1.trans k2).trans k3
  obtain ⟨S, tk, hS⟩ : ∃ S, Taken es jn S ∧ ((∀ t ks, ¬ Has es jn t ks) ∧ S = [] ∨ ∃ t ks, Has es jn t ks ∧ Below es jn S) := by
    rcases live_or es jn with ⟨t, ks, hh⟩ | hh
    · obtain ⟨l, bl⟩ := w.ex hh
      exact ⟨l, bl.taken w hh, .inr ⟨t, ks, hh, bl⟩⟩
    · exact ⟨[], w.takenDead hh, .inl ⟨hh, rfl⟩⟩
  refine t_CAt x2 ?_
  generalize hat : atOut es (jn : Int) = at8
  have hTl := ofO_len w at8.1.Cap.Obj
  generalize hTO : ofO es at8.1.Cap.Obj = TO at hTl
  refine t_COfU x2 fun r9 h4 b9 k4 f4 => t_COfU (x2.keep k4) fun r10 h5 b10 k5 f5 => ?_
  rw [hTO] at b9 b10
  have b9' := b9.keep k5
  refine w_copyOf tok_len tok_plain rfl b9'.arr (by omega) fun s12 h6 b12 k6 f6 => ?_
  have b9'' := b9'.keep k6
  have b10' := b10.keep k6
  refine t_sameTokens b10'.arr b12.arr (by omega) ?_
  have k36 := (k4.trans k5).trans k6
  refine w_joinP (fun s16 hh => s16 = false ∧ Keeps h6 hh) (fun j hj => w_ifF rfl (t_COfU (x3.keep k36) fun r90 h7 b90 k7 f7 => ?_)) ?_
  · rw [hTO] at b90
    refine t_sameTokens b90.arr (b12.keep k7).arr (by omega) (hj _ _ ⟨rfl, k7⟩)
  rintro _ h7 ⟨rfl, k7⟩
  refine w_ifF rfl ?_
  have k37 := k36.trans k7
  have ap910 : ∀ c, r9.foot c → ¬ r10.foot c := fun c q q' => b9.has q (f5 c q')
  have ap912 : ∀ c, r9.foot c → ¬ s12.foot c := fun c q q' => b9'.has q (f6 c q')
  have ap1012 : ∀ c, r10.foot c → ¬ s12.foot c := fun c q q' => b10.has q (f6 c q')
  have f9 : ∀ c, r9.foot c → h3 c = none := f4
  have f10 : ∀ c, r10.foot c → h3 c = none := fun c q => k4.fresh (f5 c q)
  have f12 : ∀ c, s12.foot c → h3 c = none := fun c q => (k4.trans k5).fresh (f6 c q)
  have l9 := b9.len
  -- both written over
  refine w_for TO.length (fun i (z : Int) h' => z = (i : Int) ∧ Keeps h3 h' ∧ (∃ A B, Buf cTok 5 N_api_Token h' r9 A ∧ A.length = TO.length ∧ A.take i = List.replicate i (tokM (-1)) ∧ Buf cTok 5 N_api_Token h' r10 B ∧ B.length = TO.length ∧ B.take i = List.replicate i (tokM (-2))) ∧ Buf cTok 5 N_api_Token h' s12 TO) ?_
    ⟨rfl, k37, ⟨TO, TO, b9''.keep k7, rfl, rfl, b10'.keep k7, rfl, rfl⟩, b12.keep k7⟩
  rintro rec i z h' hi ⟨rfl, kp, ⟨A, B, bA, lA, eA, bB, lB, eB⟩, bC⟩ more
  refine w_if' (fun c => ?_) fun c => ?_
  · have c : (i : Int) < (r9.len : Int) := c
    have hil : i < TO.length := by omega
    refine w_put tok_len bA (i := i) (by omega) rfl (tokM (-1)) rfl fun ha ba ka da => ?_
    have bB1 := bB.but ka fun ad h0 f => ap910 _ f ⟨ad, h0, rfl⟩
    refine w_put tok_len bB1 (i := i) (by omega) rfl (tokM (-2)) rfl fun hb bb kb db => ?_
    refine more _ _ hil ⟨ia1 i (by omega), (kp.but ka f9).but kb f10, ⟨_, _, ba.but kb fun ad h0 f => ap910 _ ⟨ad, h0, rfl⟩ f, by rw [List.length_set]; exact lA, take_set2 (by omega) eA, bb, by rw [List.length_set]; exact lB, take_set2 (by omega) eB⟩, (bC.but ka fun ad h0 f => ap912 _ f ⟨ad, h0, rfl⟩).but kb fun ad h0 f => ap1012 _ f ⟨ad, h0, rfl⟩⟩
  have c : ¬ (i : Int) < (r9.len : Int) := c
  obtain rfl : i = TO.length := by omega
  rw [List.take_of_length_le (by omega)] at eA eB
  subst eA; subst eB
  clear lA lB more
  -- and lengthened
  have room2 : (2 * ((List.replicate TO.length (tokM (-1))).length + [tokM (-1), tokM (-1)].length) + 192) * 40 ≤ 2 ^ 48 := by simp only [List.length_replicate, List.length_cons, List.length_nil]; omega
  refine w_appK tok_len rfl bA [tokM (-1), tokM (-1)] rfl rfl room2 fun s22 h8 b22 aA k8 f8 d8 => ?_
  have bB8 := bB.but k8 fun ad h0 f => ap910 _ f ⟨ad, h0, rfl⟩
  have bC8 := bC.but k8 fun ad h0 f => ap912 _ f ⟨ad, h0, rfl⟩
  have ap2210 : ∀ c, s22.foot c → ¬ r10.foot c := fun c q q' => by
    rcases f8 c q with z | z
    · exact ap910 c z q'
    · exact bB.has q' z
  have room3 : (2 * ((List.replicate TO.length (tokM (-2))).length + [tokM (-2), tokM (-2)].length) + 192) * 40 ≤ 2 ^ 48 := by simp only [List.length_replicate, List.length_cons, List.length_nil]; omega
  refine w_appK tok_len rfl bB8 [tokM (-2), tokM (-2)] rfl rfl room3 fun s23 h9 b23 aB k9 f9' d9 => ?_
  have b22' := b22.but k9 fun ad h0 f => ap2210 _ ⟨ad, h0, rfl⟩ f
  have aA' := aA.but k9 fun _ ad h0 f => ap910 _ ⟨ad, h0, rfl⟩ f
  have bC9 := bC8.but k9 fun ad h0 f => ap1012 _ f ⟨ad, h0, rfl⟩
  have kp9 : Keeps h3 h9 := (kp.but k8 f9).but k9 f10
  have er : ∀ r : Int, List.replicate TO.length (tokM r) ++ [tokM r, tokM r] = List.replicate (TO.length + 2) (tokM r) := fun r => by
    rw [← List.replicate_append_replicate]; rfl
  rw [er] at b22' b23
  have l22 := b22'.len
  rw [List.length_replicate] at l22
  refine w_for (TO.length + 2) (fun i (z : Int) h' => z = (i : Int) ∧ h9 = h') ?_ ⟨rfl, rfl⟩
  rintro rec2 i z hh hi ⟨rfl, rfl⟩ more2
  refine w_if' (fun c2 => ?_) fun c2 => ?_
  · have c2 : (i : Int) < (s22.len : Int) := c2
    have hil : i < TO.length + 2 := by omega
    have g : ∀ r : Int, (List.replicate (TO.length + 2) (tokM r))[i]? = some (tokM r) := fun r => by rw [List.getElem?_replicate, if_pos hil]
    have g' : i < TO.length → ∀ r : Int, (List.replicate TO.length (tokM r))[i]? = some (tokM r) := fun q r => by rw [List.getElem?_replicate, if_pos q]
    have rd : ∀ {ss : Sl} {L : List S_api_Token} {r : Int} {k : Int → H → Prop}, Arr cTok h9 ss L → L[i]? = some (tokM r) → k r h9 → mIdx ss (i : Int) 5 (fun ad => mLoad (cInt .i64) (ad.add 3) k) h9 := fun {ss L r k} aa e z => w_field tok_len aa e rfl (v' := r) (cells' := cInt .i64) (l1 := (cTok (tokM r)).take 3) (l3 := (cTok (tokM r)).drop 4) rfl rfl z
    refine rd b22'.arr (g _) (w_joinV false (fun j hj => w_ifF rfl (rd b23.arr (g _) hj)) (w_joinV false (fun j hj => w_ifF rfl (w_if' (fun c3 => ?_) fun _ => hj)) (w_ifF rfl (more2 _ _ hil ⟨ia1 i (by omega), rfl⟩))))
    have c3 : (i : Int) < (r9.len : Int) := c3
    have hi9 : i < TO.length := by omega
    exact rd aA' (g' hi9 _) (w_ifF rfl (rd aB (g' hi9 _) hj))
  have c2 : ¬ (i : Int) < (s22.len : Int) := c2
  clear more2 rec2
  refine t_COfU (x2.keep kp9) fun r66 h10 b66 k10 f66 => ?_
  rw [hTO] at b66
  refine t_sameTokens b66.arr (bC9.keep k10).arr (by omega) (w_ifF rfl ?_)
  have kp10 := kp9.trans k10
  have y2 := x2.keep kp10
  have y3 := x3.keep kp10
  -- the drops
  refine t_CDropU y2 hS fun s68 e68 G2' h11 y2' k11 l68 e68' b68 fr68 ap68 => ?_
  have y3' := y3.but k11.but apG
  have apG' : ∀ c, G2' c → ¬ G3 c := k11.apart apG fun c q => y3.has q
  refine t_CCount y3' (t_CDropU y3' hS fun s70 e70 G3' h12 y3'' k12 l70 e70' b70 fr70 ap70 => ?_)
  have y2'' := y2'.but k12.but fun c q q' => apG' c q' q
  have b68' := b68.but k12.but fun ad h0 f => y3.has f (fr68 _ ⟨ad, h0, rfl⟩)
  have apG'' : ∀ c, G3' c → ¬ G2' c := k12.apart (fun c q q' => apG' c q' q) fun c q => y2'.has q
  have ap6870 : ∀ c, s68.foot c → ¬ s70.foot c := fun c q q' => b68.has q (fr70 c q')
  have ap682 : ∀ c, s68.foot c → ¬ G2' c := ap68
  have ap703 : ∀ c, s70.foot c → ¬ G3' c := ap70
  have ap702 : ∀ c, s70.foot c → ¬ G2' c := fun c q q' => y2'.has q' (fr70 c q)
  have ap683 : ∀ c, s68.foot c → ¬ G3' c := fun c q q' => by
    rcases k12.foot c q' with z | z
    · exact y3.has z (fr68 c q)
    · exact b68.has q z
  have sl : S.length ≤ es.length := nodup_le _ _ tk.nd tk.num
  have ee : e68 = e70 ∧ (decide (e68 = 0) == at8.2) = true := by
    rcases e68' with ⟨q, hd⟩ | ⟨q, t, ks, hh, _⟩ <;> rcases e70' with ⟨q', hd'⟩ | ⟨q', t', ks', hh', _⟩
    · rw [← hat, atOut_dead hd, q, q']; exact ⟨rfl, rfl⟩
    · exact absurd hh' (hd _ _)
    · exact absurd hh (hd' _ _)
    · rw [← hat, atOut_has hh, q, q']; exact ⟨rfl, rfl⟩
  refine w_joinV false (fun j hj => w_ifF ?_ (t_CCount y2'' ?_)) ?_
  · show (!decide (e68 = e70) || !(decide (e68 = 0) == at8.2)) = false
    rw [ee.2, ee.1, decide_eq_true rfl]; rfl
  · have e1 : iAdd .i64 ((capsG 0 (cutE S es)).length : Int) (s68.len : Int) = ((capsG 0 es).length : Int) := by
      have h1 := tk.len
      have h2 := capsG_le es 0
      rw [l68, iAdd_eq (by omega) (by omega)]; omega
    show j (!decide (((capsG 0 es).length : Int) = iAdd .i64 ((capsG 0 (cutE S es)).length : Int) (s68.len : Int))) h12
    rw [e1, decide_eq_true rfl]; exact hj
  refine w_joinV false (fun j hj => w_ifF rfl (t_sameCaps b68'.arr b70.arr (by rw [List.length_map]; omega) hj)) (w_ifF rfl ?_)
  refine w_copyOf cap_len cap_plain rfl b68'.arr (by rw [List.length_map]; omega) fun s78 h13 b78 k13 f78 => w_box fun b79 h14 f79 c79 k14 => ?_
  have k134 := k13.trans k14
  have sp : Arr cSl h14 ⟨some ⟨b79, 0, none⟩, 2, 2⟩ [s68, s70] := ⟨rfl, Nat.le_refl _, fun _ => ⟨_, rfl, at_box c79⟩⟩
  have bx68 := b68'.keep k134
  have bx70 := b70.keep k134
  have ap78_68 : ∀ c, s68.foot c → ¬ s78.foot c := fun c q q' => b68'.has q (f78 c q')
  have ap78_70 : ∀ c, s70.foot c → ¬ s78.foot c := fun c q q' => b70.has q (f78 c q')
  refine t_markedCaps sp (by simp) (fun s hs => ?_) ?_ ?_ (fun s hs => ?_) fun h15 k15 d15 => w_ifF rfl ?_
  · simp only [List.mem_cons, List.not_mem_nil, or_false] at hs
    rcases hs with rfl | rfl <;> omega
  · intro i j s t hi hj hne b fs ft
    match i, j, hi, hj with
    | 0, 0, _, _ => exact hne rfl
    | 1, 1, _, _ => exact hne rfl
    | 0, 1, hi, hj =>
      have hi : some s68 = some s := hi
      have hj : some s70 = some t := hj
      cases hi; cases hj; exact ap6870 b fs ft
    | 1, 0, hi, hj =>
      have hi : some s70 = some s := hi
      have hj : some s68 = some t := hj
      cases hi; cases hj; exact ap6870 b ft fs
    | _ + 2, _, hi, _ => simp at hi
    | 0, _ + 2, _, hj => simp at hj
    | 1, _ + 2, _, hj => simp at hj
  · rintro b ⟨s, hs, fs⟩ ⟨ad, hd, e⟩
    cases hd
    have e : b79 = b := e
    subst e
    simp only [List.mem_cons, List.not_mem_nil, or_false] at hs
    rcases hs with rfl | rfl
    · exact (b68'.keep k13).has fs f79
    · exact (b70.keep k13).has fs f79
  · simp only [List.mem_cons, List.not_mem_nil, or_false] at hs
    rcases hs with rfl | rfl
    · exact ⟨_, bx68⟩
    · exact ⟨_, bx70⟩
  have offG2 : ∀ c, feetS [s68, s70] c → ¬ G2' c := fun c ⟨s, hs, fs⟩ => by
    simp only [List.mem_cons, List.not_mem_nil, or_false] at hs
    rcases hs with rfl | rfl
    · exact ap682 c fs
    · exact ap702 c fs
  have offG3 : ∀ c, feetS [s68, s70] c → ¬ G3' c := fun c ⟨s, hs, fs⟩ => by
    simp only [List.mem_cons, List.not_mem_nil, or_false] at hs
    rcases hs with rfl | rfl
    · exact ap683 c fs
    · exact ap703 c fs
  have off78 : ∀ c, feetS [s68, s70] c → ¬ s78.foot c := fun c ⟨s, hs, fs⟩ => by
    simp only [List.mem_cons, List.not_mem_nil, or_false] at hs
    rcases hs with rfl | rfl
    · exact ap78_68 c fs
    · exact ap78_70 c fs
  have z2 := (y2''.keep k134).but k15 offG2
  have z3 := (y3''.keep k134).but k15 offG3
  have b78' := (b78.keep k14).but k15 fun ad h0 f => off78 _ f ⟨ad, h0, rfl⟩
  have l78 := b78'.len
  rw [List.length_map] at l78
  -- all that was there stays
  have kE : Keeps h h15 := by
    have q1 : Keeps h h10 := k03.trans kp10
    have q2 : Keeps h h11 := q1.but k11.but f1
    have q3 : Keeps h h12 := q2.but k12.but f3
    refine (q3.trans k134).but k15 fun c ⟨s, hs, fs⟩ => ?_
    simp only [List.mem_cons, List.not_mem_nil, or_false] at hs
    rcases hs with rfl | rfl
    · exact q1.fresh (fr68 c fs)
    · exact q2.fresh (fr70 c fs)
  refine w_for S.length (fun i (z : Int) h' => z = (i : Int) ∧ h15 = h') ?_ ⟨rfl, rfl⟩
  rintro rec3 i z hh hi ⟨rfl, rfl⟩ more3
  refine w_if' (fun c3 => ?_) fun c3 => ?_
  · have c3 : (i : Int) < (s78.len : Int) := c3
    have hil : i < S.length := by omega
    have hz := List.getElem?_eq_getElem hil
    generalize hzz : S[i] = zm at hz
    obtain ⟨q, _, rfl⟩ := tk.num zm (List.mem_of_getElem? hz)
    obtain ⟨⟨t, ks, hh⟩, _⟩ := (tk.mem q).1 (List.mem_of_getElem? hz)
    have hC : (S.map (capAt es))[i]? = some t.Cap := by rw [List.getElem?_map, hz, Option.map_some, capAt_has hh]
    refine w_get cap_len b78'.arr hC rfl (v' := t.Cap) rfl (t_CFind z2 ?_)
    have hf : findE (cutE S es) t.Cap = none := by
      cases e : findE (cutE S es) t.Cap with
      | none => rfl
      | some v =>
        obtain ⟨u, us, hu, eu⟩ := findE_has e
        obtain ⟨hvS, vs, hv, _⟩ := has_cut.1 hu
        have := w.cap _ _ _ _ _ _ hv hh eu
        subst this
        exact absurd (List.mem_of_getElem? hz) hvS
    rw [hf]
    exact w_ifF rfl (more3 _ _ hil ⟨ia1 i (by omega), rfl⟩)
  · refine t_CCount z2 (t_CCount z3 ?_)
    rw [decide_eq_true rfl]
    exact y _ kE
end
end Go.Proofs.Ytiajjcboddaenaa.K
