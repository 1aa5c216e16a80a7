/- ValidateGone: what is dropped is gone for the cache too. -/
import Derived.Test.YtiajjcboddaenaaVa4
namespace Go.Proofs.Ytiajjcboddaenaa.K
open Go
theorem part31 : ∀ a : Fin 32, a.val ≠ 0 → partOf (a.val : Int) 31 = true := by decide +kernel
theorem part_31 {r : Int} (h : 1 ≤ r ∧ r ≤ 31) : partOf r 31 = true := by
  have := part31 ⟨r.toNat, by omega⟩ (by show r.toNat ≠ 0; omega)
  simpa only [Int.toNat_of_nonneg (by omega : 0 ≤ r)] using this
theorem partOf_eq {r u : Int} (h1 : 1 ≤ r ∧ r ≤ 31) (h2 : 1 ≤ u ∧ u ≤ 31) : partOf r u = decide (iOr .i64 r u = u) := by
  unfold partOf
  rw [decide_eq_true h1, decide_eq_true h2, Bool.true_and, Bool.true_and]
  have := part_or ⟨r.toNat, by omega⟩ ⟨u.toNat, by omega⟩
  simp only [Int.toNat_of_nonneg (by omega : 0 ≤ r), Int.toNat_of_nonneg (by omega : 0 ≤ u)] at this
  exact this.symm
def gRoot : S_api_Token := ⟨⟨1, ⟨1, 0⟩⟩, 31, -1⟩
theorem gone_r : rootOut (List.replicate (mostOf 19) none) ⟨1, ⟨1, 0⟩⟩ 31 = ((0, 0), some (gRoot, []) :: List.replicate 19 none) := by kernel_rfl
theorem full_of {es : List En} (h : freeE es = none) : (capsG 0 es).length = es.length := by
  have hall : ∀ e ∈ es, e.isSome = true := fun e he => by
    unfold freeE freeU at h
    rw [List.findIdx?_eq_none_iff] at h
    have := h e.isSome (List.mem_map.2 ⟨e, he, rfl⟩)
    simpa using this
  clear h
  have main : ∀ (es : List En) (k : Nat), (∀ e ∈ es, e.isSome = true) → (capsG k es).length = es.length := by
    intro es
    induction es with
    | nil => exact fun _ _ => rfl
    | cons e r ih =>
      intro k hh
      have h1 := hh e (List.mem_cons_self ..)
      cases e with
      | none => cases h1
      | some p =>
        obtain ⟨u, us⟩ := p
        rw [capsG, List.length_cons, List.length_cons, ih _ fun e he => hh e (List.mem_cons_of_mem _ he)]
  exact main es 0 hall
structure GoneSt (es : List En) (m : Nat) : Prop where
  root : ∃ ks, Has es 0 gRoot ks
  len : es.length = 20
  live : (capsG 0 es).length ≤ m
/-- A new name under the root. -/
theorem gone_child {es : List En} {m : Nat} (g : GoneSt es m) (hm : m < 20) {c : S_api_Cap} (hc : c.Obj = 1) (hf : findE es c = none) {r : Int} (hr : 1 ≤ r ∧ r ≤ 31) :
    ∃ n : Nat, childOut es 0 c r = (((n : Int), 0), childE es 0 n ⟨c, r, 0⟩) ∧ n ≠ 0 ∧ GoneSt (childE es 0 n ⟨c, r, 0⟩) (m + 1) ∧ Has (childE es 0 n ⟨c, r, 0⟩) n ⟨c, r, 0⟩ [] ∧ (capsG 0 (childE es 0 n ⟨c, r, 0⟩)).length = (capsG 0 es).length + 1 := by
  obtain ⟨ks, h0⟩ := g.root
  cases hfr : freeE es with
  | none =>
    have := full_of hfr
    have := g.len
    have := g.live
    omega
  | some n =>
    have hn := freeE_some hfr
    have hn0 : n ≠ 0 := fun e => by subst e; unfold Has at h0; rw [hn] at h0; cases h0
    have e0 : atE es 0 = some (gRoot, ks) := (atE_has (i := 0)).2 ⟨0, rfl, h0⟩
    have hcap := (capsG_child (t := ⟨c, r, 0⟩) h0 hn).length_eq
    rw [List.length_cons] at hcap
    refine ⟨n, ?_, hn0, ⟨⟨_, (has_child h0 hn).2 (.inr (.inl ⟨rfl, rfl, rfl⟩))⟩, ?_, by have := g.live; omega⟩, (has_child h0 hn).2 (.inl ⟨rfl, rfl, rfl⟩), hcap⟩
    · unfold childOut
      rw [e0]
      simp only
      rw [if_pos (show gRoot.Cap.Obj = c.Obj from hc.symm), if_pos (show partOf r gRoot.Rights = true from part_31 hr), hf]
      simp only [Option.isSome_none, Bool.false_eq_true, if_false]
      rw [hfr]; rfl
    · unfold childE
      rw [h0]; simp only [List.length_set]; exact g.len
section
variable {h : H}
theorem t_ValidateGone {n : S_law19_Numbers} {s : Sl} {xs : List Int} (ar : Arr (cInt .u64) h s xs) {a2 a3 a4 : Int} {K : Bool → H → Prop} (y : ∀ h', Keeps h h' → K true h') : m_law19_ValidateGone n s a2 a3 a4 K h := by
  unfold m_law19_ValidateGone
  have rng : ∀ a : Int, 1 ≤ iAdd .i64 1 (iRem .i64 (iAdd .i64 (iRem .i64 a 31) 31) 31) ∧ iAdd .i64 1 (iRem .i64 (iAdd .i64 (iRem .i64 a 31) 31) 31) ≤ 31 := fun a => by
    have := rem3 a (b := 31) (by omega) (by omega)
    rw [iAdd_eq (by omega) (by omega)]; omega
  have h2 := rng a2
  have h3 := rng a3
  have h4 := rng a4
  generalize iAdd .i64 1 (iRem .i64 (iAdd .i64 (iRem .i64 a2 31) 31) 31) = r1 at *
  generalize iAdd .i64 1 (iRem .i64 (iAdd .i64 (iRem .i64 a3 31) 31) 31) = r2 at *
  generalize iAdd .i64 1 (iRem .i64 (iAdd .i64 (iRem .i64 a4 31) 31) 31) = need at *
  refine t_desk fun d v p k q D G h1 x1 _ _ k1 f1 _ => ?_
  refine w_joinP (fun s3 hh => s3 = false ∧ Keeps h1 hh) (fun j hj => w_ifF rfl (t_alive fun hb kb => hj _ _ ⟨rfl, kb⟩)) ?_
  rintro _ hb ⟨rfl, kb⟩
  have xb := x1.keep kb
  refine w_ifF rfl (w_deref (w_load xb.c0 (t_dRoot xb fun D1 hc xc kc => ?_)))
  rw [gone_r] at xc
  have g0 : GoneSt (some (gRoot, []) :: List.replicate 19 none) 1 := ⟨⟨[], rfl⟩, by kernel_rfl, Nat.le_of_eq (by kernel_rfl)⟩
  have hl := ar.len
  have K0 : Keeps h hc := (k1.trans kb).but kc.but f1
  have F0 : ∀ c, D1 c → h c = none := fun c g => (kc.foot c g).elim (f1 c) (k1.trans kb).fresh
  refine w_for 12 (fun i (z : Int) hh => z = (i : Int) ∧ ∃ D es, Desk hh d v p k q D es es ∧ GoneSt es (1 + i) ∧ Keeps h hh ∧ ∀ c, D c → h c = none) ?_ ⟨rfl, D1, _, xc, g0, K0, F0⟩
  clear g0 K0 F0 xc kc f1 x1 xb
  rintro rec i z hh hi ⟨rfl, D, es, x, gs, kp, fD⟩ more
  refine w_if (fun c => ?_) fun c => y _ kp
  rw [Bool.and_eq_true, decide_eq_true_eq, decide_eq_true_eq] at c
  have c1 : (i : Int) < (s.len : Int) := c.1
  have c2 : (i : Int) < 12 := c.2
  have hil : i < xs.length := by omega
  have hz := List.getElem?_eq_getElem hil
  generalize xs[i] = w at hz
  have cu_len : ∀ x : Int, (cInt .u64 x).length = 1 := fun _ => rfl
  refine w_get cu_len (ar.keep kp) hz rfl (v' := w) rfl (w_deref (w_load x.c0 ?_))
  obtain ⟨knob, G, a, b, ct, e, g, dd⟩ := id x.ex
  rw [ia1 i (by omega)]
  refine t_CFind ct ?_
  cases hf : findE es ⟨1, ⟨0, w⟩⟩ with
  | some m => exact w_ifT rfl (more _ _ (by omega) ⟨rfl, D, es, x, ⟨gs.root, gs.len, by have := gs.live; omega⟩, kp, fD⟩)
  | none =>
    clear a b ct e g dd
    refine w_ifF rfl (w_deref (w_load x.c0 (t_dChild x fun D1 h5 x5 k5 => ?_)))
    obtain ⟨n1, e1, n10, g1, ht1, cl1⟩ := gone_child gs (by omega) (c := ⟨1, ⟨0, w⟩⟩) rfl hf h2
    rw [e1] at x5 ⊢
    have w1 := x5.wf
    have K5 : Keeps h h5 := kp.but k5.but fD
    have F5 : ∀ c, D1 c → h c = none := fun c g => (k5.foot c g).elim (fD c) kp.fresh
    have fk : h k = none := F5 _ x5.inK
    refine w_deref (w_load x5.c1 (t_dGiven x5 fun h6 x6 b6 d6 => w_deref (w_load x6.c1 (t_dGiven x6 fun h7 x7 b7 d7 => w_num ?_))))
    have K7 : Keeps h h7 := (K5.but b6 fun c e => e ▸ fk).but b7 fun c e => e ▸ fk
    have gv : givenO (childE es 0 n1 ⟨⟨1, ⟨0, w⟩⟩, r1, 0⟩) ⟨1, ⟨0, w⟩⟩ need = if partOf need r1 = true then 0 else 4 := givenO_has w1 ht1 need
    refine w_joinV false (fun j hj => w_ifF rfl (w_num ?_)) (w_ifF (by rw [decide_eq_true rfl]; rfl) ?_)
    · rw [gv, partOf_eq h4 h2]
      cases decide (iOr .i64 need r1 = r1) <;> exact hj
    refine w_deref (w_load x7.c0 (t_dDrop x7 (fun hno => ?_) fun n t ks l en hn' bl _ D2 h8 x8 k8 _ _ _ => ?_))
    · have := (atE_has (i := (n1 : Int))).2 ⟨n1, rfl, ht1⟩
      rw [show atE (childE es 0 n1 ⟨⟨1, ⟨0, w⟩⟩, r1, 0⟩) ((n1 : Int), (0 : Int)).1 = _ from this] at hno; cases hno
    have en : (n1 : Int) = (n : Int) := en
    obtain rfl : n1 = n := by omega
    have el : l = [(n1 : Int)] := by
      refine bl.pre.inj (m := [(n1 : Int)]) ?_
      have : PreL (chN (nds (childE es 0 n1 ⟨⟨1, ⟨0, w⟩⟩, r1, 0⟩))) [(n1 : Int)] ((n1 : Int) :: ([] ++ [])) := .cons (by rw [chN_nds ht1]; exact .nil) .nil
      exact this
    subst el
    have K8 : Keeps h h8 := K7.but k8.but F5
    have F8 : ∀ c, D2 c → h c = none := fun c g => (k8.foot c g).elim (F5 c) K7.fresh
    -- what is left
    generalize he2 : cutE [(n1 : Int)] (childE es 0 n1 ⟨⟨1, ⟨0, w⟩⟩, r1, 0⟩) = es2 at x8
    have g2 : GoneSt es2 (1 + i) := by
      obtain ⟨ks0, hr0⟩ := g1.root
      refine ⟨⟨_, he2 ▸ has_cut.2 ⟨by simp; omega, ks0, hr0, rfl⟩⟩, by rw [← he2, cutE_len]; exact g1.len, ?_⟩
      have q1 := (bl.cnt w1 ht1).2
      rw [cl1, he2, List.length_singleton] at q1
      have q2 := gs.live
      omega
    have f2 : findE es2 ⟨1, ⟨0, w⟩⟩ = none := by
      cases e : findE es2 ⟨1, ⟨0, w⟩⟩ with
      | none => rfl
      | some m =>
        obtain ⟨u, us, hu, eu⟩ := findE_has e
        rw [← he2] at hu
        obtain ⟨hmS, vs, hv, _⟩ := has_cut.1 hu
        have := w1.cap _ _ _ _ _ _ hv ht1 eu
        subst this
        exact absurd (List.mem_singleton_self _) hmS
    refine w_deref (w_load x8.c1 (t_dGone x8 fun h9 x9 b9 d9 => ?_))
    have fk8 : h k = none := F8 _ x8.inK
    have K9 : Keeps h h9 := K8.but b9 fun c e => e ▸ fk8
    refine w_deref (w_load x9.c1 (t_dGiven x9 fun h10 x10 b10 d10 => w_num ?_))
    have K10 : Keeps h h10 := K9.but b10 fun c e => e ▸ fk8
    have gv2 : givenO es2 ⟨1, ⟨0, w⟩⟩ need = 3 := by unfold givenO; rw [f2]
    rw [gv2]
    obtain ⟨ks2, hr2⟩ := g2.root
    have gvr : ∀ {es' : List En} {ks'}, CWF es' → Has es' 0 gRoot ks' → givenO es' ⟨1, ⟨1, 0⟩⟩ need = 0 := fun wf' hh => by
      have := givenO_has wf' hh need
      rw [show gRoot.Rights = 31 from rfl, if_pos (part_31 h4)] at this
      exact this
    refine w_joinP (fun s42 hx => s42 = false ∧ Desk hx d v p k q D2 es2 es2 ∧ Keeps h hx) (fun j hj => w_ifF rfl (w_deref (w_load x10.c1 (t_dGiven x10 fun h11 x11 b11 d11 => w_num ?_)))) ?_
    · rw [gvr x10.wf hr2]
      exact hj _ _ ⟨rfl, x11, K10.but b11 fun c e => e ▸ fk8⟩
    rintro _ h11 ⟨rfl, x11, K11⟩
    refine w_ifF rfl (w_deref (w_load x11.c0 (t_dChild x11 fun D3 h12 x12 k12 => ?_)))
    obtain ⟨n2, e2, n20, g3, ht3, cl3⟩ := gone_child g2 (by omega) (c := ⟨1, ⟨0, w⟩⟩) rfl f2 h3
    rw [e2] at x12 ⊢
    have w3 := x12.wf
    have K12 : Keeps h h12 := K11.but k12.but F8
    have F12 : ∀ c, D3 c → h c = none := fun c g => (k12.foot c g).elim (F8 c) K11.fresh
    have gv3 : givenO (childE es2 0 n2 ⟨⟨1, ⟨0, w⟩⟩, r2, 0⟩) ⟨1, ⟨0, w⟩⟩ need = if decide (iOr .i64 need r2 = r2) = true then 0 else 4 := by rw [← partOf_eq h4 h3]; exact givenO_has w3 ht3 need
    obtain ⟨ks3, hr3⟩ := g3.root
    have gv3r := gvr w3 hr3
    refine w_deref (w_load x12.c1 (w_box fun bb h13 f13 c13 k13 => ?_))
    have x13 := x12.keep k13
    have arL : Arr S_api_Cap.cells h13 ⟨some ⟨bb, 0, none⟩, 2, 2⟩ [⟨1, ⟨0, w⟩⟩, ⟨1, ⟨1, 0⟩⟩] := ⟨rfl, Nat.le_refl _, fun _ => ⟨_, rfl, at_box c13⟩⟩
    have fk3 : h k = none := F12 _ x12.inK
    have hbk : bb ≠ k := fun e => x12.has x12.inK (e ▸ f13)
    have K13 := K12.trans k13
    have nm : namedO (childE es2 0 n2 ⟨⟨1, ⟨0, w⟩⟩, r2, 0⟩) 1 need [⟨1, ⟨0, w⟩⟩, ⟨1, ⟨1, 0⟩⟩] 3 = (if decide (iOr .i64 need r2 = r2) = true then ⟨1, ⟨0, w⟩⟩ else ⟨1, ⟨1, 0⟩⟩, 0) := by
      rw [namedO_cons, if_pos rfl, gv3]
      cases decide (iOr .i64 need r2 = r2) with
      | true => rfl
      | false =>
        simp only [Bool.false_eq_true, if_false]
        rw [if_neg (by decide : ¬ (4 : Int) = 0), if_pos trivial, namedO_cons, if_pos rfl, gv3r, if_pos rfl]
    refine w_joinP (fun (s50 : Addr × S_api_Cap × Int) hx => ∃ bx, s50 = (⟨bx, 0, none⟩, (if decide (iOr .i64 need r2 = r2) = true then ⟨1, ⟨0, w⟩⟩ else ⟨1, ⟨1, 0⟩⟩), 0) ∧ Desk hx d v p k q D3 (childE es2 0 n2 ⟨⟨1, ⟨0, w⟩⟩, r2, 0⟩) (childE es2 0 n2 ⟨⟨1, ⟨0, w⟩⟩, r2, 0⟩) ∧ Keeps h hx ∧ h bx = none ∧ ¬ D3 bx ∧ hx bx = some (.cells (S_api_Cap.cells ⟨0, ⟨0, 0⟩⟩).toArray 39 (0, 0))) (fun j hj => t_dNamedB x13 arL (by simp) (fun _ ⟨ad, q1, q2⟩ => by cases q1; exact hbk q2) fun bx h14 x14 b14 d14 f14 c14 => ?_) ?_
    · rw [nm]
      exact hj _ _ ⟨bx, rfl, x14, K13.but b14 fun c e => e ▸ fk3, K13.fresh f14, fun g => x13.has g f14, c14⟩
    rintro _ h14 ⟨bx, rfl, x14, K14, fbx, nbx, c14⟩
    generalize hX : (if decide (iOr .i64 need r2 = r2) = true then (⟨1, ⟨0, w⟩⟩ : S_api_Cap) else ⟨1, ⟨1, 0⟩⟩) = X
    refine w_setBox (new := S_api_Cap.cells X) c14 rfl fun h15 c15 b15 d15 => w_num ?_
    have x15 := x14.but b15 fun c e g => by (have e : c = bx := e); exact nbx (e ▸ g)
    have K15 : Keeps h h15 := K14.but b15 fun c e => e ▸ fbx
    have hbxk : bx ≠ k := fun e => nbx (e ▸ x14.inK)
    refine w_joinP (fun s61 hx => s61 = false ∧ Desk hx d v p k q D3 (childE es2 0 n2 ⟨⟨1, ⟨0, w⟩⟩, r2, 0⟩) (childE es2 0 n2 ⟨⟨1, ⟨0, w⟩⟩, r2, 0⟩) ∧ Keeps h hx ∧ hx bx = some (.cells (S_api_Cap.cells X).toArray 39 (0, 0))) (fun j hj => w_ifF rfl (w_deref (w_load x15.c1 (t_dGiven x15 fun h16 x16 b16 d16 => w_num ?_)))) ?_
    · rw [gv3]
      have : (decide ((if decide (iOr .i64 need r2 = r2) = true then (0 : Int) else 4) = 0) == decide (iOr .i64 need r2 = r2)) = true := by cases decide (iOr .i64 need r2 = r2) <;> rfl
      rw [this]
      exact hj _ _ ⟨rfl, x16, K15.but b16 fun c e => e ▸ fk3, b16 _ _ c15 hbxk⟩
    rintro _ h16 ⟨rfl, x16, K16, c16⟩
    refine w_joinV false (fun j hj => w_ifF rfl (w_num hj)) (w_joinV false (fun j hj => w_ifF rfl (w_load (v := X) (at_box c16) ?_)) (w_ifF rfl (more _ _ (by omega) ⟨rfl, D3, _, x16, ⟨g3.root, g3.len, by have := g3.live; omega⟩, K16, F12⟩)))
    have : (decide (X = ⟨1, ⟨0, w⟩⟩) == decide (iOr .i64 need r2 = r2)) = true := by
      rw [← hX]
      cases hdec : decide (iOr .i64 need r2 = r2) with
      | true => rw [if_pos rfl, decide_eq_true rfl]; rfl
      | false =>
        rw [if_neg (by decide), decide_eq_false]
        · rfl
        · intro e; injection e with _ e; injection e with e _; exact absurd e (by decide)
    rw [show ((decide (X.Obj = 1)) && (((decide (X.Pass.Hi = 0)) && ((decide (X.Pass.Lo = w)) && true)) && true)) = decide (X = ⟨1, ⟨0, w⟩⟩) from cap_eqB X ⟨1, ⟨0, w⟩⟩, this]
    exact hj
end
end Go.Proofs.Ytiajjcboddaenaa.K
