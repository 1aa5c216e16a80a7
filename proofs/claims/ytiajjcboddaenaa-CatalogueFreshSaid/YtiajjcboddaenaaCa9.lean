/- Catalogues: dropped, told. -/
import Derived.Test.YtiajjcboddaenaaCa8
namespace Go.Proofs.Ytiajjcboddaenaa.K
open Go
theorem CWF.parObj {es : List En} (w : CWF es) {x z : Int} (d : Desc (chN (nds es)) x z) {i : Nat} {t ks} (hx : x = i) (hi : Has es i t ks) : ∀ {j : Nat} {u us}, z = j → Has es j u us → u.Cap.Obj = t.Cap.Obj := by
  induction d with
  | refl =>
    intro j u us e hj
    obtain rfl : i = j := by omega
    obtain ⟨rfl, _⟩ := hi.uniq hj
    rfl
  | snoc d hz ih =>
    intro j u us e hj
    obtain ⟨a, v, vs, rfl, ha, hk⟩ := chN_mem hz
    subst e
    obtain ⟨b, v', vs', e, hb, hp⟩ := w.down _ _ _ ha _ hk
    obtain rfl : j = b := by omega
    obtain ⟨rfl, _⟩ := hj.uniq hb
    rcases w.up _ _ _ hj with q | ⟨i', t', ks', q, hi', _, ho, _⟩
    · omega
    · obtain rfl : a = i' := by omega
      rw [← ho]; exact ih rfl hi'
theorem CWF.rootOf {es : List En} (w : CWF es) : ∀ {j u us}, Has es j u us → ∃ (r : Nat) (t : S_api_Token) (ks : List Int), Has es r t ks ∧ t.Parent = -1 ∧ t.Cap.Obj = u.Cap.Obj ∧ Desc (chN (nds es)) (r : Int) (j : Int) := by
  obtain ⟨wt, B, hw⟩ := w.rank
  have main : ∀ k, ∀ {j u us}, Has es j u us → wt j < k → ∃ (r : Nat) (t : S_api_Token) (ks : List Int), Has es r t ks ∧ t.Parent = -1 ∧ t.Cap.Obj = u.Cap.Obj ∧ Desc (chN (nds es)) (r : Int) (j : Int) := by
    intro k
    induction k with
    | zero => intro j u us _ q; omega
    | succ k ih =>
      intro j u us hj hk
      rcases w.up _ _ _ hj with q | ⟨i, t, ks, q, hi, hm, ho, _⟩
      · exact ⟨j, u, us, hj, q, rfl, .refl⟩
      · have := (hw _ _ _ hj).2 i q
        obtain ⟨r, v, vs, hr, p, o, d⟩ := ih hi (by omega)
        exact ⟨r, v, vs, hr, p, o.trans ho, d.snoc (by rw [chN_nds hi]; exact hm)⟩
  exact fun {j u us} hj => main _ hj (Nat.lt_succ_self _)
/-- What stands below a node is closed. -/
theorem Below.closed {es : List En} {n : Nat} {l : List Int} (b : Below es n l) {i : Nat} {t ks} (hi : Has es i t ks) (hm : (i : Int) ∈ l) {k : Int} (hk : k ∈ ks) : k ∈ l := by
  obtain ⟨r, hr, d⟩ := b.pre.mem.1 hm
  exact b.pre.mem.2 ⟨r, hr, d.snoc (by rw [chN_nds hi]; exact hk)⟩
theorem Below.obj {es : List En} (w : CWF es) {n : Nat} {l : List Int} (b : Below es n l) {t ks} (hn : Has es n t ks) {i : Nat} {u us} (hm : (i : Int) ∈ l) (hi : Has es i u us) : u.Cap.Obj = t.Cap.Obj := by
  obtain ⟨r, hr, d⟩ := b.pre.mem.1 hm
  obtain rfl := List.mem_singleton.1 hr
  exact w.parObj d rfl hn rfl hi
theorem Below.down {es : List En} {n : Nat} {l : List Int} (b : Below es n l) {i j : Int} (hm : i ∈ l) (d : Desc (chN (nds es)) i j) : j ∈ l := by
  obtain ⟨r, hr, d'⟩ := b.pre.mem.1 hm
  exact b.pre.mem.2 ⟨r, hr, d'.trans d⟩
def capAt (es : List En) (z : Int) : S_api_Cap := match atE es z with
  | some (t, _) => t.Cap
  | none => ⟨0, ⟨0, 0⟩⟩
theorem capAt_has {es : List En} {i : Nat} {t ks} (h : Has es i t ks) : capAt es (i : Int) = t.Cap := by
  unfold capAt
  rw [(atE_has (i := (i : Int))).2 ⟨i, rfl, h⟩]
/-- After a drop, the maps of a catalogue. -/
theorem CRel.drop {es : List En} {l : List (S_api_Cap × Int)} {ts lr lc} (rl : CRel es l ts lr lc) (w : CWF es) {n : Nat} {t ks} (hn : Has es n t ks) {bl : List Int} (b : Below es n bl) {l' : List (S_api_Cap × Int)} (hl' : l'.Perm (capsG 0 (cutE bl es)))
    (hc : ∀ o, cnt es o = cnt (cutE bl es) o + if o = t.Cap.Obj then bl.length else 0) :
    CRel (cutE bl es) l' ts (if cnt (cutE bl es) t.Cap.Obj = 0 then adel lr t.Cap.Obj else lr) (if cnt (cutE bl es) t.Cap.Obj = 0 then adel (aset lc t.Cap.Obj 0) t.Cap.Obj else aset lc t.Cap.Obj (cnt (cutE bl es) t.Cap.Obj)) := by
  have hnl : (n : Int) ∈ bl := b.pre.mem.2 ⟨n, by simp, .refl⟩
  have objIn : ∀ {i u us}, Has es i u us → (i : Int) ∈ bl → u.Cap.Obj = t.Cap.Obj := fun hi hm => b.obj w hn hm hi
  refine ⟨by rw [cutE_len]; exact rl.tl, fun i u us h => ?_, hl', ?_, fun o => ?_, ?_, fun o r => ?_⟩
  · obtain ⟨_, vs, h', _⟩ := has_cut.1 h
    exact rl.tok _ _ _ h'
  · split
    · exact (rl.oc.set _ _).del _
    · exact rl.oc.set _ _
  · by_cases q : o = t.Cap.Obj
    · subst q
      split
      · rw [alook_del _ _ _ (rl.oc.set _ _), if_pos rfl]
      · rw [alook_set, if_pos rfl]
    · have e := hc o
      rw [if_neg q] at e
      have : cnt es o = cnt (cutE bl es) o := by omega
      rw [← this, ← rl.count o]
      split
      · rw [alook_del _ _ _ (rl.oc.set _ _), if_neg q, alook_set, if_neg q]
      · rw [alook_set, if_neg q]
  · split
    · exact rl.or.del _
    · exact rl.or
  · -- the roots that stay
    have key : (∃ (i : Nat) (u : S_api_Token) (us : List Int), r = i ∧ Has (cutE bl es) i u us ∧ u.Cap.Obj = o ∧ u.Parent = -1) ↔ alook lr o = some r ∧ r ∉ bl := by
      rw [rl.roots]
      constructor
      · rintro ⟨i, u, us, rfl, h, e⟩
        obtain ⟨q, vs, h', _⟩ := has_cut.1 h
        exact ⟨⟨i, u, vs, rfl, h', e⟩, q⟩
      · rintro ⟨⟨i, u, us, rfl, h, e⟩, q⟩
        exact ⟨i, u, _, rfl, has_cut.2 ⟨q, us, h, rfl⟩, e⟩
    rw [key]
    by_cases q : o = t.Cap.Obj
    · subst q
      split
      · rename_i h0
        rw [alook_del _ _ _ rl.or, if_pos rfl]
        constructor
        · intro z; cases z
        · intro z
          obtain ⟨i, u, us, _, hi, e, _⟩ := key.2 z
          have := cnt_pos.2 ⟨i, u, us, hi, e⟩
          omega
      · rename_i h0
        obtain ⟨j, u, us, hj, ej⟩ := cnt_pos.1 (Nat.pos_of_ne_zero h0)
        obtain ⟨hjl, vs, hj', _⟩ := has_cut.1 hj
        obtain ⟨r', v, vs', hr', p', o', d'⟩ := w.rootOf hj'
        have hr'l : (r' : Int) ∉ bl := fun hm => hjl (b.down hm d')
        constructor
        · intro z
          refine ⟨z, ?_⟩
          obtain ⟨i, x, xs, rfl, hi, ei, pi⟩ := (rl.roots _ _).1 z
          rw [w.one _ _ _ _ _ _ hi hr' pi p' (ei.trans (ej.symm.trans o'.symm))]
          exact hr'l
        · exact fun z => z.1
    · have : alook (if cnt (cutE bl es) t.Cap.Obj = 0 then adel lr t.Cap.Obj else lr) o = alook lr o := by
        split
        · rw [alook_del _ _ _ rl.or, if_neg q]
        · rfl
      rw [this]
      constructor
      · intro z
        refine ⟨z, fun hm => ?_⟩
        obtain ⟨i, x, xs, rfl, hi, ei, _⟩ := (rl.roots _ _).1 z
        exact q (ei.symm.trans (objIn hi hm))
      · exact fun z => z.1
section
variable {h : H} {p : Nat} {knob : Int} {G : Nat → Prop} {es : List En}
theorem t_CDrop (x : Cat h p knob G es) {i : Int} {K : Sl × Int → H → Prop} (no : atE es i = none → ∀ h', Keeps h h' → K (Sl.nil, 20) h')
    (y : ∀ n t ks l, i = ((n : Nat) : Int) → Has es n t ks → Below es n l → ∀ s' G' h', Cat h' p knob G' (cutE l es) → KChg G G' h h' → Buf S_api_Cap.cells 3 N_api_Cap h' s' (l.map (capAt es)) → (∀ c, s'.foot c → h c = none) → (∀ c, s'.foot c → ¬ G' c) → K (s', 0) h') : m_catalogue_Catalogue_Drop (some ⟨p, 0, none⟩) i K h := by
  have wf := x.wf
  obtain ⟨L, al, ts, lr, lc, a, b, rl⟩ := x.ex
  unfold m_catalogue_Catalogue_Drop
  refine w_box fun b1 h1 f1 c1 k1 => w_load (v := some ⟨p, 0, none⟩) (cells := cPtr) (at_box c1) (t_CAt (x.keep k1) (w_box fun b4 h2 f2 c2 k2 => w_setBox c2 rfl fun h3 c3 e3 d3 => ?_))
  have k02 : Keeps h h2 := k1.trans k2
  have k03 : Keeps h h3 := k02.but e3 fun c q => by subst q; exact k1.fresh f2
  have k13 : Keeps h1 h3 := k2.but e3 fun c q => by subst q; exact f2
  unfold atOut at c3 ⊢
  cases hi : atE es i with
  | none =>
    exact w_ifT rfl (no hi h3 k03)
  | some v =>
    obtain ⟨t, ks⟩ := v
    obtain ⟨n, rfl, hn⟩ := atE_has.1 hi
    obtain ⟨l, bl⟩ := wf.ex hn
    have wl := wf.len
    have ll := bl.len
    rw [hi] at c3
    have c3 : h3 b4 = some (.cells (cTok t).toArray 98 (0, 0)) := c3
    refine w_ifF rfl (w_box fun b5 h4 f4 c4 k4 => w_load (v := some ⟨p, 0, none⟩) (cells := cPtr) (at_box ((k13.trans k4) _ _ c1)) (w_deref (w_load ((a.keep k03).keep k4).fTree ?_)))
    have k04 := k03.trans k4
    refine w_DownF a.tree k04 bl.pre bl.live (by omega) _ (fun _ _ _ => rfl)
      (fun E i h' => ∃ s, (∀ c, E c ↔ c = b1 ∨ c = b4 ∨ c = b5 ∨ s.foot c) ∧ h' b1 = some (.cells [Value.pointer (some ⟨p, 0, none⟩)].toArray 64 (0, 0)) ∧ h' b4 = some (.cells (cTok t).toArray 98 (0, 0)) ∧ h' b5 = some (.cells [Sl.val s].toArray 34 (0, 0)) ∧ Buf S_api_Cap.cells 3 N_api_Cap h' s ((l.take i).map (capAt es))) ?_ ?_ (G0 := fun c => c = b1 ∨ c = b4 ∨ c = b5 ∨ Sl.nil.foot c)
      ⟨Sl.nil, fun _ => Iff.rfl, (k13.trans k4) _ _ c1, k4 _ _ c3, c4, Buf.nil⟩ ?_ ?_ ?_
    · rintro E i h' ⟨s, hE, g1, g4, g5, bu⟩ c hc
      rcases (hE c).1 hc with rfl | rfl | rfl | q
      · rw [g1]; exact fun z => by cases z
      · rw [g4]; exact fun z => by cases z
      · rw [g5]; exact fun z => by cases z
      · exact bu.has q
    · rintro E i h' h'' E' ⟨s, hE, g1, g4, g5, bu⟩ bE nE
      exact ⟨s, hE, bE _ _ g1 fun q => nE _ q ((hE _).2 (.inl rfl)), bE _ _ g4 fun q => nE _ q ((hE _).2 (.inr (.inl rfl))), bE _ _ g5 fun q => nE _ q ((hE _).2 (.inr (.inr (.inl rfl)))), bu.but bE fun a ha q => nE _ q ((hE _).2 (.inr (.inr (.inr ⟨a, ha, rfl⟩))))⟩
    · rintro c (rfl | rfl | rfl | ⟨_, q, _⟩)
      · exact f1
      · exact k1.fresh f2
      · exact k03.fresh f4
      · cases q
    · -- a round
      rintro i z hz E h' kj ⟨s, hE, g1, g4, g5, bu⟩ kp fr next
      obtain ⟨z', u, us, e, hu⟩ := hasN_nds.1 (bl.live _ (List.mem_of_getElem? hz))
      obtain rfl : z = z' := by omega
      have a' := a.keep kp
      refine w_load (v := s) (cells := cSl) (at_box g5) (w_load (v := some ⟨p, 0, none⟩) (cells := cPtr) (at_box g1) (w_deref (w_load a'.fTok ?_)))
      refine w_field tok_len a'.tok.arr (rl.tok _ _ _ hu) rfl (v' := u.Cap) (cells' := S_api_Cap.cells) (l1 := []) (l3 := (cTok u).drop 3) rfl rfl (w_box fun b20 h5 f5 c5 k5 => ?_)
      have hil := lt_of_get hz
      refine w_append (by_ := 24) cap_len cap_plain rfl (bu.keep k5) (Buf.one cap_len c5).arr (.inl ?_) fun s6 h6 bu6 e6 fo6 d6 => ?_
      · simp only [List.length_map, List.length_take, List.length_singleton]; omega
      have t5 := Typed.of (k5 _ _ g5)
      have nb : ∀ {bb : Nat} {e : TypeId} {cs : Array Value}, h' bb = some (.cells cs e (0, 0)) → e ≠ N_api_Cap → ¬ s.foot bb := fun q ne f => (bu.typed f).ne (Typed.of q) (fun z => ne z.symm) rfl
      have g5' := e6 _ _ (k5 _ _ g5) (nb g5 (by decide))
      refine w_setBox g5' rfl fun h7 c7 e7 d7 => ?_
      have n15 : b1 ≠ b5 := (Typed.of g1).ne (Typed.of g5) (by decide)
      have n45 : b4 ≠ b5 := (Typed.of g4).ne (Typed.of g5) (by decide)
      have kb : But (fun c => s.foot c ∨ c = b5) h' h7 := ((But.of k5 : But (fun c => s.foot c ∨ c = b5) h' h5).trans (e6.mono fun _ q => .inl q) fun _ q => .inl q).trans (e7.mono fun _ q => .inr q) fun _ q => .inl q
      have fo : ∀ c, s6.foot c → s.foot c ∨ h' c = none := fun c q => (fo6 c q).imp id fun w => k5.fresh w
      refine next (fun c => c = b1 ∨ c = b4 ∨ c = b5 ∨ s6.foot c) h7 ⟨s6, fun _ => Iff.rfl, kb _ _ g1 ?_, kb _ _ g4 ?_, c7, ?_⟩ ⟨kb.mono fun c q => (hE c).2 ?_, fun c q => ?_, fun c q => k5.fresh (d6 c (d7 c q))⟩
      · rintro (q | q)
        · exact nb g1 (by decide) q
        · exact n15 q
      · rintro (q | q)
        · exact nb g4 (by decide) q
        · exact n45 q
      · have := bu6.but e7 fun a ha q => (bu6.typed ⟨a, ha, rfl⟩).ne (Typed.of g5') (by decide) q
        have e1 : (l.take (i + 1)).map (capAt es) = (l.take i).map (capAt es) ++ [u.Cap] := by
          rw [List.take_add_one, hz, List.map_append]
          show _ = _ ++ [u.Cap]
          rw [← capAt_has hu]; rfl
        rw [e1]; exact this
      · rcases q with q | q
        · exact .inr (.inr (.inr q))
        · exact .inr (.inr (.inl q))
      · rcases q with q | q | q | q
        · exact .inl ((hE c).2 (.inl q))
        · exact .inl ((hE c).2 (.inr (.inl q)))
        · exact .inl ((hE c).2 (.inr (.inr (.inl q))))
        · exact (fo c q).imp (fun w => (hE c).2 (.inr (.inr (.inr w)))) id
    · -- behind the range
      rintro E h5 ⟨s, hE, g1, g4, g5, bu⟩ k05 fr
      rw [List.take_length] at bu
      refine w_ifT rfl (w_load (v := some ⟨p, 0, none⟩) (cells := cPtr) (at_box g1) (w_deref (w_load (a.keep k05).fTree ?_)))
      obtain ⟨m, hm, hpost, hperm⟩ := bl.pre.post wf.forest
      have hmem : ∀ z, z ∈ m.reverse ↔ z ∈ l := fun z => hperm.mem_iff
      have hmlen := hperm.length_eq
      have hmlen' : m.length = l.length := by rw [← hmlen, List.length_reverse]
      have hmnd : m.reverse.Nodup := hperm.nodup_iff.2 bl.nd
      refine t_Fall (a.keep k05).tree hm (fun z hz => bl.live z ((hmem z).1 (List.mem_reverse.2 hz))) (by omega) fun r25 h6 bu6 k6 f6 => ?_
      have k06 := k05.trans k6
      have a6 := a.keep k06
      have offL : ∀ {c : Nat}, h c = none → ¬ CFoot p L c := fun q f => a.has f q
      have fs : ∀ c, s.foot c → h c = none := fun c q => fr c ((hE c).2 (.inr (.inr (.inr q))))
      have fb1 : h b1 = none := f1
      have fb4 : h b4 = none := k1.fresh f2
      have fb5 : h b5 = none := k03.fresh f4
      have f25 : ∀ c, r25.foot c → h c = none := fun c q => k05.fresh (f6 c q)
      refine w_for m.length (fun j (zz : Int) h' => zz = (j : Int) ∧ ∃ F l', CatRaw h' p (L.withF F) es.length knob l' (nds (cutE (m.reverse.take j) es)) ts ((cutE (m.reverse.take j) es).map Option.isSome) lr lc ∧ l'.Perm (capsG 0 (cutE (m.reverse.take j) es)) ∧ (∀ o, cnt es o = cnt (cutE (m.reverse.take j) es) o + if o = t.Cap.Obj then j else 0) ∧ KChg (CFoot p L) (CFoot p (L.withF F)) h6 h') ?_ ?_
      rotate_left
      · refine ⟨rfl, L.F, al, ?_, ?_, fun o => ?_, .refl _ _⟩
        · rw [List.take_zero, cutE_nil]; exact a6
        · rw [List.take_zero, cutE_nil]; exact rl.caps
        · rw [List.take_zero, cutE_nil]; simp
      rintro rec j zz h' hj ⟨rfl, F, l', a', hp', hc', kc⟩ more
      have h6b : ∀ {c : Nat} {o : Obj}, h6 c = some o → h c = none → h' c = some o := fun q q' => kc.but _ _ q (offL q')
      have bu' : Buf (cInt .i64) 1 N_int h' r25 m.reverse := bu6.but kc.but fun a ha q => offL (f25 _ ⟨a, ha, rfl⟩) q
      have g1' : h' b1 = some (.cells [Value.pointer (some ⟨p, 0, none⟩)].toArray 64 (0, 0)) := h6b (k6 _ _ g1) fb1
      have hl25 := bu'.len
      rw [List.length_reverse] at hl25
      refine w_if' (fun c => ?_) fun c => ?_
      · have c : (j : Int) < (r25.len : Int) := c
        have hjl : j < m.reverse.length := by rw [List.length_reverse]; omega
        have hz := List.getElem?_eq_getElem hjl
        generalize hzz : m.reverse[j] = zm at hz
        obtain ⟨q, u, us, rfl, hu⟩ := hasN_nds.1 (bl.live _ ((hmem _).1 (List.mem_of_getElem? hz)))
        have take1 : m.reverse.take (j + 1) = m.reverse.take j ++ [(q : Int)] := by rw [List.take_add_one, hz]; rfl
        have hqS : (q : Int) ∉ m.reverse.take j := fun w => by
          have nd := hmnd
          rw [← List.take_append_drop (j + 1) m.reverse, take1] at nd
          have nd := (List.nodup_append.1 nd).1
          rw [List.nodup_append] at nd
          exact nd.2.2 _ w _ (List.mem_singleton_self _) rfl
        have hkS : ∀ k ∈ us, k ∈ m.reverse.take j := fun k hk => hpost.behind hz k (by rw [chN_nds hu]; exact hk)
        have hpS : ∀ q' : Nat, u.Parent = q' → (q' : Int) ∉ m.reverse.take j := fun q' e w => by
          rcases wf.up _ _ _ hu with z | ⟨i', v, vs, z, hi', hm', _⟩
          · omega
          · obtain rfl : q' = i' := by omega
            obtain ⟨j', hj', w'⟩ := List.mem_take_iff_getElem.1 w
            have w'' : m.reverse[j']? = some (q' : Int) := by rw [List.getElem?_eq_getElem (by omega), w']
            have := hpost.behind w'' (q : Int) (by rw [chN_nds hi']; exact hm')
            exact hqS (List.take_subset_take_left _ (by omega) this)
        have st := wf.cutStep hu hqS hkS hpS
        refine w_get ci_len bu'.arr hz rfl (v' := (q : Int)) rfl (w_load (v := some ⟨p, 0, none⟩) (cells := cPtr) (at_box g1') (w_deref (w_load a'.fTree ?_)))
        refine t_KCut a'.tree (nds_get st.leaf) rfl rfl st.par fun h7 F7 t7 c7 => ?_
        rw [← st.nds] at t7
        have a7 := a'.setTree c7.but (fun _ e => e) t7
        have k7 : KChg (CFoot p L) (CFoot p (L.withF F7)) h6 h7 := kc.trans (KChg.tree (p := p) (L := L.withF F) c7)
        have off7 : ∀ {c : Nat} {o : Obj}, h6 c = some o → h c = none → h7 c = some o := fun q q' => k7.but _ _ q (offL q')
        refine w_load (v := some ⟨p, 0, none⟩) (cells := cPtr) (at_box (off7 (k6 _ _ g1) fb1)) (w_deref (w_load a7.fTab (w_load (v := some ⟨p, 0, none⟩) (cells := cPtr) (at_box (off7 (k6 _ _ g1) fb1)) (w_deref (w_load a7.fTok ?_)))))
        refine w_field tok_len a7.tok.arr (rl.tok _ _ _ hu) rfl (v' := u.Cap) (cells' := S_api_Cap.cells) (l1 := []) (l3 := (cTok u).drop 3) rfl rfl ?_
        have hlook : alook l' u.Cap = some (q : Int) := a7.tab.once.look (hp'.symm.subset (st.caps.symm.subset (List.mem_cons_self ..)))
        refine t_TDrop a7.tab (fun z => by rw [hlook] at z; cases z) fun v hv h8 t8 c8 => ?_
        rw [hlook] at hv; cases hv
        have a8 := a7.setTab c8.but (fun _ e => e) t8
        have k8 : KChg (CFoot p L) (CFoot p (L.withF F7)) h6 h8 := k7.trans (KChg.part (i := 1) (p := p) (L := L.withF F7) c8.but (by omega) (fun _ e => e) c8.dom)
        have off8 : ∀ {c : Nat} {o : Obj}, h6 c = some o → h c = none → h8 c = some o := fun q q' => k8.but _ _ q (offL q')
        refine w_load (v := some ⟨p, 0, none⟩) (cells := cPtr) (at_box (off8 (k6 _ _ g1) fb1)) (w_deref (w_load a8.fUse ?_))
        refine w_put cb_len a8.use (i := q) (by rw [List.length_map, cutE_len]; exact hu.lt) rfl false rfl fun h9 b9 e9 d9 => ?_
        have a9 := a8.setUse e9 (fun _ e => e) b9
        rw [← st.use, ← take1] at a9
        refine more _ _ (by omega) ⟨ia1 j (by omega), F7, _, a9, ?_, fun o => ?_, k8.trans (KChg.part (i := 4) (p := p) (L := L.withF F7) e9 (by omega) (fun _ e => e) d9)⟩
        · have sc := st.caps
          rw [take1]
          exact List.Perm.cons_inv (((adel_perm hlook).symm.trans hp').trans sc)
        · have sc := st.caps
          rw [take1]
          rw [hc' o, cnt_cons sc o]
          have hob := bl.obj wf hn ((hmem _).1 (List.mem_of_getElem? hz)) hu
          rw [hob]
          by_cases z : o = t.Cap.Obj
          · subst z; simp only [if_pos]; omega
          · have z' : ¬ t.Cap.Obj = o := fun w => z w.symm
            simp only [if_neg z, if_neg z']
            try omega
      · have c : ¬ (j : Int) < (r25.len : Int) := c
        obtain rfl : j = m.length := by omega
        have tl : m.reverse.take m.length = m.reverse := by rw [List.take_of_length_le]; rw [List.length_reverse]; exact Nat.le_refl _
        have ec : cutE (m.reverse.take m.length) es = cutE l es := by rw [tl]; exact cutE_congr hmem es
        rw [ec] at a' hp' hc'
        rw [hmlen'] at hc'
        have wf' : CWF (cutE l es) := wf.cut fun i u us hi hm k hk => bl.closed hi hm hk
        have rel := rl.drop wf hn bl hp' hc'
        have g4' : h' b4 = some (.cells (cTok t).toArray 98 (0, 0)) := h6b (k6 _ _ g4) fb4
        have g5' : h' b5 = some (.cells [Sl.val s].toArray 34 (0, 0)) := h6b (k6 _ _ g5) fb5
        have ls := bu.len
        rw [List.length_map] at ls
        have lt4 : ∀ {h'' : H}, h'' b4 = some (.cells (cTok t).toArray 98 (0, 0)) → At h'' (((⟨b4, 0, none⟩ : Addr).add 0).add 0) (cInt .i64 t.Cap.Obj) := fun q => by
          rw [pt_add, pt_add]
          exact (at_box q).head (l2 := (cTok t).drop 1)
        have fin : ∀ {h'' : H} {lr' lc' : List (Int × Int)}, CatRaw h'' p (L.withF F) es.length knob l' (nds (cutE l es)) ts ((cutE l es).map Option.isSome) lr' lc' → CRel (cutE l es) l' ts lr' lc' → KChg (CFoot p L) (CFoot p (L.withF F)) h6 h'' → mLoad cSl ⟨b5, 0, none⟩ (fun x49 => K (x49, 0)) h'' := fun {h'' lr' lc'} a'' r'' k'' => by
          have g5'' : h'' b5 = some (.cells [Sl.val s].toArray 34 (0, 0)) := k''.but _ _ (k6 _ _ g5) (offL fb5)
          refine w_load (v := s) (cells := cSl) (at_box g5'') ?_
          rw [← cutE_len l es] at a''
          refine y n t ks l rfl hn bl s (CFoot p (L.withF F)) h'' ⟨⟨L.withF F, l', ts, lr', lc', a'', fun _ => Iff.rfl, r''⟩, wf'⟩ ⟨fun c o q ng => k''.but c o (k06 c o q) fun w => ng ((b c).2 w), fun c w => (k''.foot c w).imp (b c).2 k06.fresh, fun c w => k06.fresh (k''.dom c w)⟩ ?_ fs fun c q w => ?_
          · exact (bu.keep k6).but k''.but fun a ha q => offL (fs _ ⟨a, ha, rfl⟩) q
          · rcases k''.foot c w with z | z
            · exact offL (fs c q) z
            · exact (bu.keep k6).has q z
        refine w_joinP (fun _ h'' => ∃ lr' lc', CatRaw h'' p (L.withF F) es.length knob l' (nds (cutE l es)) ts ((cutE l es).map Option.isSome) lr' lc' ∧ CRel (cutE l es) l' ts lr' lc' ∧ KChg (CFoot p L) (CFoot p (L.withF F)) h6 h'') (fun J hJ => ?_) fun _ h'' ⟨lr', lc', q1, q2, q3⟩ => fin q1 q2 q3
        refine w_load (v := some ⟨p, 0, none⟩) (cells := cPtr) (at_box g1') (w_deref (w_load a'.fCount (w_load (lt4 g4') (w_lookup keyNi a'.count (w_load (v := s) (cells := cSl) (at_box g5') ?_)))))
        rw [rl.cnt0, hc' t.Cap.Obj, if_pos rfl, ls]
        have cl := cnt_le (cutE l es) t.Cap.Obj
        rw [cutE_len] at cl
        have e1 : iSub .i64 ((cnt (cutE l es) t.Cap.Obj + l.length : Nat) : Int) (l.length : Int) = (cnt (cutE l es) t.Cap.Obj : Int) := by rw [iSub_eq (by omega) (by omega)]; omega
        rw [e1]
        refine w_mapSet keyNi a'.count rfl rfl fun h7 m7 e7 d7 => ?_
        have a7 := a'.setCount e7 (fun _ e => e) m7
        have k7 : KChg (CFoot p L) (CFoot p (L.withF F)) h6 h7 := kc.trans (KChg.part (i := 6) (p := p) (L := L.withF F) e7 (by omega) (fun _ e => e) d7)
        have off7 : ∀ {c : Nat} {o : Obj}, h6 c = some o → h c = none → h7 c = some o := fun q q' => k7.but _ _ q (offL q')
        refine w_load (v := some ⟨p, 0, none⟩) (cells := cPtr) (at_box (off7 (k6 _ _ g1) fb1)) (w_deref (w_load a7.fCount (w_load (lt4 (off7 (k6 _ _ g4) fb4)) (w_lookup keyNi a7.count ?_))))
        rw [alook_set, if_pos rfl]
        by_cases hz : cnt (cutE l es) t.Cap.Obj = 0
        · rw [if_pos hz, if_pos hz] at rel
          refine w_ifT (by rw [hz]; rfl) ?_
          rw [hz] at m7 a7
          refine w_load (v := some ⟨p, 0, none⟩) (cells := cPtr) (at_box (off7 (k6 _ _ g1) fb1)) (w_deref (w_load a7.fCount (w_load (lt4 (off7 (k6 _ _ g4) fb4)) (w_mapDel keyNi a7.count rfl fun h8 m8 e8 d8 => ?_))))
          have a8 := a7.setCount e8 (fun _ e => e) m8
          have k8 : KChg (CFoot p L) (CFoot p (L.withF F)) h6 h8 := k7.trans (KChg.part (i := 6) (p := p) (L := L.withF F) e8 (by omega) (fun _ e => e) d8)
          have off8 : ∀ {c : Nat} {o : Obj}, h6 c = some o → h c = none → h8 c = some o := fun q q' => k8.but _ _ q (offL q')
          refine w_load (v := some ⟨p, 0, none⟩) (cells := cPtr) (at_box (off8 (k6 _ _ g1) fb1)) (w_deref (w_load a8.fRoots (w_load (lt4 (off8 (k6 _ _ g4) fb4)) (w_mapDel keyNi a8.roots rfl fun h9 m9 e9 d9 => ?_))))
          have a9 := a8.setRoots e9 (fun _ e => e) m9
          exact hJ _ _ ⟨_, _, a9, rel, k8.trans (KChg.part (i := 5) (p := p) (L := L.withF F) e9 (by omega) (fun _ e => e) d9)⟩
        · rw [if_neg hz, if_neg hz] at rel
          refine w_ifF (decide_eq_false ?_) (hJ _ _ ⟨_, _, a7, rel, k7⟩)
          show ¬ (cnt (cutE l es) t.Cap.Obj : Int) = 0
          omega
end
end Go.Proofs.Ytiajjcboddaenaa.K
