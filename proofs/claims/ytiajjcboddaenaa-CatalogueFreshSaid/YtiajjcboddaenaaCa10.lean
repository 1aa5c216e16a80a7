/- Catalogues: what an object's tokens are. -/
import Derived.Test.YtiajjcboddaenaaCa9
namespace Go.Proofs.Ytiajjcboddaenaa.K
open Go
theorem idx_of {l : List Int} (nd : l.Nodup) {i : Nat} {z : Int} (h : l[i]? = some z) : l.idxOf z = i := by
  obtain ⟨hi, e⟩ := List.getElem?_eq_some_iff.1 h
  have := nd.idxOf_getElem i hi
  rwa [e] at this
def placeIn (l : List Int) (z : Int) : Int := if z = -1 then -1 else ((l.idxOf z : Nat) : Int)
def tokIn (es : List En) (l : List Int) (z : Int) : S_api_Token := match atE es z with
  | some (t, _) => ⟨t.Cap, t.Rights, placeIn l t.Parent⟩
  | none => tok0
def ofE (es : List En) (l : List Int) : List S_api_Token := l.map (tokIn es l)
theorem tokIn_has {es : List En} {l : List Int} {i : Nat} {t ks} (h : Has es i t ks) : tokIn es l (i : Int) = ⟨t.Cap, t.Rights, placeIn l t.Parent⟩ := by
  unfold tokIn
  rw [(atE_has (i := (i : Int))).2 ⟨i, rfl, h⟩]
/-- A node's parent stands ahead of it. -/
theorem Below.ahead {es : List En} (w : CWF es) {n : Nat} {l : List Int} (b : Below es n l) {t ks} (hn : Has es n t ks) {i : Nat} {z : Nat} (hz : l[i]? = some (z : Int)) {u us} (hu : Has es z u us) : (z = n ∧ u = t) ∨ (0 ≤ u.Parent ∧ u.Parent ∈ l.take i) := by
  rcases b.pre.behind hz with q | ⟨y, hy, hm⟩
  · obtain rfl : z = n := by have := List.mem_singleton.1 q; omega
    exact .inl ⟨rfl, (hu.uniq hn).1⟩
  · obtain ⟨j, v, vs, rfl, hj, hk⟩ := chN_mem hm
    obtain ⟨a, v', vs', e, ha, p⟩ := w.down _ _ _ hj _ hk
    obtain rfl : z = a := by omega
    obtain ⟨rfl, _⟩ := hu.uniq ha
    rw [p]
    exact .inr ⟨by omega, hy⟩
section
variable {h : H} {p : Nat} {knob : Int} {G : Nat → Prop} {es : List En}
theorem t_COf (x : Cat h p knob G es) {o : Int} {K : Sl → H → Prop} (no : (∀ i t ks, Has es i t ks → t.Cap.Obj ≠ o) → ∀ h', Keeps h h' → K Sl.nil h')
    (y : ∀ n t ks l, Has es n t ks → t.Cap.Obj = o → t.Parent = -1 → Below es n l → ∀ s' h', Buf cTok 5 N_api_Token h' s' (ofE es l) → Keeps h h' → (∀ c, s'.foot c → h c = none) → K s' h') : m_catalogue_Catalogue_Of (some ⟨p, 0, none⟩) o K h := by
  have wf := x.wf
  obtain ⟨L, al, ts, lr, lc, a, b, rl⟩ := x.ex
  unfold m_catalogue_Catalogue_Of
  refine w_box fun b1 h1 f1 c1 k1 => w_load (v := some ⟨p, 0, none⟩) (cells := cPtr) (at_box c1) (w_deref (w_load (a.keep k1).fRoots (w_lookup keyNi (a.keep k1).roots ?_)))
  cases hr : alook lr o with
  | none =>
    refine w_ifT rfl (no (fun i t ks hi e => ?_) h1 k1)
    obtain ⟨r, v, vs, hr', p', o', _⟩ := wf.rootOf hi
    have := (rl.roots o (r : Int)).2 ⟨r, v, vs, rfl, hr', o'.trans e, p'⟩
    rw [hr] at this; cases this
  | some r =>
    obtain ⟨n, t, ks, rfl, hn, ho, hp⟩ := (rl.roots o r).1 hr
    obtain ⟨l, bl⟩ := wf.ex hn
    have wl := wf.len
    have ll := bl.len
    refine w_ifF rfl (w_box fun b6 h2 f2 c2 k2 => w_makeMap (Value.int .i64) (Value.int .i64) fun m7 h3 f3 mp3 k3 => w_mapSet keyNi mp3 rfl rfl fun h4 mp4 e4 d4 => w_box fun b8 h5 f5 c5 k5 => w_setBox c5 rfl fun h6 c6 e6 d6 => ?_)
    have k03 : Keeps h h3 := (k1.trans k2).trans k3
    have k04 : Keeps h h4 := k03.but e4 fun c q => by subst q; exact (k1.trans k2).fresh f3
    have k24 : Keeps h2 h4 := k3.but e4 fun c q => by subst q; exact f3
    have k05 := k04.trans k5
    have k06 : Keeps h h6 := k05.but e6 fun c q => by subst q; exact k04.fresh f5
    have k46 : Keeps h4 h6 := k5.but e6 fun c q => by subst q; exact f5
    have k26 := k24.trans k46
    refine w_load (v := some ⟨p, 0, none⟩) (cells := cPtr) (at_box (k26 _ _ (k2 _ _ c1))) (w_deref (w_load (a.keep k06).fTree ?_))
    refine w_DownF a.tree k06 bl.pre bl.live (by omega) _ (fun _ _ _ => rfl)
      (fun E i h' => ∃ s A, (∀ c, E c ↔ c = b1 ∨ c = b6 ∨ c = b8 ∨ c = m7 ∨ s.foot c) ∧ h' b1 = some (.cells [Value.pointer (some ⟨p, 0, none⟩)].toArray 64 (0, 0)) ∧ h' b6 = some (.cells [Sl.val s].toArray 95 (0, 0)) ∧ h' b8 = some (.cells [Value.map (some m7)].toArray 216 (0, 0)) ∧ MapOf (Value.int .i64) (Value.int .i64) h' m7 A ∧ (∀ w, alook A w = if w = -1 then some (-1) else if w ∈ l.take i then some ((l.idxOf w : Nat) : Int) else none) ∧ Buf cTok 5 N_api_Token h' s ((l.take i).map (tokIn es l))) ?_ ?_ (G0 := fun c => c = b1 ∨ c = b6 ∨ c = b8 ∨ c = m7 ∨ Sl.nil.foot c)
      ⟨Sl.nil, _, fun _ => Iff.rfl, k26 _ _ (k2 _ _ c1), k26 _ _ c2, c6, mp4.keep k46, fun w => ?_, Buf.nil⟩ ?_ ?_ ?_
    · rintro E i h' ⟨s, A, hE, g1, g6, g8, gm, hA, bu⟩ c hc
      rcases (hE c).1 hc with rfl | rfl | rfl | rfl | q
      · rw [g1]; exact fun z => by cases z
      · rw [g6]; exact fun z => by cases z
      · rw [g8]; exact fun z => by cases z
      · obtain ⟨es', cl, e, _⟩ := gm.ex
        rw [e]; exact fun z => by cases z
      · exact bu.has q
    · rintro E i h' h'' E' ⟨s, A, hE, g1, g6, g8, gm, hA, bu⟩ bE nE
      exact ⟨s, A, hE, bE _ _ g1 fun q => nE _ q ((hE _).2 (.inl rfl)), bE _ _ g6 fun q => nE _ q ((hE _).2 (.inr (.inl rfl))), bE _ _ g8 fun q => nE _ q ((hE _).2 (.inr (.inr (.inl rfl)))), gm.but bE fun q => nE _ q ((hE _).2 (.inr (.inr (.inr (.inl rfl))))), hA, bu.but bE fun a ha q => nE _ q ((hE _).2 (.inr (.inr (.inr (.inr ⟨a, ha, rfl⟩)))))⟩
    · rw [alook_set]
      by_cases q : w = -1
      · rw [if_pos q, if_pos q]
      · rw [if_neg q, if_neg q, List.take_zero, if_neg (by simp)]; rfl
    · rintro c (rfl | rfl | rfl | rfl | ⟨_, q, _⟩)
      · exact f1
      · exact k1.fresh f2
      · exact k04.fresh f5
      · exact (k1.trans k2).fresh f3
      · cases q
    · -- a round
      rintro i z hz E h' kj ⟨s, A, hE, g1, g6, g8, gm, hA, bu⟩ kp fr next
      obtain ⟨z', u, us, e, hu⟩ := hasN_nds.1 (bl.live _ (List.mem_of_getElem? hz))
      obtain rfl : z = z' := by omega
      have hil := lt_of_get hz
      have a' := a.keep kp
      refine w_load (v := some ⟨p, 0, none⟩) (cells := cPtr) (at_box g1) (w_deref (w_load a'.fTok (w_get tok_len a'.tok.arr (rl.tok _ _ _ hu) rfl (v' := u) rfl ?_)))
      refine w_box fun b22 h7 f7 c7 k7 => w_setBox c7 rfl fun h8 c8 e8 d8 => ?_
      have k8 : Keeps h' h8 := k7.but e8 fun c q => by subst q; exact f7
      have c8 : h8 b22 = some (.cells (cTok u).toArray 98 (0, 0)) := c8
      refine w_load (v := some m7) (cells := cMap) (at_box (k8 _ _ g8)) (w_load (v := s) (cells := cSl) (at_box (k8 _ _ g6)) ?_)
      have ls := bu.len
      rw [List.length_map, List.length_take] at ls
      have e0 : (s.len : Int) = (i : Int) := by omega
      rw [e0]
      refine w_mapSet keyNi (gm.keep k8) rfl rfl fun h9 m9 e9 d9 => ?_
      have nm : ∀ {bb : Nat} {cs : Array Value} {e : TypeId}, h8 bb = some (.cells cs e (0, 0)) → ¬ bb = m7 := fun q r => (gm.keep k8).untyped (Typed.of q) r
      have g8' := e9 _ _ (k8 _ _ g8) (nm (k8 _ _ g8))
      have c8' := e9 _ _ c8 (nm c8)
      have g6' := e9 _ _ (k8 _ _ g6) (nm (k8 _ _ g6))
      refine w_load (v := some m7) (cells := cMap) (at_box g8') (w_load (v := u.Parent) (cells := cInt .i64) ?_ (w_lookup keyNi m9 ?_))
      · rw [pt_add]
        exact At.own (l1 := (cTok u).take 4) (l3 := []) c8' rfl
      have hp' : (alook (aset A (z : Int) (i : Int)) u.Parent).getD 0 = placeIn l u.Parent := by
        rw [alook_set]
        rcases bl.ahead wf hn hz hu with ⟨_, rfl⟩ | ⟨q1, q2⟩
        · rw [hp, if_neg (by omega), hA, if_pos rfl]; rfl
        · have hne : u.Parent ≠ -1 := by omega
          unfold placeIn
          rw [if_neg hne]
          split
          · rename_i e; rw [e, idx_of bl.nd hz]; rfl
          · rw [hA, if_neg hne, if_pos q2]; rfl
      rw [hp']
      refine w_store (b := b22) (i := 4) (l1 := (cTok u).take 4) (l2 := [Value.int .i64 u.Parent]) (l3 := []) (t := 98) (pt_add b22 4) c8' rfl rfl ?_
      generalize eh10 : upd h9 b22 _ = h10
      have c10 : h10 b22 = some (.cells (cTok ⟨u.Cap, u.Rights, placeIn l u.Parent⟩).toArray 98 (0, 0)) := by rw [← eh10]; exact upd_same _ _ _
      have e10 : But (· = b22) h9 h10 := eh10 ▸ .upd rfl
      have d10 : ∀ c, h10 c = none → h9 c = none := fun c q => by rw [← eh10] at q; exact (upd_none.1 q).2
      have n6 : ¬ b6 = b22 := (Typed.of g6').ne (Typed.of c8') (by decide)
      refine w_load (v := s) (cells := cSl) (at_box (e10 _ _ g6' n6)) (w_load (v := ⟨u.Cap, u.Rights, placeIn l u.Parent⟩) (cells := S_api_Token.cells) (at_box c10) ?_)
      refine w_box fun b30 h11 f11 c11 k11 => ?_
      have bu8 := bu.keep k8
      have bu9 := bu8.but e9 fun a ha q => (gm.keep k8).untyped (bu8.typed ⟨a, ha, rfl⟩) q
      have bu10 := bu9.but e10 fun a ha q => bu.has ⟨a, ha, rfl⟩ (by rw [q]; exact f7)
      refine w_append (by_ := 40) tok_len tok_plain rfl (bu10.keep k11) (Buf.one tok_len c11).arr (.inl ?_) fun s12 h12 bu12 e12 fo12 d12 => ?_
      · simp only [List.length_map, List.length_take, List.length_singleton]; omega
      -- what has been written since the round began
      have kA : But (fun c => c = m7) h' h9 := (But.of k8).trans e9 fun _ q => .inl q
      have kB : But (fun c => c = m7) h' h10 := kA.trans e10 fun c q => .inr (by rw [q]; exact f7)
      have kC : But (fun c => c = m7) h' h11 := kB.trans (.of k11 : But (fun c => c = m7) h10 h11) fun _ q => .inl q
      have kD : But (fun c => c = m7 ∨ s.foot c) h' h12 := (kC.mono fun _ q => .inl q).trans (e12.mono fun _ q => .inr q) fun _ q => .inl q
      have dD : ∀ c, h12 c = none → h' c = none := fun c q => k8.fresh (d9 c (d10 c (k11.fresh (d12 c q))))
      have nfoot : ∀ {bb : Nat} {e : TypeId} {cs : Array Value}, h' bb = some (.cells cs e (0, 0)) → e ≠ N_api_Token → ¬ s.foot bb := fun q ne f => (bu.typed f).ne (Typed.of q) (fun z => ne z.symm) rfl
      have nmm : ∀ {bb : Nat} {e : TypeId} {cs : Array Value}, h' bb = some (.cells cs e (0, 0)) → ¬ bb = m7 := fun q r => gm.untyped (Typed.of q) r
      have still : ∀ {bb : Nat} {e : TypeId} {cs : Array Value}, h' bb = some (.cells cs e (0, 0)) → e ≠ N_api_Token → h12 bb = some (.cells cs e (0, 0)) := fun q ne => kD _ _ q fun w => w.elim (nmm q) (nfoot q ne)
      have g6'' := still g6 (by decide)
      refine w_setBox g6'' rfl fun h13 c13 e13 d13 => ?_
      have kE : But (fun c => c = m7 ∨ s.foot c ∨ c = b6) h' h13 := (kD.mono fun _ q => q.imp id .inl).trans (e13.mono fun _ q => .inr (.inr q)) fun _ q => .inl q
      have fo : ∀ c, s12.foot c → s.foot c ∨ h' c = none := fun c q => (fo12 c q).imp id fun w => k8.fresh (d9 c (d10 c (k11.fresh w)))
      have n16 : b1 ≠ b6 := (Typed.of g1).ne (Typed.of g6) (by decide)
      have n86 : b8 ≠ b6 := (Typed.of g8).ne (Typed.of g6) (by decide)
      refine next (fun c => c = b1 ∨ c = b6 ∨ c = b8 ∨ c = m7 ∨ s12.foot c) h13 ⟨s12, aset A (z : Int) (i : Int), fun _ => Iff.rfl, kE _ _ g1 ?_, c13, kE _ _ g8 ?_, ?_, fun w => ?_, ?_⟩ ⟨kE.mono fun c q => (hE c).2 ?_, fun c q => ?_, fun c q => dD c (d13 c q)⟩
      · rintro (q | q | q)
        · exact nmm g1 q
        · exact nfoot g1 (by decide) q
        · exact n16 q
      · rintro (q | q | q)
        · exact nmm g8 q
        · exact nfoot g8 (by decide) q
        · exact n86 q
      · have q10 := m9.but e10 fun q => by rw [q] at gm; obtain ⟨es', cl, e, _⟩ := gm.ex; rw [f7] at e; cases e
        have q12 := (q10.keep k11).but e12 fun q => gm.untyped (bu.typed q) rfl
        exact q12.but e13 fun q => q12.untyped (Typed.of g6'') q.symm
      · rw [alook_set, hA]
        have ht : l.take (i + 1) = l.take i ++ [(z : Int)] := by rw [List.take_add_one, hz]; rfl
        by_cases q : w = (z : Int)
        · subst q
          rw [if_pos rfl, if_neg (by omega), ht, if_pos (by simp), idx_of bl.nd hz]
        · rw [if_neg q, ht]
          simp only [List.mem_append, List.mem_singleton, q, or_false]
      · have := bu12.but e13 fun a ha q => (bu12.typed ⟨a, ha, rfl⟩).ne (Typed.of g6'') (by decide) q
        have e1 : (l.take (i + 1)).map (tokIn es l) = (l.take i).map (tokIn es l) ++ [⟨u.Cap, u.Rights, placeIn l u.Parent⟩] := by
          rw [List.take_add_one, hz, List.map_append, ← tokIn_has hu]; rfl
        rw [e1]; exact this
      · rcases q with q | q | q
        · exact .inr (.inr (.inr (.inl q)))
        · exact .inr (.inr (.inr (.inr q)))
        · exact .inr (.inl q)
      · rcases q with q | q | q | q | q
        · exact .inl ((hE c).2 (.inl q))
        · exact .inl ((hE c).2 (.inr (.inl q)))
        · exact .inl ((hE c).2 (.inr (.inr (.inl q))))
        · exact .inl ((hE c).2 (.inr (.inr (.inr (.inl q)))))
        · exact (fo c q).imp (fun w => (hE c).2 (.inr (.inr (.inr (.inr w))))) id
    · rintro E h7 ⟨s, A, hE, g1, g6, g8, gm, hA, bu⟩ k07 fr
      rw [List.take_length] at bu
      refine w_ifT rfl (w_load (v := s) (cells := cSl) (at_box g6) ?_)
      exact y n t ks l hn ho hp bl s h7 bu k07 fun c q => fr c ((hE c).2 (.inr (.inr (.inr (.inr q)))))
end
end Go.Proofs.Ytiajjcboddaenaa.K
