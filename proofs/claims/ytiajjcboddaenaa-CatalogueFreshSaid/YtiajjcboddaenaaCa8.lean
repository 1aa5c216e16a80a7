/- Catalogues: made, dropped. -/
import Derived.Test.YtiajjcboddaenaaCa7
namespace Go.Proofs.Ytiajjcboddaenaa.K
open Go
section
variable {h : H}
theorem w_box {t : TypeId} {c : Array Value} {k : Addr → H → Prop} (y : ∀ b h', h b = none → h' b = some (.cells c t (0, 0)) → Keeps h h' → k ⟨b, 0, none⟩ h') : mNew t c k h := w_new fun b hb => y b _ hb (upd_same _ _ _) (.new hb)
theorem w_setBox {b : Nat} {old new : List Value} {t : TypeId} {k : H → Prop} (e : h b = some (.cells old.toArray t (0, 0))) (hn : new.length = old.length) (y : ∀ h', h' b = some (.cells new.toArray t (0, 0)) → But (· = b) h h' → (∀ c, h' c = none → h c = none) → k h') : mStore ⟨b, 0, none⟩ new k h :=
  w_store (l1 := []) (l2 := old) (l3 := []) rfl (by rw [List.nil_append, List.append_nil]; exact e) rfl hn (by rw [List.nil_append, List.append_nil]; exact y _ (upd_same _ _ _) (.upd rfl) fun c q => (upd_none.1 q).2)
theorem at_box {b : Nat} {cs : List Value} {t : TypeId} {fz : Nat × Nat} (e : h b = some (.cells cs.toArray t fz)) : At h ⟨b, 0, none⟩ cs := At.own (l1 := []) (l3 := []) (by rw [List.nil_append, List.append_nil]; exact e) rfl
theorem Buf.one {T : Type} {cells : T → List Value} {sz : Nat} {e : TypeId} (hs : ∀ x, (cells x).length = sz) {b : Nat} {x : T} (q : h b = some (.cells (cells x).toArray e (0, 0))) : Buf cells sz e h ⟨some ⟨b, 0, none⟩, 1, 1⟩ [x] := by
  have e1 : flat cells [x] ++ [] = cells x := by simp [flat]
  exact ⟨rfl, Nat.le_refl _, .inr ⟨b, [], (0, 0), rfl, by rw [e1]; exact q, by rw [e1, hs]; simp, thawed0 _⟩⟩
end
theorem Keeps.of_butF {h h1 h2 : H} (k : Keeps h h1) {E : Nat → Prop} (b : But E h1 h2) (f : ∀ c, E c → h c = none) : Keeps h h2 := k.but b f
/-- A range over the nodes below one, with rounds that write blocks of their own alone. -/
theorem w_DownF {h0 h : H} {p : Nat} {s : Sl} {F : Nat → Prop} {ns : List Nd} (x : Tree h0 p s F ns) (kp : Keeps h0 h) {n : Nat} {l : List Int} (hl : PreL (chN ns) [(n : Int)] l) (live : LiveL ns l) (len : l.length ≤ 4096)
    {body : Int → ((H → Prop) → H → Prop) → (Nat → H → Prop) → H → Prop} {k : Nat → H → Prop} (b : Int → (Nat → H → Prop) → H → Prop) (hb : ∀ x mid kj, body x mid kj = mid (b x kj))
    (R : (Nat → Prop) → Nat → H → Prop) (has : ∀ G i h, R G i h → ∀ c, G c → h c ≠ none) (stab : ∀ G i h h' E, R G i h → But E h h' → (∀ c, E c → ¬ G c) → R G i h') {G0 : Nat → Prop} (r0 : R G0 0 h) (g0 : ∀ c, G0 c → h0 c = none)
    (step : ∀ (i : Nat) (z : Nat), l[i]? = some (z : Int) → ∀ G h' kj, R G i h' → Keeps h0 h' → (∀ c, G c → h0 c = none) → (∀ G' h'', R G' (i + 1) h'' → KChg G G' h' h'' → kj 0 h'') → b (z : Int) kj h')
    (y : ∀ G h', R G l.length h' → Keeps h0 h' → (∀ c, G c → h0 c = none) → k 0 h') :
    m_walk_Down (some ⟨p, 0, none⟩) (n : Int) (fun r => mRangeF (A := Int) Try.prog (fun x => [(Value.int .i64 x)]) r.1 body k) h := by
  refine w_Down (x.keep kp) hl live len b hb (fun D i h' => ∃ G, R G i h' ∧ Keeps h0 h' ∧ (∀ c, G c → h0 c = none) ∧ ∀ c, D c ↔ G c ∨ h0 c ≠ none) ?_ ?_ (G0 := fun c => G0 c ∨ h0 c ≠ none) ⟨G0, r0, kp, g0, fun _ => Iff.rfl⟩ ?_ ?_
  · rintro D i h' ⟨G, r, k', g, d⟩ c hc
    rcases (d c).1 hc with q | q
    · exact has _ _ _ r c q
    · intro e; exact q (k'.fresh e)
  · rintro D i h' h'' E ⟨G, r, k', g, d⟩ bE nE
    refine ⟨G, stab _ _ _ _ _ r bE (fun c q w => nE c q ((d c).2 (.inl w))), fun c o q => bE c o (k' c o q) fun w => nE c w ((d c).2 (.inr (by rw [q]; exact fun z => by cases z))), g, d⟩
  · rintro i z hz D h' kj ⟨G, r, k', g, d⟩ next
    refine step i z hz G h' kj r k' g fun G' h'' r' c' => ?_
    have g' : ∀ c, G' c → h0 c = none := fun c q => (c'.foot c q).elim (g c) fun e => k'.fresh e
    refine next (fun c => G' c ∨ h0 c ≠ none) h'' ⟨G', r', k'.but c'.but g, g', fun _ => Iff.rfl⟩ ⟨c'.but.mono fun c q => (d c).2 (.inl q), fun c q => ?_, c'.dom⟩
    rcases q with q | q
    · exact (c'.foot c q).imp (fun w => (d c).2 (.inl w)) id
    · exact .inl ((d c).2 (.inr q))
  · rintro D h' ⟨G, r, k', g, d⟩ _
    exact y G h' r k' g
/-! A new catalogue. -/
structure NewSt (h : H) (t u : Option Sl) (ms : List Nat) (n : Nat) (h' : H) : Prop where
  keep : Keeps h h'
  tok : ∀ s, t = some s → Buf cTok 5 N_api_Token h' s (List.replicate n tok0) ∧ ∀ c, s.foot c → h c = none
  use : ∀ s, u = some s → Buf cBool 1 4 h' s (List.replicate n false) ∧ ∀ c, s.foot c → h c = none
  maps : ∀ m, m ∈ ms → MapOf (Value.int .i64) (Value.int .i64) h' m ([] : List (Int × Int)) ∧ h m = none
  nd : ms.Nodup
theorem NewSt.more {h h' h'' : H} {t u : Option Sl} {ms : List Nat} {n : Nat} (x : NewSt h t u ms n h') (k : Keeps h' h'') : NewSt h t u ms n h'' :=
  ⟨x.keep.trans k, fun s e => ⟨(x.tok s e).1.keep k, (x.tok s e).2⟩, fun s e => ⟨(x.use s e).1.keep k, (x.use s e).2⟩, fun m e => ⟨(x.maps m e).1.keep k, (x.maps m e).2⟩, x.nd⟩
theorem NewSt.doTok {h h' : H} {u : Option Sl} {ms : List Nat} {n : Nat} (x : NewSt h none u ms n h') (hn : n ≤ 256) {k : Sl → H → Prop} (y : ∀ s h'', NewSt h (some s) u ms n h'' → k s h'') : mMake 98 40 #[(Value.int .i64 0), (Value.int .u64 0), (Value.int .u64 0), (Value.int .i64 0), (Value.int .i64 0)] (n : Int) (n : Int) k h' := by
  refine w_make tok_len tok0 rfl rfl rfl (by omega) (by omega) fun s h2 bu k2 f2 _ => y s h2 ?_
  have z := x.more k2
  exact ⟨z.keep, fun s' e => by cases e; exact ⟨bu, fun c f => x.keep.fresh (f2 c f)⟩, z.use, z.maps, z.nd⟩
theorem NewSt.doUse {h h' : H} {t : Option Sl} {ms : List Nat} {n : Nat} (x : NewSt h t none ms n h') (hn : n ≤ 256) {k : Sl → H → Prop} (y : ∀ s h'', NewSt h t (some s) ms n h'' → k s h'') : mMake 4 1 #[(Value.bool false)] (n : Int) (n : Int) k h' := by
  refine w_make cb_len false rfl rfl rfl (by omega) (by omega) fun s h2 bu k2 f2 _ => y s h2 ?_
  have z := x.more k2
  exact ⟨z.keep, z.tok, fun s' e => by cases e; exact ⟨bu, fun c f => x.keep.fresh (f2 c f)⟩, z.maps, z.nd⟩
theorem NewSt.doMap {h h' : H} {t u : Option Sl} {ms : List Nat} {n : Nat} (x : NewSt h t u ms n h') {k : Option Nat → H → Prop} (y : ∀ m h'', NewSt h t u (m :: ms) n h'' → k (some m) h'') : mMakeMap k h' := by
  refine w_makeMap (Value.int .i64) (Value.int .i64) fun b h2 f2 mp k2 => y b h2 ?_
  have z := x.more k2
  refine ⟨z.keep, z.tok, z.use, fun m e => ?_, List.nodup_cons.2 ⟨fun e => ?_, x.nd⟩⟩
  · rcases List.mem_cons.1 e with q | q
    · subst q; exact ⟨mp, x.keep.fresh f2⟩
    · exact z.maps m q
  · obtain ⟨es, cl, q, _⟩ := (x.maps b e).1.ex
    rw [f2] at q; cases q
theorem cnt_none (n : Nat) (o : Int) : cnt (List.replicate n none) o = 0 := by
  cases e : cnt (List.replicate n none) o with
  | zero => rfl
  | succ k =>
    obtain ⟨i, t, ks, hi, _⟩ := cnt_pos.1 (by omega : 0 < cnt (List.replicate n none) o)
    have := List.eq_of_mem_replicate (List.mem_of_getElem? hi)
    cases this
theorem capsG_none : ∀ (n k : Nat), capsG k (List.replicate n none) = [] := by
  intro n
  induction n with
  | zero => exact fun _ => rfl
  | succ n ih => intro k; rw [List.replicate_succ, capsG, ih]
theorem t_CNew {h : H} {a0 a1 : Int} {K : Option Addr × Int → H → Prop} (bad : (a0 < 1 ∨ 256 < a0 ∨ a1 < 0 ∨ 64 < a1) → K (none, 16) h)
    (good : 0 ≤ a1 → a1 ≤ 64 → ∀ n : Nat, a0 = n → 1 ≤ n → n ≤ 256 → ∀ p G h', Cat h' p a1 G (List.replicate n none) → Keeps h h' → (∀ c, G c → h c = none) → K (some ⟨p, 0, none⟩, 0) h') : m_catalogue_New a0 a1 K h := by
  unfold m_catalogue_New
  refine w_if (fun c => bad ?_) fun c => ?_
  · simp only [Bool.or_eq_true, decide_eq_true_eq] at c; omega
  simp only [Bool.or_eq_false_iff, decide_eq_false_iff_not] at c
  obtain ⟨n, rfl⟩ : ∃ n : Nat, a0 = n := ⟨a0.toNat, by omega⟩
  refine t_TNew (fun q => by omega) fun _ _ _ _ tp ts h1 t1 k1 f1 f1' => w_ifF rfl ?_
  refine t_KNew (by omega) fun kp ks F h2 t2 k2 f2 => w_ifF rfl ?_
  have s0 : NewSt h2 none none [] n h2 := ⟨.refl _, fun s e => (by cases e), fun s e => (by cases e), fun m e => (by cases e), List.nodup_nil⟩
  refine w_joinP (fun s3 h' => ∃ tk us m1 m2, s3 = (tk, us, some m1, some m2) ∧ NewSt h2 (some tk) (some us) [m1, m2] n h') (fun j hj => ?_) ?_
  · have fin1 : ∀ {tk us m1 m2 h'}, NewSt h2 (some tk) (some us) [m1, m2] n h' → j (tk, us, some m1, some m2) h' := fun z => hj _ _ ⟨_, _, _, _, rfl, z⟩
    have fin2 : ∀ {tk us m1 m2 h'}, NewSt h2 (some tk) (some us) [m2, m1] n h' → j (tk, us, some m1, some m2) h' := fun z => hj _ _ ⟨_, _, _, _, rfl, z.keep, z.tok, z.use, fun m e => z.maps m (by simp only [List.mem_cons, List.not_mem_nil, or_false] at e ⊢; exact e.symm), (List.Perm.swap _ _ []).nodup_iff.1 z.nd⟩
    have hn : n ≤ 256 := by omega
    repeat' first
      | refine w_both ?_ ?_
      | refine NewSt.doTok (by assumption) hn fun _ _ _ => ?_
      | refine NewSt.doUse (by assumption) hn fun _ _ _ => ?_
      | refine NewSt.doMap (by assumption) fun _ _ _ => ?_
      | exact fin1 (by assumption)
      | exact fin2 (by assumption)
  · rintro s3 h3 ⟨tk, us, m1, m2, rfl, z⟩
    refine w_box fun p h4 f4 c4 k4 => ?_
    obtain ⟨bt, ft⟩ := z.tok _ rfl
    obtain ⟨bu, fu⟩ := z.use _ rfl
    obtain ⟨mp1, fm1⟩ := z.maps m1 (by simp)
    obtain ⟨mp2, fm2⟩ := z.maps m2 (by simp)
    have hne : m1 ≠ m2 := by have := z.nd; simpa using this
    have k02 := k1.trans k2
    refine good (by omega) (by omega) n rfl (by omega) (by omega) p (CFoot p ⟨tp, ts, kp, ks, F, tk, us, m1, m2⟩) h4 ⟨⟨⟨tp, ts, kp, ks, F, tk, us, m1, m2⟩, [], List.replicate n tok0, [], [], ⟨c4, ?_, ?_, bt.keep k4, ?_, mp1.keep k4, mp2.keep k4, hne⟩, fun _ => Iff.rfl, ?_⟩, CWF.empty (by omega) (by omega)⟩ ((k02.trans z.keep).trans k4) fun c f => ?_
    · have := ((t1.keep k2).keep z.keep).keep k4
      rw [List.length_replicate]
      exact this
    · have := (t2.keep z.keep).keep k4
      unfold nds
      rw [List.map_replicate]
      exact this
    · rw [List.map_replicate]; exact bu.keep k4
    · have no : ∀ {i t ks}, ¬ Has (List.replicate n none) i t ks := fun h => by
        have := List.eq_of_mem_replicate (List.mem_of_getElem? h)
        cases this
      refine ⟨by rw [List.length_replicate, List.length_replicate], fun i t ks h => (no h).elim, by rw [capsG_none], List.nodup_nil, fun o => by rw [cnt_none]; rfl, List.nodup_nil, fun o r => ⟨fun h => (by cases h), fun ⟨i, t, ks, _, h, _⟩ => (no h).elim⟩⟩
    · obtain ⟨i, hi, hc⟩ := f
      match i, hi, hc with
      | 0, _, hc => cases hc; exact k02.fresh (z.keep.fresh f4)
      | 1, _, hc =>
        rcases hc with q | q
        · cases q; exact f1
        · exact f1' c q
      | 2, _, hc => exact k1.fresh (f2 c hc)
      | 3, _, hc => exact k02.fresh (ft c hc)
      | 4, _, hc => exact k02.fresh (fu c hc)
      | 5, _, hc => cases hc; exact k02.fresh fm1
      | 6, _, hc => cases hc; exact k02.fresh fm2
end Go.Proofs.Ytiajjcboddaenaa.K
