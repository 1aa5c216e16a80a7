/- Forests in memory: made, cut, told. -/
import Derived.Test.YtiajjcboddaenaaCa3
namespace Go.Proofs.Ytiajjcboddaenaa.K
open Go
section
variable {h : H} {p : Nat} {s : Sl} {F : Nat → Prop} {vs : List S_kin_node} {ns : List Nd}
/-- A node's children lie elsewhere now. -/
theorem TreeAt.setKids (x : TreeAt h p s vs ns) {q : Nat} {v : S_kin_node} {d : Nd} (hv : vs[q]? = some v) (hd : ns[q]? = some d) {h3 : H} {s3 : Sl} {ks : List Int} (b3 : But v.xchildren.foot h h3) (d3 : ∀ c, h3 c = none → h c = none) (bu3 : Buf (cInt .i64) 1 N_int h3 s3 ks) (f3 : ∀ c, s3.foot c → v.xchildren.foot c ∨ h c = none)
    {a : Addr} (ia : isIdx s (q : Int) 3 a) {k : H → Prop} (y : ∀ h4, TreeAt h4 p s (vs.set q ⟨v.xthere, v.xparent, s3⟩) (ns.set q ⟨d.there, d.parent, ks⟩) → But (fun c => v.xchildren.foot c ∨ s.foot c) h h4 → (∀ c, h4 c = none → h c = none) → k h4) : mStore (a.add 2) [Sl.val s3] k h3 := by
  obtain ⟨e1, e2, bk⟩ := x.nd q v d hv hd
  have nS : ∀ c, v.xchildren.foot c → ¬ s.foot c := fun c f g => (x.buf.typed g).ne (x.kidT hv f) (by decide) rfl
  have buS : Buf S_kin_node.cells 3 N_kin_node h3 s vs := x.buf.but b3 fun z hz f => nS _ f ⟨z, hz, rfl⟩
  refine w_set kn_len buS hv ia (v' := ⟨v.xthere, v.xparent, s3⟩) (c1 := (S_kin_node.cells v).take 2) (c2 := [Sl.val v.xchildren]) (c3 := []) (by rfl) (by rfl) (by rfl) (by rfl) fun h4 b4 k4 d4 => ?_
  have k24 : But (fun c => v.xchildren.foot c ∨ s.foot c) h h4 := (b3.mono fun _ f => .inl f).trans (k4.mono fun _ f => .inr f) fun _ f => .inl f
  have bu4 : Buf (cInt .i64) 1 N_int h4 s3 ks := bu3.but k4 fun z hz f => (bu3.typed ⟨z, hz, rfl⟩).ne (buS.typed f) (by decide) rfl
  have lq : q < vs.length := lt_of_get hv
  refine y h4 ⟨k24 _ _ x.cell fun f => f.elim (fun f => (x.kidT hv f).ne (Typed.of x.cell) (by decide) rfl) x.apartP, b4, by simp only [List.length_set]; exact x.len, by rw [List.length_set]; exact x.big, fun j w m ew em => ?_, fun i j w u ew eu hij c fw fu => ?_⟩ k24 fun c e => d3 c (d4 c e)
  · rw [List.getElem?_set] at ew em
    by_cases z : q = j
    · rw [if_pos z, if_pos lq] at ew
      rw [if_pos z, if_pos (lt_of_get hd)] at em
      cases ew; cases em
      exact ⟨e1, e2, bu4⟩
    · rw [if_neg z] at ew em
      obtain ⟨p1, p2, p3⟩ := x.nd j w m ew em
      exact ⟨p1, p2, p3.but k24 fun z' hz f => f.elim (fun f => x.apart q j v w hv ew z _ f ⟨z', hz, rfl⟩) fun f => (p3.typed ⟨z', hz, rfl⟩).ne (x.buf.typed f) (by decide) rfl⟩
  · rw [List.getElem?_set] at ew eu
    have old : ∀ {i : Nat} {w : S_kin_node}, vs[i]? = some w → q ≠ i → ∀ c, s3.foot c → ¬ w.xchildren.foot c := fun {i w} ew z c f g => by
      rcases f3 c f with r | r
      · exact x.apart q i v w hv ew z c r g
      · exact (x.kidT ew g).has r
    by_cases z1 : q = i
    · rw [if_pos z1, if_pos lq] at ew
      cases ew
      have z2 : q ≠ j := fun r => hij (z1.symm.trans r)
      rw [if_neg z2] at eu
      exact old eu z2 c fw fu
    · rw [if_neg z1] at ew
      by_cases z2 : q = j
      · rw [if_pos z2, if_pos lq] at eu
        cases eu
        exact old ew z1 c fu fw
      · rw [if_neg z2] at eu
        exact x.apart i j w u ew eu hij c fw fu
theorem t_KNew {n : Nat} (hn : n ≤ 256) {K : Option Addr × Int → H → Prop} (y : ∀ p s F h', Tree h' p s F (List.replicate n nd0) → Keeps h h' → (∀ c, F c → h c = none) → K (some ⟨p, 0, none⟩, 0) h') : m_kin_New (n : Int) K h := by
  unfold m_kin_New
  refine w_ifF (by simp; omega) (w_make kn_len ⟨false, 0, Sl.nil⟩ rfl rfl rfl (by omega) (by omega) fun s h1 bu k1 f1 _ => w_new fun p fp => ?_)
  refine y p s _ _ ⟨List.replicate n ⟨false, 0, Sl.nil⟩, ⟨upd_same _ _ _, bu.keep (.new fp), by simp, by rw [List.length_replicate]; exact hn, fun i v m e1 e2 => ?_, fun i j v w e1 _ _ c f => ?_⟩, fun c => Iff.rfl⟩ (k1.trans (.new fp)) fun c f => ?_
  · obtain rfl := List.eq_of_mem_replicate (List.mem_of_getElem? e1)
    obtain rfl := List.eq_of_mem_replicate (List.mem_of_getElem? e2)
    exact ⟨rfl, rfl, Buf.nil⟩
  · obtain rfl := List.eq_of_mem_replicate (List.mem_of_getElem? e1)
    obtain ⟨a, ha, _⟩ := f; cases ha
  · rcases f with rfl | f | ⟨v, hv, f⟩
    · exact k1.fresh fp
    · exact f1 c f
    · obtain rfl := List.eq_of_mem_replicate hv
      obtain ⟨a, ha, _⟩ := f; cases ha
theorem t_Kids (x : Tree h p s F ns) {i : Nat} {d : Nd} (hd : ns[i]? = some d) (ht : d.there = true) (hk : d.kids.length ≤ 2 ^ 40) {K : Sl → H → Prop} (y : ∀ s' h', Buf (cInt .i64) 1 N_int h' s' d.kids → Keeps h h' → (∀ c, s'.foot c → h c = none) → K s' h') : m_kin_Tree_Children (some ⟨p, 0, none⟩) (i : Int) K h := by
  obtain ⟨vs, a, b⟩ := x.ex
  unfold m_kin_Tree_Children
  refine t_HasA a ?_
  rw [show hasN ns (i : Int) = true from hasN_iff.2 ⟨d, hd, ht⟩]
  obtain ⟨v, hv⟩ : ∃ v, vs[i]? = some v := ⟨_, List.getElem?_eq_getElem (by have := a.len; have := lt_of_get hd; omega)⟩
  obtain ⟨e1, e2, bk⟩ := a.nd i v d hv hd
  refine w_ifF rfl (t_at a hv fun ad ia ha => w_deref (w_load (v := v.xchildren) (cells := cSl) (At.sub (l1 := (S_kin_node.cells v).take 2) (l3 := []) ha rfl) ?_))
  exact w_clone ci_len ci_plain rfl bk.arr (by omega) y
end
theorem erase_idx (m : Int) : ∀ l : List Int, l.eraseIdx (l.idxOf m) = l.erase m := by
  intro l
  induction l with
  | nil => rfl
  | cons a r ih =>
    rw [List.idxOf_cons, List.erase_cons]
    by_cases e : a = m
    · subst e; simp
    · have : (a == m) = false := by simpa using e
      simp [this, ih]
def cutN (ns : List Nd) (m : Nat) : List Nd := match ns[m]? with
  | none => ns
  | some d => if d.parent < 0 then ns.set m nd0 else match ns[d.parent.toNat]? with
    | none => ns
    | some dq => (ns.set d.parent.toNat ⟨dq.there, dq.parent, dq.kids.erase (m : Int)⟩).set m nd0
section
variable {h : H} {p : Nat} {s : Sl} {F : Nat → Prop} {vs : List S_kin_node} {ns : List Nd}
theorem t_KCut (x : Tree h p s F ns) {m : Nat} {d : Nd} (hd : ns[m]? = some d) (ht : d.there = true) (h0 : d.kids = []) (hq : 0 ≤ d.parent → d.parent.toNat ≠ m ∧ ∃ dq, ns[d.parent.toNat]? = some dq ∧ (m : Int) ∈ dq.kids ∧ dq.kids.length ≤ 256)
    {K : Int → H → Prop} (y : ∀ h' F', Tree h' p s F' (cutN ns m) → KChg F F' h h' → K 0 h') : m_kin_Tree_Cut (some ⟨p, 0, none⟩) (m : Int) K h := by
  obtain ⟨vs, a, b⟩ := x.ex
  unfold m_kin_Tree_Cut
  refine t_HasA a ?_
  rw [show hasN ns (m : Int) = true from hasN_iff.2 ⟨d, hd, ht⟩]
  obtain ⟨v, hv⟩ : ∃ v, vs[m]? = some v := ⟨_, List.getElem?_eq_getElem (by have := a.len; have := lt_of_get hd; omega)⟩
  obtain ⟨e1, e2, bk⟩ := a.nd m v d hv hd
  refine w_ifF rfl (cv_at a hv fun ad ia ha => w_deref (w_load (v := v.xchildren) (cells := cSl) (At.sub (l1 := (S_kin_node.cells v).take 2) (l3 := []) ha rfl) ?_))
  have hl0 : v.xchildren.len = 0 := by have := bk.len; rw [h0] at this; exact this
  refine w_ifF (by rw [hl0]; rfl) ?_
  -- what stands behind the parent's change
  refine w_joinP (fun _ h1 => ∃ vs1 ns1, TreeAt h1 p s vs1 ns1 ∧ vs1[m]? = some v ∧ ns1.set m nd0 = cutN ns m ∧ But F h h1 ∧ (∀ c, TFoot p s vs1 c → F c) ∧ ∀ c, h1 c = none → h c = none) (fun j hj => ?_) ?_
  · refine cv_at a hv fun ad1 ia1' ha1 => w_deref (w_load (v := v.xparent) (cells := cInt .i64) (At.sub (l1 := (S_kin_node.cells v).take 1) (l3 := (S_kin_node.cells v).drop 2) ha1 rfl) (w_if' (fun c => ?_) fun c => ?_))
    · have c : 0 ≤ d.parent := by rw [← e2]; exact c
      obtain ⟨hne, dq, hdq, hmem, hlen⟩ := hq c
      clear hq
      generalize hqd : d.parent.toNat = q at *
      have ep : v.xparent = (q : Int) := by rw [e2]; omega
      rw [ep]
      obtain ⟨vq, hvq⟩ : ∃ vq, vs[q]? = some vq := ⟨_, List.getElem?_eq_getElem (by have := a.len; have := lt_of_get hdq; omega)⟩
      obtain ⟨g1, g2, bq⟩ := a.nd q vq dq hvq hdq
      refine cv_at a hvq fun aq iq haq => w_deref ?_
      have lkid : At h (aq.add 2) (cSl vq.xchildren) := At.sub (l1 := (S_kin_node.cells vq).take 2) (l3 := []) haq rfl
      refine w_load lkid ?_
      unfold m_slices_Index_int_int
      refine w_index bq.arr (by omega) hmem (w_deref (w_load lkid ?_))
      unfold m_slices_Delete_int_int
      have hix := List.idxOf_lt_length_of_mem hmem
      refine w_delete (by_ := 8) (k := fun r18 => mDeref (some aq) fun ad19 => mStore (ad19.add 2) [Sl.val r18] (j ())) ci_len ci_plain 0 rfl bq hix (by omega) rfl ?_ ?_
      · rw [iAdd_eq (by omega) (by omega)]; omega
      intro s3 h3 bu3 f3 b3 d3
      refine w_deref ?_
      rw [erase_idx] at bu3
      refine a.setKids hvq hdq b3 d3 bu3 (fun c f => .inl (f3 c f)) iq fun h4 x4 b4 d4 => ?_
      refine hj _ _ ⟨_, _, x4, by rw [List.getElem?_set, if_neg hne]; exact hv, ?_, b4.mono fun c f => (b c).2 (f.elim (fun f => .inr (.inr ⟨vq, List.mem_of_getElem? hvq, f⟩)) fun f => .inr (.inl f)), fun c f => (b c).2 ?_, d4⟩
      · unfold cutN
        rw [hd]
        simp only
        rw [if_neg (by omega), hqd, hdq]
      · rcases f with f | f | ⟨w, hw, f⟩
        · exact .inl f
        · exact .inr (.inl f)
        · rcases List.mem_or_eq_of_mem_set hw with r | r
          · exact .inr (.inr ⟨w, r, f⟩)
          · subst r; exact .inr (.inr ⟨vq, List.mem_of_getElem? hvq, f3 c f⟩)
    · have c : ¬ 0 ≤ d.parent := by rw [← e2]; exact c
      refine hj _ _ ⟨vs, ns, a, hv, ?_, .refl _ _, fun c f => (b c).2 f, fun _ e => e⟩
      unfold cutN
      rw [hd]
      simp only
      rw [if_pos (by omega)]
  · rintro _ h1 ⟨vs1, ns1, x1, hv1, en, bt1, fo1, dm1⟩
    refine cv_at x1 hv1 fun ad1 ia1' ha1 => w_deref ?_
    refine w_set kn_len x1.buf hv1 ia1' (v' := ⟨false, 0, Sl.nil⟩) (c1 := []) (c2 := S_kin_node.cells v) (c3 := []) (by simp) (by rfl) (by rfl) (add_zero ad1).symm fun h2 b2 k2 d2 => ?_
    have x2 := x1.node (n' := nd0) hv1 b2 k2 Buf.nil ⟨rfl, rfl⟩ (fun c ⟨z, hz, _⟩ => by cases hz) _ rfl
    rw [en] at x2
    refine y h2 _ ⟨_, x2, fun c => Iff.rfl⟩ ⟨bt1.trans k2 fun c f => .inl (fo1 c (.inr (.inl f))), fun c f => .inl (fo1 c ?_), fun c e => dm1 c (d2 c e)⟩
    rcases f with f | f | ⟨w, hw, f⟩
    · exact .inl f
    · exact .inr (.inl f)
    · rcases List.mem_or_eq_of_mem_set hw with r | r
      · exact .inr (.inr ⟨w, r, f⟩)
      · subst r; obtain ⟨z, hz, _⟩ := f; cases hz
end
end Go.Proofs.Ytiajjcboddaenaa.K
