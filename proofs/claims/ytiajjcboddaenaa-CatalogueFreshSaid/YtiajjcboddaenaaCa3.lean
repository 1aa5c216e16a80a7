/- Forests in memory: nodes, parents, children. -/
import Derived.Test.YtiajjcboddaenaaCa2
import Derived.Test.YtiajjcboddaenaaSl1
import Derived.Test.YtiajjcboddaenaaCl
import Derived.Test.YtiajjcboddaenaaFkin
namespace Go.Proofs.Ytiajjcboddaenaa.K
open Go
structure Nd where
  there : Bool
  parent : Int
  kids : List Int
def nd0 : Nd := ⟨false, 0, []⟩
theorem kn_len : ∀ x, (S_kin_node.cells x).length = 3 := fun _ => rfl
theorem kn_plain : ∀ x, (S_kin_node.cells x).all plainVal = true := fun _ => rfl
structure TreeAt (h : H) (p : Nat) (s : Sl) (vs : List S_kin_node) (ns : List Nd) : Prop where
  cell : h p = some (.cells (S_kin_Tree.cells ⟨s⟩).toArray N_kin_Tree (0, 0))
  buf : Buf S_kin_node.cells 3 N_kin_node h s vs
  len : vs.length = ns.length
  big : ns.length ≤ 256
  nd : ∀ (i : Nat) v n, vs[i]? = some v → ns[i]? = some n → v.xthere = n.there ∧ v.xparent = n.parent ∧ Buf (cInt .i64) 1 N_int h v.xchildren n.kids
  apart : ∀ (i j : Nat) v w, vs[i]? = some v → vs[j]? = some w → i ≠ j → ∀ c, v.xchildren.foot c → ¬ w.xchildren.foot c
def TFoot (p : Nat) (s : Sl) (vs : List S_kin_node) (c : Nat) : Prop := c = p ∨ s.foot c ∨ ∃ v ∈ vs, v.xchildren.foot c
/-- A forest; 'F' are its blocks. -/
structure Tree (h : H) (p : Nat) (s : Sl) (F : Nat → Prop) (ns : List Nd) : Prop where
  ex : ∃ vs, TreeAt h p s vs ns ∧ ∀ c, F c ↔ TFoot p s vs c
def hasN (ns : List Nd) (i : Int) : Bool := decide (0 ≤ i) && ((ns[i.toNat]?.map Nd.there).getD false)
theorem hasN_iff {ns : List Nd} {i : Nat} : hasN ns (i : Int) = true ↔ ∃ n, ns[i]? = some n ∧ n.there = true := by
  unfold hasN
  rw [decide_eq_true (by omega : (0 : Int) ≤ (i : Int)), Bool.true_and, Int.toNat_natCast]
  cases ns[i]? with
  | none => simp
  | some n => simp
section
variable {h : H} {p : Nat} {s : Sl} {F : Nat → Prop} {vs : List S_kin_node} {ns : List Nd}
theorem TreeAt.apartP (x : TreeAt h p s vs ns) : ¬ s.foot p := fun f => (x.buf.typed f).ne (Typed.of x.cell) (by decide) rfl
theorem TreeAt.kidT (x : TreeAt h p s vs ns) {i : Nat} {v : S_kin_node} (e : vs[i]? = some v) {c : Nat} (f : v.xchildren.foot c) : Typed h N_int c := by
  obtain ⟨n, hn⟩ : ∃ n, ns[i]? = some n := ⟨_, List.getElem?_eq_getElem (by have := lt_of_get e; have := x.len; omega)⟩
  exact (x.nd i v n e hn).2.2.typed f
theorem TreeAt.keep {h' : H} (x : TreeAt h p s vs ns) (k : Keeps h h') : TreeAt h' p s vs ns :=
  ⟨k _ _ x.cell, x.buf.keep k, x.len, x.big, fun i v n e e' => by obtain ⟨a, b, c⟩ := x.nd i v n e e'; exact ⟨a, b, c.keep k⟩, x.apart⟩
theorem Tree.keep {h' : H} (x : Tree h p s F ns) (k : Keeps h h') : Tree h' p s F ns := by
  obtain ⟨vs, a, b⟩ := x.ex
  exact ⟨vs, a.keep k, b⟩
theorem TreeAt.typed (x : TreeAt h p s vs ns) {c : Nat} (f : TFoot p s vs c) : Typed h N_kin_Tree c ∨ Typed h N_kin_node c ∨ Typed h N_int c := by
  rcases f with rfl | f | ⟨v, hv, f⟩
  · exact .inl (Typed.of x.cell)
  · exact .inr (.inl (x.buf.typed f))
  · obtain ⟨i, hi⟩ := List.mem_iff_getElem?.1 hv
    exact .inr (.inr (x.kidT hi f))
theorem Tree.typed (x : Tree h p s F ns) {c : Nat} (f : F c) : Typed h N_kin_Tree c ∨ Typed h N_kin_node c ∨ Typed h N_int c := by
  obtain ⟨vs, a, b⟩ := x.ex
  exact a.typed ((b c).1 f)
theorem Tree.but {h' : H} {G : Nat → Prop} (x : Tree h p s F ns) (k : But G h h') (f : ∀ c, G c → ¬ F c) : Tree h' p s F ns := by
  obtain ⟨vs, a, b⟩ := x.ex
  refine ⟨vs, ⟨k _ _ a.cell fun q => f _ q ((b _).2 (.inl rfl)), a.buf.but k fun z hz q => f _ q ((b _).2 (.inr (.inl ⟨z, hz, rfl⟩))), a.len, a.big, fun i v n e e' => ?_, a.apart⟩, b⟩
  obtain ⟨p1, p2, p3⟩ := a.nd i v n e e'
  exact ⟨p1, p2, p3.but k fun z hz q => f _ q ((b _).2 (.inr (.inr ⟨v, List.mem_of_getElem? e, z, hz, rfl⟩)))⟩
theorem Tree.has (x : Tree h p s F ns) {c : Nat} (f : F c) : h c ≠ none := (x.typed f).elim (·.has) (·.elim (·.has) (·.has))
theorem Tree.len (x : Tree h p s F ns) : ns.length ≤ 256 := by obtain ⟨_, a, _⟩ := x.ex; exact a.big
theorem TreeAt.f0 (x : TreeAt h p s vs ns) : At h ((⟨p, 0, none⟩ : Addr).add 0) (cSl s) := At.own (l1 := []) (l3 := []) x.cell rfl
theorem t_number (x : TreeAt h p s vs ns) {i : Int} {K : Bool → H → Prop} (y : K (decide (0 ≤ i ∧ i < (ns.length : Int))) h) : m_kin_Tree_number (some ⟨p, 0, none⟩) i K h := by
  unfold m_kin_Tree_number
  have hl := x.buf.len
  have := x.len
  refine w_if' (fun c => w_deref (w_load x.f0 ?_)) fun c => ?_
  · have e : decide (i < (s.len : Int)) = decide (0 ≤ i ∧ i < (ns.length : Int)) := by rw [Bool.eq_iff_iff, decide_eq_true_eq, decide_eq_true_eq]; omega
    rw [e]; exact y
  · rw [decide_eq_false (by omega)] at y; exact y
theorem t_HasA (x : TreeAt h p s vs ns) {i : Int} {K : Bool → H → Prop} (y : K (hasN ns i) h) : m_kin_Tree_Has (some ⟨p, 0, none⟩) i K h := by
  unfold m_kin_Tree_Has
  refine t_number x (w_if' (fun c => w_deref (w_load x.f0 ?_)) fun c => ?_)
  · obtain ⟨k, rfl⟩ : ∃ k : Nat, i = k := ⟨i.toNat, by omega⟩
    have hk : k < ns.length := by omega
    obtain ⟨v, hv⟩ : ∃ v, vs[k]? = some v := ⟨_, List.getElem?_eq_getElem (by have := x.len; omega)⟩
    have hn := List.getElem?_eq_getElem hk
    refine w_field kn_len x.buf.arr hv rfl (v' := v.xthere) (cells' := cBool) (l1 := []) (l3 := (S_kin_node.cells v).drop 1) rfl rfl ?_
    have e : hasN ns (k : Int) = ns[k].there := by unfold hasN; rw [Int.toNat_natCast, hn]; simp
    rw [(x.nd k _ _ hv hn).1, ← e]; exact y
  · have e : hasN ns i = false := by
      unfold hasN
      by_cases q : 0 ≤ i
      · rw [List.getElem?_eq_none (by omega)]; simp
      · rw [decide_eq_false q]; rfl
    rw [e] at y; exact y
theorem t_Has (x : Tree h p s F ns) {i : Int} {K : Bool → H → Prop} (y : K (hasN ns i) h) : m_kin_Tree_Has (some ⟨p, 0, none⟩) i K h := by
  obtain ⟨vs, a, _⟩ := x.ex
  exact t_HasA a y
theorem t_at (x : TreeAt h p s vs ns) {i : Nat} {v : S_kin_node} (e : vs[i]? = some v) {K : Option Addr → H → Prop} (y : ∀ a, isIdx s (i : Int) 3 a → At h a (S_kin_node.cells v) → K (some a) h) : m_kin_Tree_at (some ⟨p, 0, none⟩) (i : Int) K h := by
  unfold m_kin_Tree_at
  exact w_deref (w_load x.f0 (w_idx kn_len x.buf.arr e rfl fun a ia ha => y a ia ha))
theorem cv_at (x : TreeAt h p s vs ns) {i : Nat} {v : S_kin_node} (e : vs[i]? = some v) {k : Option Addr → H → Prop} (y : ∀ a, isIdx s (i : Int) 3 a → At h a (S_kin_node.cells v) → k (some a) h) :
    mCallV (T := Option Addr) Try.prog (fun r => Value.pointer r) (.func (.func s_kin_Tree_at.f) #[.pointer (some ⟨p, 0, none⟩)] #[]) [.int .i64 (i : Int)] k h :=
  callV_of s_kin_Tree_at (first := #[.pointer (some ⟨p, 0, none⟩)]) (cap := #[]) (args := [.int .i64 (i : Int)]) (some ⟨p, 0, none⟩, (i : Int)) rfl (t_at x e y)
/-- A node is written anew. -/
theorem TreeAt.node (x : TreeAt h p s vs ns) {i : Nat} {v v' : S_kin_node} {n' : Nd} (e : vs[i]? = some v) {h' : H} (bu : Buf S_kin_node.cells 3 N_kin_node h' s (vs.set i v')) (k : But s.foot h h') (b' : Buf (cInt .i64) 1 N_int h v'.xchildren n'.kids) (q : v'.xthere = n'.there ∧ v'.xparent = n'.parent)
    (fr : ∀ c, v'.xchildren.foot c → v.xchildren.foot c ∨ ∀ (j : Nat) (w : S_kin_node), vs[j]? = some w → ¬ w.xchildren.foot c) (ns' : List Nd) (hns : ns' = ns.set i n') : TreeAt h' p s (vs.set i v') ns' := by
  subst hns
  have hi := lt_of_get e
  have noS : ∀ {b : Sl} {l : List Int}, Buf (cInt .i64) 1 N_int h b l → ∀ a, b.a = some a → ¬ s.foot a.block := fun bb a ha f => (x.buf.typed f).ne (bb.typed ⟨a, ha, rfl⟩) (by decide) rfl
  refine ⟨k _ _ x.cell x.apartP, bu, by rw [List.length_set, List.length_set]; exact x.len, by rw [List.length_set]; exact x.big, fun j w m ew em => ?_, fun a b w u ew eu hne c fw fu => ?_⟩
  · rw [List.getElem?_set] at ew em
    by_cases z : i = j
    · rw [if_pos z] at ew em
      rw [if_pos hi] at ew
      rw [if_pos (by have := x.len; omega)] at em
      cases ew; cases em
      exact ⟨q.1, q.2, b'.but k (noS b')⟩
    · rw [if_neg z] at ew em
      obtain ⟨p1, p2, p3⟩ := x.nd j w m ew em
      exact ⟨p1, p2, p3.but k (noS p3)⟩
  · rw [List.getElem?_set] at ew eu
    by_cases z1 : i = a
    · rw [if_pos z1, if_pos hi] at ew
      have z2 : i ≠ b := fun q => hne (z1.symm.trans q)
      rw [if_neg z2] at eu
      cases ew
      rcases fr c fw with g | g
      · exact x.apart i b v u e eu z2 c g fu
      · exact g b u eu fu
    · rw [if_neg z1] at ew
      by_cases z2 : i = b
      · rw [if_pos z2, if_pos hi] at eu
        cases eu
        rcases fr c fu with g | g
        · exact x.apart i a v w e ew z1 c g fw
        · exact g a w ew fw
      · rw [if_neg z2] at eu
        exact x.apart a b w u ew eu hne c fw fu
/-- What a forest's change writes. -/
structure KChg (F F' : Nat → Prop) (h h' : H) : Prop where
  but : But F h h'
  foot : ∀ c, F' c → F c ∨ h c = none
  dom : ∀ c, h' c = none → h c = none
theorem KChg.refl (F : Nat → Prop) (h : H) : KChg F F h h := ⟨.refl _ _, fun _ f => .inl f, fun _ e => e⟩
theorem KChg.trans {F1 F2 F3 : Nat → Prop} {h1 h2 h3 : H} (x : KChg F1 F2 h1 h2) (y : KChg F2 F3 h2 h3) : KChg F1 F3 h1 h3 :=
  ⟨x.but.trans y.but fun n f => x.foot n f, fun c f => (y.foot c f).elim (x.foot c) fun e => .inr (x.dom c e), fun c e => x.dom c (y.dom c e)⟩
end
def rootN (ns : List Nd) (n : Nat) : List Nd := ns.set n ⟨true, -1, []⟩
def childN (ns : List Nd) (q n : Nat) : List Nd := match ns[q]? with
  | some d => (ns.set n ⟨true, (q : Int), []⟩).set q { d with kids := d.kids ++ [(n : Int)] }
  | none => ns
section
variable {h : H} {p : Nat} {s : Sl} {F : Nat → Prop} {vs : List S_kin_node} {ns : List Nd}
theorem foot_at {s : Sl} {i : Int} {sz : Nat} {a : Addr} (x : isIdx s i sz a) : s.foot a.block := by
  obtain ⟨a0, h0, _, _, rfl⟩ := x
  exact ⟨a0, h0, (add_block _ _).symm⟩
theorem t_KRoot (x : Tree h p s F ns) {n : Nat} (hn : n < ns.length) (no : hasN ns (n : Int) = false) {K : Int → H → Prop} (y : ∀ h' F', Tree h' p s F' (rootN ns n) → KChg F F' h h' → K 0 h') : m_kin_Tree_Root (some ⟨p, 0, none⟩) (n : Int) K h := by
  obtain ⟨vs, a, b⟩ := x.ex
  unfold m_kin_Tree_Root m_kin_Tree_add
  refine t_number a ?_
  rw [show decide (0 ≤ (n : Int) ∧ (n : Int) < (ns.length : Int)) = true from decide_eq_true (by omega)]
  refine w_ifF rfl (t_HasA a ?_)
  rw [no]
  refine w_ifF rfl ?_
  obtain ⟨v, hv⟩ : ∃ v, vs[n]? = some v := ⟨_, List.getElem?_eq_getElem (by have := a.len; omega)⟩
  refine cv_at a hv fun ad ia ha => w_deref ?_
  refine w_set kn_len a.buf hv ia (v' := ⟨true, -1, Sl.nil⟩) (c1 := []) (c2 := S_kin_node.cells v) (c3 := []) (by simp) (by rfl) (by rfl) (add_zero ad).symm fun h2 b2 k2 d2 => w_ifF rfl ?_
  have x2 := a.node (n' := ⟨true, -1, []⟩) hv b2 k2 Buf.nil ⟨rfl, rfl⟩ (fun c ⟨z, hz, _⟩ => by cases hz) _ rfl
  refine y h2 _ ⟨_, x2, fun c => Iff.rfl⟩ ⟨k2.mono fun c f => (b c).2 (.inr (.inl f)), fun c f => .inl ((b c).2 ?_), d2⟩
  rcases f with f | f | ⟨w, hw, f⟩
  · exact .inl f
  · exact .inr (.inl f)
  · rcases List.mem_or_eq_of_mem_set hw with q | q
    · exact .inr (.inr ⟨w, q, f⟩)
    · subst q; obtain ⟨z, hz, _⟩ := f; cases hz
theorem t_KChild (x : Tree h p s F ns) {q n : Nat} (hn : n < ns.length) (no : hasN ns (n : Int) = false) (hq : hasN ns (q : Int) = true) (hk : ∀ d, ns[q]? = some d → d.kids.length ≤ 256) {K : Int → H → Prop} (y : ∀ h' F', Tree h' p s F' (childN ns q n) → KChg F F' h h' → K 0 h') : m_kin_Tree_Child (some ⟨p, 0, none⟩) (q : Int) (n : Int) K h := by
  obtain ⟨vs, a, b⟩ := x.ex
  obtain ⟨d, hd, dt⟩ := hasN_iff.1 hq
  have hne : n ≠ q := fun e => by subst e; rw [hq] at no; cases no
  unfold m_kin_Tree_Child m_kin_Tree_add
  refine t_number a ?_
  rw [show decide (0 ≤ (n : Int) ∧ (n : Int) < (ns.length : Int)) = true from decide_eq_true (by omega)]
  refine w_join (w_ifF rfl (t_HasA a ?_))
  rw [hq]
  refine w_ifF rfl (t_HasA a ?_)
  rw [no]
  refine w_ifF rfl ?_
  obtain ⟨v, hv⟩ : ∃ v, vs[n]? = some v := ⟨_, List.getElem?_eq_getElem (by have := a.len; omega)⟩
  refine cv_at a hv fun ad ia ha => w_deref ?_
  refine w_set kn_len a.buf hv ia (v' := ⟨true, (q : Int), Sl.nil⟩) (c1 := []) (c2 := S_kin_node.cells v) (c3 := []) (by simp) (by rfl) (by rfl) (add_zero ad).symm fun h2 b2 k2 d2 => w_ifT (by simp) ?_
  have x2 := a.node (n' := ⟨true, (q : Int), []⟩) hv b2 k2 Buf.nil ⟨rfl, rfl⟩ (fun c ⟨z, hz, _⟩ => by cases hz) _ rfl
  have hql := lt_of_get hd
  obtain ⟨vq, hvq⟩ : ∃ vq, (vs.set n ⟨true, (q : Int), Sl.nil⟩)[q]? = some vq := ⟨_, List.getElem?_eq_getElem (by rw [List.length_set, a.len]; exact hql)⟩
  have hvq0 : vs[q]? = some vq := by rw [List.getElem?_set, if_neg hne] at hvq; exact hvq
  have hnq : (ns.set n ⟨true, (q : Int), []⟩)[q]? = some d := by rw [List.getElem?_set, if_neg hne]; exact hd
  obtain ⟨e1, e2, bk⟩ := x2.nd q vq d hvq hnq
  refine cv_at x2 hvq fun aq iq haq => w_deref (w_load (v := vq.xchildren) (cells := cSl) (At.sub (l1 := (S_kin_node.cells vq).take 2) (l3 := []) haq rfl) ?_)
  have hkd := hk d hd
  refine w_app (by_ := 8) ci_len rfl bk [(n : Int)] rfl rfl (.inl (by simp only [List.length_singleton]; omega)) fun s3 h3 bu3 b3 f3 d3 => w_deref ?_
  have nS : ∀ c, vq.xchildren.foot c → ¬ s.foot c := fun c f g => (x2.buf.typed g).ne (x2.kidT hvq f) (by decide) rfl
  have buS : Buf S_kin_node.cells 3 N_kin_node h3 s (vs.set n ⟨true, (q : Int), Sl.nil⟩) := x2.buf.but b3 fun z hz f => nS _ f ⟨z, hz, rfl⟩
  have haq3 : At h3 aq (S_kin_node.cells vq) := haq.but b3 fun f => nS _ f (foot_at iq)
  refine w_set kn_len buS hvq iq (v' := ⟨vq.xthere, vq.xparent, s3⟩) (c1 := (S_kin_node.cells vq).take 2) (c2 := [Sl.val vq.xchildren]) (c3 := []) (by rfl) (by rfl) (by rfl) (by rfl) fun h4 b4 k4 d4 => ?_
  have k24 : But (fun c => vq.xchildren.foot c ∨ s.foot c) h2 h4 := (b3.mono fun _ f => .inl f).trans (k4.mono fun _ f => .inr f) fun _ f => .inl f
  have bu4 : Buf (cInt .i64) 1 N_int h4 s3 (d.kids ++ [(n : Int)]) := bu3.but k4 fun z hz f => (bu3.typed ⟨z, hz, rfl⟩).ne (buS.typed f) (by decide) rfl
  have hs3 : ∀ c, s3.foot c → vq.xchildren.foot c ∨ h2 c = none := f3
  have e0 : childN ns q n = (ns.set n ⟨true, (q : Int), []⟩).set q { d with kids := d.kids ++ [(n : Int)] } := by unfold childN; rw [hd]
  have x4 : TreeAt h4 p s ((vs.set n ⟨true, (q : Int), Sl.nil⟩).set q ⟨vq.xthere, vq.xparent, s3⟩) (childN ns q n) := by
    rw [e0]
    have lq : q < (vs.set n ⟨true, (q : Int), Sl.nil⟩).length := lt_of_get hvq
    refine ⟨k24 _ _ x2.cell fun f => f.elim (fun f => (x2.kidT hvq f).ne (Typed.of x2.cell) (by decide) rfl) x2.apartP, b4, by simp only [List.length_set]; exact a.len, by rw [List.length_set]; exact x2.big, fun j w m ew em => ?_, fun i j w u ew eu hij c fw fu => ?_⟩
    · rw [List.getElem?_set] at ew em
      by_cases z : q = j
      · rw [if_pos z, if_pos lq] at ew
        rw [if_pos z, if_pos (lt_of_get hnq)] at em
        cases ew; cases em
        exact ⟨e1, e2, bu4⟩
      · rw [if_neg z] at ew em
        obtain ⟨p1, p2, p3⟩ := x2.nd j w m ew em
        exact ⟨p1, p2, p3.but k24 fun z' hz f => f.elim (fun f => x2.apart q j vq w hvq ew z _ f ⟨z', hz, rfl⟩) fun f => (p3.typed ⟨z', hz, rfl⟩).ne (x2.buf.typed f) (by decide) rfl⟩
    · rw [List.getElem?_set] at ew eu
      have old : ∀ {i : Nat} {w : S_kin_node}, (vs.set n ⟨true, (q : Int), Sl.nil⟩)[i]? = some w → q ≠ i → ∀ c, s3.foot c → ¬ w.xchildren.foot c := fun {i w} ew z c f g => by
        rcases hs3 c f with r | r
        · exact x2.apart q i vq w hvq ew z c r g
        · exact (x2.kidT ew g).has r
      by_cases z1 : q = i
      · rw [if_pos z1, if_pos lq] at ew
        cases ew
        have z2 : q ≠ j := fun r => hij (z1.symm.trans r)
        rw [if_neg z2] at eu
        exact old eu z2 c fw fu
      · rw [if_neg z1] at ew
        by_cases z2 : q = j
        · rw [if_pos z2, if_pos lq] at eu
          cases eu
          exact old ew z1 c fu fw
        · rw [if_neg z2] at eu
          exact x2.apart i j w u ew eu hij c fw fu
  have kF : But F h h4 := (k2.mono fun c f => (b c).2 (.inr (.inl f))).trans k24 fun c f => .inl ((b c).2 (f.elim (fun f => .inr (.inr ⟨vq, List.mem_of_getElem? hvq0, f⟩)) fun f => .inr (.inl f)))
  have d24 : ∀ c, h4 c = none → h2 c = none := fun c e => d3 c (d4 c e)
  refine y h4 _ ⟨_, x4, fun c => Iff.rfl⟩ ⟨kF, fun c f => ?_, fun c e => d2 c (d24 c e)⟩
  rcases f with f | f | ⟨w, hw, f⟩
  · exact .inl ((b c).2 (.inl f))
  · exact .inl ((b c).2 (.inr (.inl f)))
  · rcases List.mem_or_eq_of_mem_set hw with r | r
    · rcases List.mem_or_eq_of_mem_set r with r | r
      · exact .inl ((b c).2 (.inr (.inr ⟨w, r, f⟩)))
      · subst r; obtain ⟨z, hz, _⟩ := f; cases hz
    · subst r
      rcases hs3 c f with g | g
      · exact .inl ((b c).2 (.inr (.inr ⟨vq, List.mem_of_getElem? hvq0, g⟩)))
      · exact .inr (d2 c g)
end
end Go.Proofs.Ytiajjcboddaenaa.K
