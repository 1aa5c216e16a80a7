/- Forests, plainly: who stands below whom; parents ahead of their children, and the other way round. Forests in memory: nodes, parents, children. Forests in memory: made, cut, told. Walks of a forest. -/
import Derived.Test.YtiajjcboddaenaaL8
import Derived.Test.YtiajjcboddaenaaCa2
import Derived.Test.YtiajjcboddaenaaSl1
import Derived.Test.YtiajjcboddaenaaCl
import Derived.Test.YtiajjcboddaenaaFkin
import Derived.Test.YtiajjcboddaenaaFwalk
namespace Go.Proofs.Ytiajjcboddaenaa.K
theorem nodup_rev {l : List Int} (h : l.Nodup) : l.reverse.Nodup := (List.Perm.nodup_iff (List.reverse_perm l)).2 h
inductive PreL (ch : Int → List Int) : List Int → List Int → Prop
  | nil : PreL ch [] []
  | cons {x : Int} {ys l L : List Int} : PreL ch (ch x) l → PreL ch ys L → PreL ch (x :: ys) (x :: (l ++ L))
inductive PostL (ch : Int → List Int) : List Int → List Int → Prop
  | nil : PostL ch [] []
  | cons {x : Int} {ys l L : List Int} : PostL ch (ch x) l → PostL ch ys L → PostL ch (x :: ys) (l ++ x :: L)
inductive Desc (ch : Int → List Int) (x : Int) : Int → Prop
  | refl : Desc ch x x
  | snoc {y z : Int} : Desc ch x y → z ∈ ch y → Desc ch x z
section
variable {ch : Int → List Int}
theorem PreL.append {a la b lb : List Int} (x : PreL ch a la) (y : PreL ch b lb) : PreL ch (a ++ b) (la ++ lb) := by
  induction x with
  | nil => exact y
  | cons p q ih1 ih2 => rw [List.cons_append, List.cons_append, List.append_assoc]; exact .cons p ih2
theorem PostL.append {a la b lb : List Int} (x : PostL ch a la) (y : PostL ch b lb) : PostL ch (a ++ b) (la ++ lb) := by
  induction x with
  | nil => exact y
  | cons p q ih1 ih2 => rw [List.cons_append, List.append_assoc, List.cons_append]; exact .cons p ih2
theorem PreL.inj {a l : List Int} (x : PreL ch a l) : ∀ {m : List Int}, PreL ch a m → l = m := by
  induction x with
  | nil => intro m y; cases y; rfl
  | cons p q ih1 ih2 =>
    intro m y
    cases y with
    | cons p' q' => rw [ih1 p', ih2 q']
theorem PreL.le {a l : List Int} (x : PreL ch a l) : a.length ≤ l.length := by
  induction x with
  | nil => exact Nat.le_refl _
  | cons p q ih1 ih2 => simp only [List.length_cons, List.length_append]; omega
theorem PreL.mirror {a l : List Int} (x : PreL (fun z => (ch z).reverse) a l) : PostL ch a.reverse l.reverse := by
  induction x with
  | nil => exact .nil
  | @cons z ys l L p q ih1 ih2 =>
    rw [List.reverse_cons, List.reverse_cons, List.reverse_append, List.append_assoc]
    refine ih2.append ?_
    rw [List.reverse_reverse] at ih1
    exact .cons ih1 .nil
theorem Desc.cons {x y z : Int} (hy : y ∈ ch x) (d : Desc ch y z) : Desc ch x z := by
  induction d with
  | refl => exact .snoc .refl hy
  | snoc _ h ih => exact .snoc ih h
theorem Desc.head {x z : Int} (d : Desc ch x z) : z = x ∨ ∃ y, y ∈ ch x ∧ Desc ch y z := by
  induction d with
  | refl => exact .inl rfl
  | snoc d h ih =>
    rcases ih with rfl | ⟨y, hy, e⟩
    · exact .inr ⟨_, h, .refl⟩
    · exact .inr ⟨y, hy, .snoc e h⟩
theorem Desc.trans {x y z : Int} (a : Desc ch x y) (b : Desc ch y z) : Desc ch x z := by
  induction b with
  | refl => exact a
  | snoc _ h ih => exact .snoc ih h
theorem PreL.mem {a l : List Int} (x : PreL ch a l) {z : Int} : z ∈ l ↔ ∃ r, r ∈ a ∧ Desc ch r z := by
  induction x with
  | nil => simp
  | @cons y ys l L p q ih1 ih2 =>
    rw [List.mem_cons, List.mem_append, ih1, ih2]
    constructor
    · rintro (rfl | ⟨r, hr, d⟩ | ⟨r, hr, d⟩)
      · exact ⟨z, List.mem_cons_self .., .refl⟩
      · exact ⟨y, List.mem_cons_self .., d.cons hr⟩
      · exact ⟨r, List.mem_cons_of_mem _ hr, d⟩
    · rintro ⟨r, hr, d⟩
      rcases List.mem_cons.1 hr with rfl | hr
      · rcases d.head with e | ⟨w, hw, e⟩
        · exact .inl e
        · exact .inr (.inl ⟨w, hw, e⟩)
      · exact .inr (.inr ⟨r, hr, d⟩)
theorem PostL.mem {a l : List Int} (x : PostL ch a l) {z : Int} : z ∈ l ↔ ∃ r, r ∈ a ∧ Desc ch r z := by
  induction x with
  | nil => simp
  | @cons y ys l L p q ih1 ih2 =>
    rw [List.mem_append, List.mem_cons, ih1, ih2]
    constructor
    · rintro (⟨r, hr, d⟩ | rfl | ⟨r, hr, d⟩)
      · exact ⟨y, List.mem_cons_self .., d.cons hr⟩
      · exact ⟨z, List.mem_cons_self .., .refl⟩
      · exact ⟨r, List.mem_cons_of_mem _ hr, d⟩
    · rintro ⟨r, hr, d⟩
      rcases List.mem_cons.1 hr with rfl | hr
      · rcases d.head with e | ⟨w, hw, e⟩
        · exact .inr (.inl e)
        · exact .inl ⟨w, hw, e⟩
      · exact .inr (.inr ⟨r, hr, d⟩)
/-- Each node behind its parent. -/
theorem PreL.behind {a l : List Int} (x : PreL ch a l) : ∀ {i : Nat} {z : Int}, l[i]? = some z → z ∈ a ∨ ∃ y, y ∈ l.take i ∧ z ∈ ch y := by
  induction x with
  | nil => intro i z e; simp at e
  | @cons y ys l L p q ih1 ih2 =>
    intro i z e
    cases i with
    | zero => simp at e; subst e; exact .inl (List.mem_cons_self ..)
    | succ i =>
      rw [List.getElem?_cons_succ, List.getElem?_append] at e
      rw [List.take_succ_cons]
      split at e
      · rename_i hi
        rcases ih1 e with r | ⟨w, hw, hz⟩
        · exact .inr ⟨y, List.mem_cons_self .., r⟩
        · refine .inr ⟨w, List.mem_cons_of_mem _ ?_, hz⟩
          rw [List.take_append]
          exact List.mem_append_left _ hw
      · rename_i hi
        rcases ih2 e with r | ⟨w, hw, hz⟩
        · exact .inl (List.mem_cons_of_mem _ r)
        · refine .inr ⟨w, List.mem_cons_of_mem _ ?_, hz⟩
          rw [List.take_append]
          exact List.mem_append_right _ hw
/-- Each node behind all its children. -/
theorem PostL.behind {a l : List Int} (x : PostL ch a l) : ∀ {i : Nat} {z : Int}, l[i]? = some z → ∀ y, y ∈ ch z → y ∈ l.take i := by
  induction x with
  | nil => intro i z e; simp at e
  | @cons w ys l L p q ih1 ih2 =>
    intro i z e y hy
    rw [List.getElem?_append] at e
    rw [List.take_append]
    split at e
    · exact List.mem_append_left _ (ih1 e y hy)
    · rename_i hi
      have hl : l.length ≤ i := by omega
      cases hk : i - l.length with
      | zero =>
        rw [hk] at e; simp at e; subst e
        rw [List.take_of_length_le hl]
        exact List.mem_append_left _ (p.mem.2 ⟨y, hy, .refl⟩)
      | succ k =>
        rw [hk, List.getElem?_cons_succ] at e
        rw [List.take_succ_cons]
        exact List.mem_append_right _ (List.mem_cons_of_mem _ (ih2 e y hy))
/-- Each node has one parent, and none stands below itself. -/
structure Forest (ch : Int → List Int) : Prop where
  uniq : ∀ x y z, z ∈ ch x → z ∈ ch y → x = y
  nd : ∀ x, (ch x).Nodup
  rank : ∃ (w : Int → Nat) (B : Nat), ∀ x y, y ∈ ch x → w x < w y ∧ w y ≤ B
theorem Forest.mirror (f : Forest ch) : Forest (fun z => (ch z).reverse) :=
  ⟨fun x y z a b => f.uniq x y z (List.mem_reverse.1 a) (List.mem_reverse.1 b), fun x => nodup_rev (f.nd x), by obtain ⟨w, B, h⟩ := f.rank; exact ⟨w, B, fun x y e => h x y (List.mem_reverse.1 e)⟩⟩
theorem Forest.comp (f : Forest ch) {a z : Int} (x : Desc ch a z) : ∀ {b : Int}, Desc ch b z → Desc ch a b ∨ Desc ch b a := by
  induction x with
  | refl => exact fun y => .inr y
  | @snoc y z d h ih =>
    intro b e
    cases e with
    | refl => exact .inl (.snoc d h)
    | snoc d' h' =>
      obtain rfl := f.uniq _ _ _ h h'
      exact ih d'
theorem Forest.acyc (f : Forest ch) {x y : Int} (hy : y ∈ ch x) (d : Desc ch y x) : False := by
  obtain ⟨w, B, hw⟩ := f.rank
  have le : ∀ {a b}, Desc ch a b → w a ≤ w b := fun d => by
    induction d with
    | refl => exact Nat.le_refl _
    | snoc _ h ih => have := (hw _ _ h).1; omega
  have := le d
  have := (hw _ _ hy).1
  omega
theorem Forest.kids (f : Forest ch) {x a b : Int} (ha : a ∈ ch x) (hb : b ∈ ch x) (d : Desc ch a b) : a = b := by
  cases d with
  | refl => rfl
  | snoc d h =>
    obtain rfl := f.uniq _ _ _ h hb
    exact (f.acyc ha d).elim
theorem PreL.nodup (f : Forest ch) {a l : List Int} (x : PreL ch a l) (hn : a.Nodup) (ha : ∀ p q, p ∈ a → q ∈ a → Desc ch p q → p = q) : l.Nodup := by
  induction x with
  | nil => exact List.nodup_nil
  | @cons y ys l L p q ih1 ih2 =>
    rw [List.nodup_cons] at hn
    have h1 := ih1 (f.nd y) fun a b ha hb d => f.kids ha hb d
    have h2 := ih2 hn.2 fun a b pa pb d => ha a b (List.mem_cons_of_mem _ pa) (List.mem_cons_of_mem _ pb) d
    rw [List.nodup_cons, List.mem_append, List.nodup_append]
    refine ⟨fun e => ?_, h1, h2, fun z hz z' hz' e => ?_⟩
    · rcases e with e | e
      · obtain ⟨r, hr, d⟩ := p.mem.1 e
        exact f.acyc hr d
      · obtain ⟨r, hr, d⟩ := q.mem.1 e
        have := ha r y (List.mem_cons_of_mem _ hr) (List.mem_cons_self ..) d
        exact hn.1 (this ▸ hr)
    · subst e
      obtain ⟨r, hr, d⟩ := p.mem.1 hz
      obtain ⟨r', hr', d'⟩ := q.mem.1 hz'
      have dy : Desc ch y z := d.cons hr
      rcases f.comp (b := r') dy d' with c | c
      · have := ha y r' (List.mem_cons_self ..) (List.mem_cons_of_mem _ hr') c
        exact hn.1 (this ▸ hr')
      · have := ha r' y (List.mem_cons_of_mem _ hr') (List.mem_cons_self ..) c
        exact hn.1 (this ▸ hr')
theorem PreL.nodup1 (f : Forest ch) {n : Int} {l : List Int} (x : PreL ch [n] l) : l.Nodup := x.nodup f (by simp) fun p q hp hq _ => (List.mem_singleton.1 hp).trans (List.mem_singleton.1 hq).symm
theorem PreL.ex (f : Forest ch) : ∀ a, ∃ l, PreL ch a l := by
  obtain ⟨w, B, hw⟩ := f.rank
  have main : ∀ k, ∀ a : List Int, (∀ x ∈ a, B + 1 - w x < k) → ∃ l, PreL ch a l := by
    intro k
    induction k with
    | zero =>
      intro a ha
      cases a with
      | nil => exact ⟨[], .nil⟩
      | cons x r => exact absurd (ha x (List.mem_cons_self ..)) (Nat.not_lt_zero _)
    | succ k ih =>
      intro a
      induction a with
      | nil => exact fun _ => ⟨[], .nil⟩
      | cons x r ihr =>
        intro ha
        obtain ⟨L, hL⟩ := ihr fun y hy => ha y (List.mem_cons_of_mem _ hy)
        obtain ⟨l, hl⟩ := ih (ch x) fun y hy => by
          obtain ⟨h1, h2⟩ := hw x y hy
          have := ha x (List.mem_cons_self ..)
          omega
        exact ⟨_, .cons hl hL⟩
  exact fun a => main (B + 2) a fun x _ => by omega
/-- The list of those below a node, itself first, and the list the other way round. -/
theorem PreL.post (f : Forest ch) {n : Int} {l : List Int} (x : PreL ch [n] l) : ∃ m, PreL (fun z => (ch z).reverse) [n] m ∧ PostL ch [n] m.reverse ∧ m.reverse.Perm l := by
  obtain ⟨m, hm⟩ := PreL.ex f.mirror [n]
  refine ⟨m, hm, hm.mirror, ?_⟩
  refine (List.perm_ext_iff_of_nodup (nodup_rev (hm.nodup1 f.mirror)) (x.nodup1 f)).2 fun z => ?_
  rw [hm.mirror.mem, x.mem]
  exact Iff.rfl
end
end Go.Proofs.Ytiajjcboddaenaa.K
namespace Go.Proofs.Ytiajjcboddaenaa.K
open Go
structure Nd where
  there : Bool
  parent : Int
  kids : List Int
def nd0 : Nd := ⟨false, 0, []⟩
theorem kn_len : ∀ x, (S_kin_node.cells x).length = 3 := fun _ => rfl
theorem kn_plain : ∀ x, (S_kin_node.cells x).all plainVal = true := fun _ => rfl
structure TreeAt (h : H) (p : Nat) (s : Sl) (vs : List S_kin_node) (ns : List Nd) : Prop where
  cell : h p = some (.cells (S_kin_Tree.cells ⟨s⟩).toArray N_kin_Tree (0, 0))
  buf : Buf S_kin_node.cells 3 N_kin_node h s vs
  len : vs.length = ns.length
  big : ns.length ≤ 256
  nd : ∀ (i : Nat) v n, vs[i]? = some v → ns[i]? = some n → v.xthere = n.there ∧ v.xparent = n.parent ∧ Buf (cInt .i64) 1 N_int h v.xchildren n.kids
  apart : ∀ (i j : Nat) v w, vs[i]? = some v → vs[j]? = some w → i ≠ j → ∀ c, v.xchildren.foot c → ¬ w.xchildren.foot c
def TFoot (p : Nat) (s : Sl) (vs : List S_kin_node) (c : Nat) : Prop := c = p ∨ s.foot c ∨ ∃ v ∈ vs, v.xchildren.foot c
/-- A forest; 'F' are its blocks. -/
structure Tree (h : H) (p : Nat) (s : Sl) (F : Nat → Prop) (ns : List Nd) : Prop where
  ex : ∃ vs, TreeAt h p s vs ns ∧ ∀ c, F c ↔ TFoot p s vs c
def hasN (ns : List Nd) (i : Int) : Bool := decide (0 ≤ i) && ((ns[i.toNat]?.map Nd.there).getD false)
theorem hasN_iff {ns : List Nd} {i : Nat} : hasN ns (i : Int) = true ↔ ∃ n, ns[i]? = some n ∧ n.there = true := by
  unfold hasN
  rw [decide_eq_true (by omega : (0 : Int) ≤ (i : Int)), Bool.true_and, Int.toNat_natCast]
  cases ns[i]? with
  | none => simp
  | some n => simp
section
variable {h : H} {p : Nat} {s : Sl} {F : Nat → Prop} {vs : List S_kin_node} {ns : List Nd}
theorem TreeAt.apartP (x : TreeAt h p s vs ns) : ¬ s.foot p := fun f => (x.buf.typed f).ne (Typed.of x.cell) (by decide) rfl
theorem TreeAt.kidT (x : TreeAt h p s vs ns) {i : Nat} {v : S_kin_node} (e : vs[i]? = some v) {c : Nat} (f : v.xchildren.foot c) : Typed h N_int c := by
  obtain ⟨n, hn⟩ : ∃ n, ns[i]? = some n := ⟨_, List.getElem?_eq_getElem (by have := lt_of_get e; have := x.len; omega)⟩
  exact (x.nd i v n e hn).2.2.typed f
theorem TreeAt.keep {h' : H} (x : TreeAt h p s vs ns) (k : Keeps h h') : TreeAt h' p s vs ns :=
  ⟨k _ _ x.cell, x.buf.keep k, x.len, x.big, fun i v n e e' => by obtain ⟨a, b, c⟩ := x.nd i v n e e'; exact ⟨a, b, c.keep k⟩, x.apart⟩
theorem Tree.keep {h' : H} (x : Tree h p s F ns) (k : Keeps h h') : Tree h' p s F ns := by
  obtain ⟨vs, a, b⟩ := x.ex
  exact ⟨vs, a.keep k, b⟩
theorem TreeAt.typed (x : TreeAt h p s vs ns) {c : Nat} (f : TFoot p s vs c) : Typed h N_kin_Tree c ∨ Typed h N_kin_node c ∨ Typed h N_int c := by
  rcases f with rfl | f | ⟨v, hv, f⟩
  · exact .inl (Typed.of x.cell)
  · exact .inr (.inl (x.buf.typed f))
  · obtain ⟨i, hi⟩ := List.mem_iff_getElem?.1 hv
    exact .inr (.inr (x.kidT hi f))
theorem Tree.typed (x : Tree h p s F ns) {c : Nat} (f : F c) : Typed h N_kin_Tree c ∨ Typed h N_kin_node c ∨ Typed h N_int c := by
  obtain ⟨vs, a, b⟩ := x.ex
  exact a.typed ((b c).1 f)
theorem Tree.but {h' : H} {G : Nat → Prop} (x : Tree h p s F ns) (k : But G h h') (f : ∀ c, G c → ¬ F c) : Tree h' p s F ns := by
  obtain ⟨vs, a, b⟩ := x.ex
  refine ⟨vs, ⟨k _ _ a.cell fun q => f _ q ((b _).2 (.inl rfl)), a.buf.but k fun z hz q => f _ q ((b _).2 (.inr (.inl ⟨z, hz, rfl⟩))), a.len, a.big, fun i v n e e' => ?_, a.apart⟩, b⟩
  obtain ⟨p1, p2, p3⟩ := a.nd i v n e e'
  exact ⟨p1, p2, p3.but k fun z hz q => f _ q ((b _).2 (.inr (.inr ⟨v, List.mem_of_getElem? e, z, hz, rfl⟩)))⟩
theorem Tree.has (x : Tree h p s F ns) {c : Nat} (f : F c) : h c ≠ none := (x.typed f).elim (·.has) (·.elim (·.has) (·.has))
theorem Tree.len (x : Tree h p s F ns) : ns.length ≤ 256 := by obtain ⟨_, a, _⟩ := x.ex; exact a.big
theorem TreeAt.f0 (x : TreeAt h p s vs ns) : At h ((⟨p, 0, none⟩ : Addr).add 0) (cSl s) := At.own (l1 := []) (l3 := []) x.cell rfl
theorem t_number (x : TreeAt h p s vs ns) {i : Int} {K : Bool → H → Prop} (y : K (decide (0 ≤ i ∧ i < (ns.length : Int))) h) : m_kin_Tree_number (some ⟨p, 0, none⟩) i K h := by
  unfold m_kin_Tree_number
  have hl := x.buf.len
  have := x.len
  refine w_if' (fun c => w_deref (w_load x.f0 ?_)) fun c => ?_
  · have e : decide (i < (s.len : Int)) = decide (0 ≤ i ∧ i < (ns.length : Int)) := by rw [Bool.eq_iff_iff, decide_eq_true_eq, decide_eq_true_eq]; omega
    rw [e]; exact y
  · rw [decide_eq_false (by omega)] at y; exact y
theorem t_HasA (x : TreeAt h p s vs ns) {i : Int} {K : Bool → H → Prop} (y : K (hasN ns i) h) : m_kin_Tree_Has (some ⟨p, 0, none⟩) i K h := by
  unfold m_kin_Tree_Has
  refine t_number x (w_if' (fun c => w_deref (w_load x.f0 ?_)) fun c => ?_)
  · obtain ⟨k, rfl⟩ : ∃ k : Nat, i = k := ⟨i.toNat, by omega⟩
    have hk : k < ns.length := by omega
    obtain ⟨v, hv⟩ : ∃ v, vs[k]? = some v := ⟨_, List.getElem?_eq_getElem (by have := x.len; omega)⟩
    have hn := List.getElem?_eq_getElem hk
    refine w_field kn_len x.buf.arr hv rfl (v' := v.xthere) (cells' := cBool) (l1 := []) (l3 := (S_kin_node.cells v).drop 1) rfl rfl ?_
    have e : hasN ns (k : Int) = ns[k].there := by unfold hasN; rw [Int.toNat_natCast, hn]; simp
    rw [(x.nd k _ _ hv hn).1, ← e]; exact y
  · have e : hasN ns i = false := by
      unfold hasN
      by_cases q : 0 ≤ i
      · rw [List.getElem?_eq_none (by omega)]; simp
      · rw [decide_eq_false q]; rfl
    rw [e] at y; exact y
theorem t_Has (x : Tree h p s F ns) {i : Int} {K : Bool → H → Prop} (y : K (hasN ns i) h) : m_kin_Tree_Has (some ⟨p, 0, none⟩) i K h := by
  obtain ⟨vs, a, _⟩ := x.ex
  exact t_HasA a y
theorem t_at (x : TreeAt h p s vs ns) {i : Nat} {v : S_kin_node} (e : vs[i]? = some v) {K : Option Addr → H → Prop} (y : ∀ a, isIdx s (i : Int) 3 a → At h a (S_kin_node.cells v) → K (some a) h) : m_kin_Tree_at (some ⟨p, 0, none⟩) (i : Int) K h := by
  unfold m_kin_Tree_at
  exact w_deref (w_load x.f0 (w_idx kn_len x.buf.arr e rfl fun a ia ha => y a ia ha))
theorem cv_at (x : TreeAt h p s vs ns) {i : Nat} {v : S_kin_node} (e : vs[i]? = some v) {k : Option Addr → H → Prop} (y : ∀ a, isIdx s (i : Int) 3 a → At h a (S_kin_node.cells v) → k (some a) h) :
    mCallV (T := Option Addr) Try.prog (fun r => Value.pointer r) (.func (.func s_kin_Tree_at.f) #[.pointer (some ⟨p, 0, none⟩)] #[]) [.int .i64 (i : Int)] k h :=
  callV_of s_kin_Tree_at (first := #[.pointer (some ⟨p, 0, none⟩)]) (cap := #[]) (args := [.int .i64 (i : Int)]) (some ⟨p, 0, none⟩, (i : Int)) rfl (t_at x e y)
/-- A node is written anew. -/
theorem TreeAt.node (x : TreeAt h p s vs ns) {i : Nat} {v v' : S_kin_node} {n' : Nd} (e : vs[i]? = some v) {h' : H} (bu : Buf S_kin_node.cells 3 N_kin_node h' s (vs.set i v')) (k : But s.foot h h') (b' : Buf (cInt .i64) 1 N_int h v'.xchildren n'.kids) (q : v'.xthere = n'.there ∧ v'.xparent = n'.parent)
    (fr : ∀ c, v'.xchildren.foot c → v.xchildren.foot c ∨ ∀ (j : Nat) (w : S_kin_node), vs[j]? = some w → ¬ w.xchildren.foot c) (ns' : List Nd) (hns : ns' = ns.set i n') : TreeAt h' p s (vs.set i v') ns' := by
  subst hns
  have hi := lt_of_get e
  have noS : ∀ {b : Sl} {l : List Int}, Buf (cInt .i64) 1 N_int h b l → ∀ a, b.a = some a → ¬ s.foot a.block := fun bb a ha f => (x.buf.typed f).ne (bb.typed ⟨a, ha, rfl⟩) (by decide) rfl
  refine ⟨k _ _ x.cell x.apartP, bu, by rw [List.length_set, List.length_set]; exact x.len, by rw [List.length_set]; exact x.big, fun j w m ew em => ?_, fun a b w u ew eu hne c fw fu => ?_⟩
  · rw [List.getElem?_set] at ew em
    by_cases z : i = j
    · rw [if_pos z] at ew em
      rw [if_pos hi] at ew
      rw [if_pos (by have := x.len; omega)] at em
      cases ew; cases em
      exact ⟨q.1, q.2, b'.but k (noS b')⟩
    · rw [if_neg z] at ew em
      obtain ⟨p1, p2, p3⟩ := x.nd j w m ew em
      exact ⟨p1, p2, p3.but k (noS p3)⟩
  · rw [List.getElem?_set] at ew eu
    by_cases z1 : i = a
    · rw [if_pos z1, if_pos hi] at ew
      have z2 : i ≠ b := fun q => hne (z1.symm.trans q)
      rw [if_neg z2] at eu
      cases ew
      rcases fr c fw with g | g
      · exact x.apart i b v u e eu z2 c g fu
      · exact g b u eu fu
    · rw [if_neg z1] at ew
      by_cases z2 : i = b
      · rw [if_pos z2, if_pos hi] at eu
        cases eu
        rcases fr c fu with g | g
        · exact x.apart i a v w e ew z1 c g fw
        · exact g a w ew fw
      · rw [if_neg z2] at eu
        exact x.apart a b w u ew eu hne c fw fu
/-- What a forest's change writes. -/
structure KChg (F F' : Nat → Prop) (h h' : H) : Prop where
  but : But F h h'
  foot : ∀ c, F' c → F c ∨ h c = none
  dom : ∀ c, h' c = none → h c = none
theorem KChg.refl (F : Nat → Prop) (h : H) : KChg F F h h := ⟨.refl _ _, fun _ f => .inl f, fun _ e => e⟩
theorem KChg.trans {F1 F2 F3 : Nat → Prop} {h1 h2 h3 : H} (x : KChg F1 F2 h1 h2) (y : KChg F2 F3 h2 h3) : KChg F1 F3 h1 h3 :=
  ⟨x.but.trans y.but fun n f => x.foot n f, fun c f => (y.foot c f).elim (x.foot c) fun e => .inr (x.dom c e), fun c e => x.dom c (y.dom c e)⟩
end
def rootN (ns : List Nd) (n : Nat) : List Nd := ns.set n ⟨true, -1, []⟩
def childN (ns : List Nd) (q n : Nat) : List Nd := match ns[q]? with
  | some d => (ns.set n ⟨true, (q : Int), []⟩).set q { d with kids := d.kids ++ [(n : Int)] }
  | none => ns
section
variable {h : H} {p : Nat} {s : Sl} {F : Nat → Prop} {vs : List S_kin_node} {ns : List Nd}
theorem foot_at {s : Sl} {i : Int} {sz : Nat} {a : Addr} (x : isIdx s i sz a) : s.foot a.block := by
  obtain ⟨a0, h0, _, _, rfl⟩ := x
  exact ⟨a0, h0, (add_block _ _).symm⟩
theorem t_KRoot (x : Tree h p s F ns) {n : Nat} (hn : n < ns.length) (no : hasN ns (n : Int) = false) {K : Int → H → Prop} (y : ∀ h' F', Tree h' p s F' (rootN ns n) → KChg F F' h h' → K 0 h') : m_kin_Tree_Root (some ⟨p, 0, none⟩) (n : Int) K h := by
  obtain ⟨vs, a, b⟩ := x.ex
  unfold m_kin_Tree_Root m_kin_Tree_add
  refine t_number a ?_
  rw [show decide (0 ≤ (n : Int) ∧ (n : Int) < (ns.length : Int)) = true from decide_eq_true (by omega)]
  refine w_ifF rfl (t_HasA a ?_)
  rw [no]
  refine w_ifF rfl ?_
  obtain ⟨v, hv⟩ : ∃ v, vs[n]? = some v := ⟨_, List.getElem?_eq_getElem (by have := a.len; omega)⟩
  refine cv_at a hv fun ad ia ha => w_deref ?_
  refine w_set kn_len a.buf hv ia (v' := ⟨true, -1, Sl.nil⟩) (c1 := []) (c2 := S_kin_node.cells v) (c3 := []) (by simp) (by rfl) (by rfl) (add_zero ad).symm fun h2 b2 k2 d2 => w_ifF rfl ?_
  have x2 := a.node (n' := ⟨true, -1, []⟩) hv b2 k2 Buf.nil ⟨rfl, rfl⟩ (fun c ⟨z, hz, _⟩ => by cases hz) _ rfl
  refine y h2 _ ⟨_, x2, fun c => Iff.rfl⟩ ⟨k2.mono fun c f => (b c).2 (.inr (.inl f)), fun c f => .inl ((b c).2 ?_), d2⟩
  rcases f with f | f | ⟨w, hw, f⟩
  · exact .inl f
  · exact .inr (.inl f)
  · rcases List.mem_or_eq_of_mem_set hw with q | q
    · exact .inr (.inr ⟨w, q, f⟩)
    · subst q; obtain ⟨z, hz, _⟩ := f; cases hz
theorem t_KChild (x : Tree h p s F ns) {q n : Nat} (hn : n < ns.length) (no : hasN ns (n : Int) = false) (hq : hasN ns (q : Int) = true) (hk : ∀ d, ns[q]? = some d → d.kids.length ≤ 256) {K : Int → H → Prop} (y : ∀ h' F', Tree h' p s F' (childN ns q n) → KChg F F' h h' → K 0 h') : m_kin_Tree_Child (some ⟨p, 0, none⟩) (q : Int) (n : Int) K h := by
  obtain ⟨vs, a, b⟩ := x.ex
  obtain ⟨d, hd, dt⟩ := hasN_iff.1 hq
  have hne : n ≠ q := fun e => by subst e; rw [hq] at no; cases no
  unfold m_kin_Tree_Child m_kin_Tree_add
  refine t_number a ?_
  rw [show decide (0 ≤ (n : Int) ∧ (n : Int) < (ns.length : Int)) = true from decide_eq_true (by omega)]
  refine w_join (w_ifF rfl (t_HasA a ?_))
  rw [hq]
  refine w_ifF rfl (t_HasA a ?_)
  rw [no]
  refine w_ifF rfl ?_
  obtain ⟨v, hv⟩ : ∃ v, vs[n]? = some v := ⟨_, List.getElem?_eq_getElem (by have := a.len; omega)⟩
  refine cv_at a hv fun ad ia ha => w_deref ?_
  refine w_set kn_len a.buf hv ia (v' := ⟨true, (q : Int), Sl.nil⟩) (c1 := []) (c2 := S_kin_node.cells v) (c3 := []) (by simp) (by rfl) (by rfl) (add_zero ad).symm fun h2 b2 k2 d2 => w_ifT (by simp) ?_
  have x2 := a.node (n' := ⟨true, (q : Int), []⟩) hv b2 k2 Buf.nil ⟨rfl, rfl⟩ (fun c ⟨z, hz, _⟩ => by cases hz) _ rfl
  have hql := lt_of_get hd
  obtain ⟨vq, hvq⟩ : ∃ vq, (vs.set n ⟨true, (q : Int), Sl.nil⟩)[q]? = some vq := ⟨_, List.getElem?_eq_getElem (by rw [List.length_set, a.len]; exact hql)⟩
  have hvq0 : vs[q]? = some vq := by rw [List.getElem?_set, if_neg hne] at hvq; exact hvq
  have hnq : (ns.set n ⟨true, (q : Int), []⟩)[q]? = some d := by rw [List.getElem?_set, if_neg hne]; exact hd
  obtain ⟨e1, e2, bk⟩ := x2.nd q vq d hvq hnq
  refine cv_at x2 hvq fun aq iq haq => w_deref (w_load (v := vq.xchildren) (cells := cSl) (At.sub (l1 := (S_kin_node.cells vq).take 2) (l3 := []) haq rfl) ?_)
  have hkd := hk d hd
  refine w_app (by_ := 8) ci_len rfl bk [(n : Int)] rfl rfl (.inl (by simp only [List.length_singleton]; omega)) fun s3 h3 bu3 b3 f3 d3 => w_deref ?_
  have nS : ∀ c, vq.xchildren.foot c → ¬ s.foot c := fun c f g => (x2.buf.typed g).ne (x2.kidT hvq f) (by decide) rfl
  have buS : Buf S_kin_node.cells 3 N_kin_node h3 s (vs.set n ⟨true, (q : Int), Sl.nil⟩) := x2.buf.but b3 fun z hz f => nS _ f ⟨z, hz, rfl⟩
  have haq3 : At h3 aq (S_kin_node.cells vq) := haq.but b3 fun f => nS _ f (foot_at iq)
  refine w_set kn_len buS hvq iq (v' := ⟨vq.xthere, vq.xparent, s3⟩) (c1 := (S_kin_node.cells vq).take 2) (c2 := [Sl.val vq.xchildren]) (c3 := []) (by rfl) (by rfl) (by rfl) (by rfl) fun h4 b4 k4 d4 => ?_
  have k24 : But (fun c => vq.xchildren.foot c ∨ s.foot c) h2 h4 := (b3.mono fun _ f => .inl f).trans (k4.mono fun _ f => .inr f) fun _ f => .inl f
  have bu4 : Buf (cInt .i64) 1 N_int h4 s3 (d.kids ++ [(n : Int)]) := bu3.but k4 fun z hz f => (bu3.typed ⟨z, hz, rfl⟩).ne (buS.typed f) (by decide) rfl
  have hs3 : ∀ c, s3.foot c → vq.xchildren.foot c ∨ h2 c = none := f3
  have e0 : childN ns q n = (ns.set n ⟨true, (q : Int), []⟩).set q { d with kids := d.kids ++ [(n : Int)] } := by unfold childN; rw [hd]
  have x4 : TreeAt h4 p s ((vs.set n ⟨true, (q : Int), Sl.nil⟩).set q ⟨vq.xthere, vq.xparent, s3⟩) (childN ns q n) := by
    rw [e0]
    have lq : q < (vs.set n ⟨true, (q : Int), Sl.nil⟩).length := lt_of_get hvq
    refine ⟨k24 _ _ x2.cell fun f => f.elim (fun f => (x2.kidT hvq f).ne (Typed.of x2.cell) (by decide) rfl) x2.apartP, b4, by simp only [List.length_set]; exact a.len, by rw [List.length_set]; exact x2.big, fun j w m ew em => ?_, fun i j w u ew eu hij c fw fu => ?_⟩
    · rw [List.getElem?_set] at ew em
      by_cases z : q = j
      · rw [if_pos z, if_pos lq] at ew
        rw [if_pos z, if_pos (lt_of_get hnq)] at em
        cases ew; cases em
        exact ⟨e1, e2, bu4⟩
      · rw [if_neg z] at ew em
        obtain ⟨p1, p2, p3⟩ := x2.nd j w m ew em
        exact ⟨p1, p2, p3.but k24 fun z' hz f => f.elim (fun f => x2.apart q j vq w hvq ew z _ f ⟨z', hz, rfl⟩) fun f => (p3.typed ⟨z', hz, rfl⟩).ne (x2.buf.typed f) (by decide) rfl⟩
    · rw [List.getElem?_set] at ew eu
      have old : ∀ {i : Nat} {w : S_kin_node}, (vs.set n ⟨true, (q : Int), Sl.nil⟩)[i]? = some w → q ≠ i → ∀ c, s3.foot c → ¬ w.xchildren.foot c := fun {i w} ew z c f g => by
        rcases hs3 c f with r | r
        · exact x2.apart q i vq w hvq ew z c r g
        · exact (x2.kidT ew g).has r
      by_cases z1 : q = i
      · rw [if_pos z1, if_pos lq] at ew
        cases ew
        have z2 : q ≠ j := fun r => hij (z1.symm.trans r)
        rw [if_neg z2] at eu
        exact old eu z2 c fw fu
      · rw [if_neg z1] at ew
        by_cases z2 : q = j
        · rw [if_pos z2, if_pos lq] at eu
          cases eu
          exact old ew z1 c fu fw
        · rw [if_neg z2] at eu
          exact x2.apart i j w u ew eu hij c fw fu
  have kF : But F h h4 := (k2.mono fun c f => (b c).2 (.inr (.inl f))).trans k24 fun c f => .inl ((b c).2 (f.elim (fun f => .inr (.inr ⟨vq, List.mem_of_getElem? hvq0, f⟩)) fun f => .inr (.inl f)))
  have d24 : ∀ c, h4 c = none → h2 c = none := fun c e => d3 c (d4 c e)
  refine y h4 _ ⟨_, x4, fun c => Iff.rfl⟩ ⟨kF, fun c f => ?_, fun c e => d2 c (d24 c e)⟩
  rcases f with f | f | ⟨w, hw, f⟩
  · exact .inl ((b c).2 (.inl f))
  · exact .inl ((b c).2 (.inr (.inl f)))
  · rcases List.mem_or_eq_of_mem_set hw with r | r
    · rcases List.mem_or_eq_of_mem_set r with r | r
      · exact .inl ((b c).2 (.inr (.inr ⟨w, r, f⟩)))
      · subst r; obtain ⟨z, hz, _⟩ := f; cases hz
    · subst r
      rcases hs3 c f with g | g
      · exact .inl ((b c).2 (.inr (.inr ⟨vq, List.mem_of_getElem? hvq0, g⟩)))
      · exact .inr (d2 c g)
end
end Go.Proofs.Ytiajjcboddaenaa.K
namespace Go.Proofs.Ytiajjcboddaenaa.K
open Go
section
variable {h : H} {p : Nat} {s : Sl} {F : Nat → Prop} {vs : List S_kin_node} {ns : List Nd}
/-- A node's children lie elsewhere now. -/
theorem TreeAt.setKids (x : TreeAt h p s vs ns) {q : Nat} {v : S_kin_node} {d : Nd} (hv : vs[q]? = some v) (hd : ns[q]? = some d) {h3 : H} {s3 : Sl} {ks : List Int} (b3 : But v.xchildren.foot h h3) (d3 : ∀ c, h3 c = none → h c = none) (bu3 : Buf (cInt .i64) 1 N_int h3 s3 ks) (f3 : ∀ c, s3.foot c → v.xchildren.foot c ∨ h c = none)
    {a : Addr} (ia : isIdx s (q : Int) 3 a) {k : H → Prop} (y : ∀ h4, TreeAt h4 p s (vs.set q ⟨v.xthere, v.xparent, s3⟩) (ns.set q ⟨d.there, d.parent, ks⟩) → But (fun c => v.xchildren.foot c ∨ s.foot c) h h4 → (∀ c, h4 c = none → h c = none) → k h4) : mStore (a.add 2) [Sl.val s3] k h3 := by
  obtain ⟨e1, e2, bk⟩ := x.nd q v d hv hd
  have nS : ∀ c, v.xchildren.foot c → ¬ s.foot c := fun c f g => (x.buf.typed g).ne (x.kidT hv f) (by decide) rfl
  have buS : Buf S_kin_node.cells 3 N_kin_node h3 s vs := x.buf.but b3 fun z hz f => nS _ f ⟨z, hz, rfl⟩
  refine w_set kn_len buS hv ia (v' := ⟨v.xthere, v.xparent, s3⟩) (c1 := (S_kin_node.cells v).take 2) (c2 := [Sl.val v.xchildren]) (c3 := []) (by rfl) (by rfl) (by rfl) (by rfl) fun h4 b4 k4 d4 => ?_
  have k24 : But (fun c => v.xchildren.foot c ∨ s.foot c) h h4 := (b3.mono fun _ f => .inl f).trans (k4.mono fun _ f => .inr f) fun _ f => .inl f
  have bu4 : Buf (cInt .i64) 1 N_int h4 s3 ks := bu3.but k4 fun z hz f => (bu3.typed ⟨z, hz, rfl⟩).ne (buS.typed f) (by decide) rfl
  have lq : q < vs.length := lt_of_get hv
  refine y h4 ⟨k24 _ _ x.cell fun f => f.elim (fun f => (x.kidT hv f).ne (Typed.of x.cell) (by decide) rfl) x.apartP, b4, by simp only [List.length_set]; exact x.len, by rw [List.length_set]; exact x.big, fun j w m ew em => ?_, fun i j w u ew eu hij c fw fu => ?_⟩ k24 fun c e => d3 c (d4 c e)
  · rw [List.getElem?_set] at ew em
    by_cases z : q = j
    · rw [if_pos z, if_pos lq] at ew
      rw [if_pos z, if_pos (lt_of_get hd)] at em
      cases ew; cases em
      exact ⟨e1, e2, bu4⟩
    · rw [if_neg z] at ew em
      obtain ⟨p1, p2, p3⟩ := x.nd j w m ew em
      exact ⟨p1, p2, p3.but k24 fun z' hz f => f.elim (fun f => x.apart q j v w hv ew z _ f ⟨z', hz, rfl⟩) fun f => (p3.typed ⟨z', hz, rfl⟩).ne (x.buf.typed f) (by decide) rfl⟩
  · rw [List.getElem?_set] at ew eu
    have old : ∀ {i : Nat} {w : S_kin_node}, vs[i]? = some w → q ≠ i → ∀ c, s3.foot c → ¬ w.xchildren.foot c := fun {i w} ew z c f g => by
      rcases f3 c f with r | r
      · exact x.apart q i v w hv ew z c r g
      · exact (x.kidT ew g).has r
    by_cases z1 : q = i
    · rw [if_pos z1, if_pos lq] at ew
      cases ew
      have z2 : q ≠ j := fun r => hij (z1.symm.trans r)
      rw [if_neg z2] at eu
      exact old eu z2 c fw fu
    · rw [if_neg z1] at ew
      by_cases z2 : q = j
      · rw [if_pos z2, if_pos lq] at eu
        cases eu
        exact old ew z1 c fu fw
      · rw [if_neg z2] at eu
        exact x.apart i j w u ew eu hij c fw fu
theorem t_KNew {n : Nat} (hn : n ≤ 256) {K : Option Addr × Int → H → Prop} (y : ∀ p s F h', Tree h' p s F (List.replicate n nd0) → Keeps h h' → (∀ c, F c → h c = none) → K (some ⟨p, 0, none⟩, 0) h') : m_kin_New (n : Int) K h := by
  unfold m_kin_New
  refine w_ifF (by simp; omega) (w_make kn_len ⟨false, 0, Sl.nil⟩ rfl rfl rfl (by omega) (by omega) fun s h1 bu k1 f1 _ => w_new fun p fp => ?_)
  refine y p s _ _ ⟨List.replicate n ⟨false, 0, Sl.nil⟩, ⟨upd_same _ _ _, bu.keep (.new fp), by simp, by rw [List.length_replicate]; exact hn, fun i v m e1 e2 => ?_, fun i j v w e1 _ _ c f => ?_⟩, fun c => Iff.rfl⟩ (k1.trans (.new fp)) fun c f => ?_
  · obtain rfl := List.eq_of_mem_replicate (List.mem_of_getElem? e1)
    obtain rfl := List.eq_of_mem_replicate (List.mem_of_getElem? e2)
    exact ⟨rfl, rfl, Buf.nil⟩
  · obtain rfl := List.eq_of_mem_replicate (List.mem_of_getElem? e1)
    obtain ⟨a, ha, _⟩ := f; cases ha
  · rcases f with rfl | f | ⟨v, hv, f⟩
    · exact k1.fresh fp
    · exact f1 c f
    · obtain rfl := List.eq_of_mem_replicate hv
      obtain ⟨a, ha, _⟩ := f; cases ha
theorem t_Kids (x : Tree h p s F ns) {i : Nat} {d : Nd} (hd : ns[i]? = some d) (ht : d.there = true) (hk : d.kids.length ≤ 2 ^ 40) {K : Sl → H → Prop} (y : ∀ s' h', Buf (cInt .i64) 1 N_int h' s' d.kids → Keeps h h' → (∀ c, s'.foot c → h c = none) → K s' h') : m_kin_Tree_Children (some ⟨p, 0, none⟩) (i : Int) K h := by
  obtain ⟨vs, a, b⟩ := x.ex
  unfold m_kin_Tree_Children
  refine t_HasA a ?_
  rw [show hasN ns (i : Int) = true from hasN_iff.2 ⟨d, hd, ht⟩]
  obtain ⟨v, hv⟩ : ∃ v, vs[i]? = some v := ⟨_, List.getElem?_eq_getElem (by have := a.len; have := lt_of_get hd; omega)⟩
  obtain ⟨e1, e2, bk⟩ := a.nd i v d hv hd
  refine w_ifF rfl (t_at a hv fun ad ia ha => w_deref (w_load (v := v.xchildren) (cells := cSl) (At.sub (l1 := (S_kin_node.cells v).take 2) (l3 := []) ha rfl) ?_))
  exact w_clone ci_len ci_plain rfl bk.arr (by omega) y
end
theorem erase_idx (m : Int) : ∀ l : List Int, l.eraseIdx (l.idxOf m) = l.erase m := by
  intro l
  induction l with
  | nil => rfl
  | cons a r ih =>
    rw [List.idxOf_cons, List.erase_cons]
    by_cases e : a = m
    · subst e; simp
    · have : (a == m) = false := by simpa using e
      simp [this, ih]
def cutN (ns : List Nd) (m : Nat) : List Nd := match ns[m]? with
  | none => ns
  | some d => if d.parent < 0 then ns.set m nd0 else match ns[d.parent.toNat]? with
    | none => ns
    | some dq => (ns.set d.parent.toNat ⟨dq.there, dq.parent, dq.kids.erase (m : Int)⟩).set m nd0
section
variable {h : H} {p : Nat} {s : Sl} {F : Nat → Prop} {vs : List S_kin_node} {ns : List Nd}
theorem t_KCut (x : Tree h p s F ns) {m : Nat} {d : Nd} (hd : ns[m]? = some d) (ht : d.there = true) (h0 : d.kids = []) (hq : 0 ≤ d.parent → d.parent.toNat ≠ m ∧ ∃ dq, ns[d.parent.toNat]? = some dq ∧ (m : Int) ∈ dq.kids ∧ dq.kids.length ≤ 256)
    {K : Int → H → Prop} (y : ∀ h' F', Tree h' p s F' (cutN ns m) → KChg F F' h h' → K 0 h') : m_kin_Tree_Cut (some ⟨p, 0, none⟩) (m : Int) K h := by
  obtain ⟨vs, a, b⟩ := x.ex
  unfold m_kin_Tree_Cut
  refine t_HasA a ?_
  rw [show hasN ns (m : Int) = true from hasN_iff.2 ⟨d, hd, ht⟩]
  obtain ⟨v, hv⟩ : ∃ v, vs[m]? = some v := ⟨_, List.getElem?_eq_getElem (by have := a.len; have := lt_of_get hd; omega)⟩
  obtain ⟨e1, e2, bk⟩ := a.nd m v d hv hd
  refine w_ifF rfl (cv_at a hv fun ad ia ha => w_deref (w_load (v := v.xchildren) (cells := cSl) (At.sub (l1 := (S_kin_node.cells v).take 2) (l3 := []) ha rfl) ?_))
  have hl0 : v.xchildren.len = 0 := by have := bk.len; rw [h0] at this; exact this
  refine w_ifF (by rw [hl0]; rfl) ?_
  -- what stands behind the parent's change
  refine w_joinP (fun _ h1 => ∃ vs1 ns1, TreeAt h1 p s vs1 ns1 ∧ vs1[m]? = some v ∧ ns1.set m nd0 = cutN ns m ∧ But F h h1 ∧ (∀ c, TFoot p s vs1 c → F c) ∧ ∀ c, h1 c = none → h c = none) (fun j hj => ?_) ?_
  · refine cv_at a hv fun ad1 ia1' ha1 => w_deref (w_load (v := v.xparent) (cells := cInt .i64) (At.sub (l1 := (S_kin_node.cells v).take 1) (l3 := (S_kin_node.cells v).drop 2) ha1 rfl) (w_if' (fun c => ?_) fun c => ?_))
    · have c : 0 ≤ d.parent := by rw [← e2]; exact c
      obtain ⟨hne, dq, hdq, hmem, hlen⟩ := hq c
      clear hq
      generalize hqd : d.parent.toNat = q at *
      have ep : v.xparent = (q : Int) := by rw [e2]; omega
      rw [ep]
      obtain ⟨vq, hvq⟩ : ∃ vq, vs[q]? = some vq := ⟨_, List.getElem?_eq_getElem (by have := a.len; have := lt_of_get hdq; omega)⟩
      obtain ⟨g1, g2, bq⟩ := a.nd q vq dq hvq hdq
      refine cv_at a hvq fun aq iq haq => w_deref ?_
      have lkid : At h (aq.add 2) (cSl vq.xchildren) := At.sub (l1 := (S_kin_node.cells vq).take 2) (l3 := []) haq rfl
      refine w_load lkid ?_
      unfold m_slices_Index_int_int
      refine w_index bq.arr (by omega) hmem (w_deref (w_load lkid ?_))
      unfold m_slices_Delete_int_int
      have hix := List.idxOf_lt_length_of_mem hmem
      refine w_delete (by_ := 8) (k := fun r18 => mDeref (some aq) fun ad19 => mStore (ad19.add 2) [Sl.val r18] (j ())) ci_len ci_plain 0 rfl bq hix (by omega) rfl ?_ ?_
      · rw [iAdd_eq (by omega) (by omega)]; omega
      intro s3 h3 bu3 f3 b3 d3
      refine w_deref ?_
      rw [erase_idx] at bu3
      refine a.setKids hvq hdq b3 d3 bu3 (fun c f => .inl (f3 c f)) iq fun h4 x4 b4 d4 => ?_
      refine hj _ _ ⟨_, _, x4, by rw [List.getElem?_set, if_neg hne]; exact hv, ?_, b4.mono fun c f => (b c).2 (f.elim (fun f => .inr (.inr ⟨vq, List.mem_of_getElem? hvq, f⟩)) fun f => .inr (.inl f)), fun c f => (b c).2 ?_, d4⟩
      · unfold cutN
        rw [hd]
        simp only
        rw [if_neg (by omega), hqd, hdq]
      · rcases f with f | f | ⟨w, hw, f⟩
        · exact .inl f
        · exact .inr (.inl f)
        · rcases List.mem_or_eq_of_mem_set hw with r | r
          · exact .inr (.inr ⟨w, r, f⟩)
          · subst r; exact .inr (.inr ⟨vq, List.mem_of_getElem? hvq, f3 c f⟩)
    · have c : ¬ 0 ≤ d.parent := by rw [← e2]; exact c
      refine hj _ _ ⟨vs, ns, a, hv, ?_, .refl _ _, fun c f => (b c).2 f, fun _ e => e⟩
      unfold cutN
      rw [hd]
      simp only
      rw [if_pos (by omega)]
  · rintro _ h1 ⟨vs1, ns1, x1, hv1, en, bt1, fo1, dm1⟩
    refine cv_at x1 hv1 fun ad1 ia1' ha1 => w_deref ?_
    refine w_set kn_len x1.buf hv1 ia1' (v' := ⟨false, 0, Sl.nil⟩) (c1 := []) (c2 := S_kin_node.cells v) (c3 := []) (by simp) (by rfl) (by rfl) (add_zero ad1).symm fun h2 b2 k2 d2 => ?_
    have x2 := x1.node (n' := nd0) hv1 b2 k2 Buf.nil ⟨rfl, rfl⟩ (fun c ⟨z, hz, _⟩ => by cases hz) _ rfl
    rw [en] at x2
    refine y h2 _ ⟨_, x2, fun c => Iff.rfl⟩ ⟨bt1.trans k2 fun c f => .inl (fo1 c (.inr (.inl f))), fun c f => .inl (fo1 c ?_), fun c e => dm1 c (d2 c e)⟩
    rcases f with f | f | ⟨w, hw, f⟩
    · exact .inl f
    · exact .inr (.inl f)
    · rcases List.mem_or_eq_of_mem_set hw with r | r
      · exact .inr (.inr ⟨w, r, f⟩)
      · subst r; obtain ⟨z, hz, _⟩ := f; cases hz
end
end Go.Proofs.Ytiajjcboddaenaa.K
namespace Go.Proofs.Ytiajjcboddaenaa.K
open Go
def chN (ns : List Nd) (i : Int) : List Int := if 0 ≤ i then ((ns[i.toNat]?).map Nd.kids).getD [] else []
theorem chN_nat (ns : List Nd) (i : Nat) : chN ns (i : Int) = ((ns[i]?).map Nd.kids).getD [] := by
  unfold chN
  rw [if_pos (by omega), Int.toNat_natCast]
/-- Those below a node all stand in the forest. -/
def LiveL (ns : List Nd) (l : List Int) : Prop := ∀ z, z ∈ l → hasN ns z = true
theorem hasN_nat {ns : List Nd} {z : Int} (x : hasN ns z = true) : ∃ (i : Nat) (d : Nd), z = i ∧ ns[i]? = some d ∧ d.there = true ∧ chN ns z = d.kids := by
  have h0 : 0 ≤ z := by
    unfold hasN at x
    rw [Bool.and_eq_true] at x
    exact of_decide_eq_true x.1
  obtain ⟨i, rfl⟩ : ∃ i : Nat, z = i := ⟨z.toNat, by omega⟩
  obtain ⟨d, h1, h2⟩ := hasN_iff.1 x
  exact ⟨i, d, rfl, h1, h2, by rw [chN_nat, h1]; rfl⟩
theorem concat_of {T : Type} {l : List T} {n : Nat} (h : l.length = n + 1) : ∃ a x, l = a ++ [x] ∧ a.length = n := by
  rcases List.eq_nil_or_concat l with q | ⟨a, x, q⟩
  · subst q; simp at h
  · rw [List.concat_eq_append] at q; subst q; exact ⟨a, x, rfl, by simp at h; exact h⟩
theorem cut_front {s : Sl} {n : Nat} {i j : Int} {h : H} (hi : i = 0) (hj : j = n) (hn : n ≤ s.cap) {k : Sl → H → Prop} {size : Nat} (y : k ⟨s.a, n, s.cap⟩ h) : mCut s i j size k h := by
  refine w_cut (lo := 0) (hi := n) hi hj (Nat.zero_le _) hn ?_
  have hcut : (if s.cap = 0 then s.a else s.a.map (·.add (0 * size))) = s.a := by
    split
    · rfl
    · cases s.a <;> simp [add_zero]
  rw [hcut, Nat.sub_zero, Nat.sub_zero]
  exact y
section
variable {h : H} {p : Nat} {s : Sl} {F : Nat → Prop} {ns : List Nd}
theorem t_down (x : Tree h p s F ns) {n : Nat} {turn : Bool} {c' : Int → List Int} (hc' : ∀ z, c' z = if turn then (chN ns z).reverse else chN ns z) {l : List Int} (hl : PreL c' [(n : Int)] l) (live : LiveL ns l) (len : l.length ≤ 4096) {K : Sl → H → Prop}
    (y : ∀ s' h', Buf (cInt .i64) 1 N_int h' s' l → Keeps h h' → (∀ c, s'.foot c → h c = none) → K s' h') : m_walk_down (some ⟨p, 0, none⟩) (n : Int) turn K h := by
  unfold m_walk_down
  refine t_Has x ?_
  have hn : (n : Int) ∈ l := by cases hl; exact List.mem_cons_self ..
  rw [live _ hn]
  refine w_ifF rfl (w_new fun b hb => ?_)
  refine w_for l.length (fun i (z : Sl × Sl) h' => ∃ st, Buf (cInt .i64) 1 N_int h' z.1 (l.take i) ∧ Buf (cInt .i64) 1 N_int h' z.2 st ∧ PreL c' st.reverse (l.drop i) ∧ Keeps h h' ∧ (∀ c, z.1.foot c → h c = none) ∧ (∀ c, z.2.foot c → h c = none) ∧ ∀ c, z.1.foot c → ¬ z.2.foot c) ?_ ?_
  rotate_left
  · exact ⟨[(n : Int)], Buf.nil, ⟨rfl, Nat.le_refl _, .inr ⟨b, [], (0, 0), rfl, upd_same _ _ _, rfl, thawed0 _⟩⟩, hl, .new hb, fun c ⟨a, q, _⟩ => by (cases q), fun c ⟨a, q, r⟩ => by (cases q; subst r; exact hb), fun c ⟨a, q, _⟩ => by cases q⟩
  rintro rec i ⟨out, sk⟩ h1 hi ⟨st, bo, bs, hp, kp, fo, fs, ap⟩ more
  have bo : Buf (cInt .i64) 1 N_int h1 out (l.take i) := bo
  have bs : Buf (cInt .i64) 1 N_int h1 sk st := bs
  have ls := bs.len
  refine w_if' (fun c => ?_) fun c => ?_
  · have c : 0 < (sk.len : Int) := c
    obtain ⟨m, hm⟩ : ∃ m, st.length = m + 1 := ⟨st.length - 1, by omega⟩
    obtain ⟨st', z, rfl, hst⟩ := concat_of hm
    have hle := hp.le
    rw [List.length_reverse, List.length_drop] at hle
    rw [List.reverse_append] at hp
    have hp : PreL c' (z :: st'.reverse) (l.drop i) := hp
    have hil : i < l.length := by omega
    -- the node and those below it
    obtain ⟨l1, L1, e, p1, p2⟩ : ∃ l1 L1, l.drop i = z :: (l1 ++ L1) ∧ PreL c' (c' z) l1 ∧ PreL c' st'.reverse L1 := by
      generalize hd : l.drop i = d at hp
      cases hp with
      | cons a b => exact ⟨_, _, rfl, a, b⟩
    have hz : l[i]? = some z := by
      have := congrArg (fun q : List Int => q[0]?) e
      simpa [List.getElem?_drop] using this
    obtain ⟨j, d, rfl, hd, hth, hch⟩ := hasN_nat (live z (List.mem_of_getElem? hz))
    have hkl : d.kids.length ≤ 4096 := by
      have q1 := p1.le
      have q2 := congrArg List.length e
      rw [List.length_drop, List.length_cons, List.length_append] at q2
      rw [hc', hch] at q1
      have : d.kids.length ≤ l1.length := by
        cases turn with
        | true => simpa using q1
        | false => simpa using q1
      omega
    have hcap := bs.cap
    show mIdx sk (iSub .i64 (sk.len : Int) 1) 1 _ h1
    rw [ls, hm, is1 (m + 1) (by omega) (by omega)]
    refine w_idx (i := m) (v := (j : Int)) ci_len bs.arr (by rw [← hst]; simp) (by omega) fun a _ ha => w_load ha ?_
    refine cut_front (s := sk) rfl (n := m) (by omega) (by omega) ?_
    have bs2 : Buf (cInt .i64) 1 N_int h1 ⟨sk.a, m, sk.cap⟩ st' := by
      have := bs.front (n := m) (by omega)
      rwa [← hst, List.take_left, hst] at this
    refine w_app (by_ := 8) ci_len rfl bo [(j : Int)] rfl rfl (.inl (by rw [List.length_take]; simp only [List.length_singleton]; omega)) fun o2 h2 bo2 b2 f2 d2 => ?_
    have bs3 := bs2.but b2 fun a ha f => ap _ f ⟨a, ha, rfl⟩
    have k2 : Keeps h h2 := kp.but b2 fo
    refine t_Kids (x.keep k2) hd hth (by omega) fun s3 h3 bu3 k3 f3 => ?_
    refine w_joinP (fun _ h4 => Buf (cInt .i64) 1 N_int h4 s3 (c' (j : Int)).reverse ∧ But s3.foot h3 h4 ∧ ∀ c, h4 c = none → h3 c = none) (fun J hJ => ?_) ?_
    · refine w_if (fun e0 => ?_) fun e0 => ?_
      · unfold m_slices_Reverse_int_int
        refine w_reverse bu3 (by omega) fun h4 bu4 b4 d4 => hJ _ _ ⟨?_, b4, d4⟩
        rw [hc', hch]
        cases turn with
        | true => cases e0
        | false => exact bu4
      · refine hJ _ _ ⟨?_, .refl _ _, fun _ q => q⟩
        rw [hc', hch]
        cases turn with
        | true => rw [if_pos rfl, List.reverse_reverse]; exact bu3
        | false => cases e0
    · rintro _ h4 ⟨bu4, b4, d4⟩
      have bs4 : Buf (cInt .i64) 1 N_int h4 ⟨sk.a, m, sk.cap⟩ st' := (bs3.keep k3).but b4 fun a ha f => bs3.has ⟨a, ha, rfl⟩ (f3 _ f)
      have bo4 : Buf (cInt .i64) 1 N_int h4 o2 (l.take i ++ [(j : Int)]) := (bo2.keep k3).but b4 fun a ha f => bo2.has ⟨a, ha, rfl⟩ (f3 _ f)
      have hkl' : (c' (j : Int)).reverse.length = d.kids.length := by
        rw [hc', hch]; cases turn <;> simp
      refine w_append (by_ := 8) ci_len ci_plain rfl bs4 bu4.arr (.inl (by rw [hkl']; omega)) fun s5 h5 bu5 b5 f5 d5 => ?_
      have dsj : ∀ c, o2.foot c → ¬ (⟨sk.a, m, sk.cap⟩ : Sl).foot c := fun c f g => by
        rcases f2 c f with q | q
        · exact ap c q g
        · exact bs2.has g q
      refine more _ _ hil ⟨st' ++ (c' (j : Int)).reverse, ?_, bu5, ?_, ?_, fun c f => ?_, fun c f => ?_, fun c f g => ?_⟩
      · have := bo4.but b5 fun a ha f => dsj _ ⟨a, ha, rfl⟩ f
        have e1 : l.take (i + 1) = l.take i ++ [(j : Int)] := by rw [List.take_add_one, hz]; rfl
        rw [e1]; exact this
      · rw [List.reverse_append, List.reverse_reverse]
        have e2 : l.drop (i + 1) = l1 ++ L1 := by
          have := congrArg List.tail e
          simpa [List.tail_drop] using this
        rw [e2]
        exact p1.append p2
      · refine ((k2.trans k3).but b4 fun c f => k2.fresh (f3 c f)).but b5 fun c f => fs c f
      · rcases f2 c f with q | q
        · exact fo c q
        · exact kp.fresh q
      · rcases f5 c f with q | q
        · exact fs c q
        · exact k2.fresh (k3.fresh (d4 c q))
      · rcases f5 c g with q | q
        · exact dsj c f q
        · exact bo2.has f (k3.fresh (d4 c q))
  · have c : ¬ 0 < (sk.len : Int) := c
    obtain rfl : st = [] := List.length_eq_zero_iff.1 (by omega)
    have hp : PreL c' [] (l.drop i) := hp
    generalize hd : l.drop i = d at hp
    cases hp
    have : l.take i = l := by rw [List.take_of_length_le]; have := congrArg List.length hd; rw [List.length_drop] at this; simp at this; omega
    rw [this] at bo
    exact y _ _ bo kp fo
/-- Children ahead of their parents. -/
theorem t_Fall (x : Tree h p s F ns) {n : Nat} {m : List Int} (hm : PreL (fun z => (chN ns z).reverse) [(n : Int)] m) (live : LiveL ns m) (len : m.length ≤ 4096) {K : Sl → H → Prop}
    (y : ∀ s' h', Buf (cInt .i64) 1 N_int h' s' m.reverse → Keeps h h' → (∀ c, s'.foot c → h c = none) → K s' h') : m_walk_Fall (some ⟨p, 0, none⟩) (n : Int) K h := by
  unfold m_walk_Fall
  refine t_down x (turn := true) (fun _ => rfl) hm live len fun s1 h1 bu1 k1 f1 => ?_
  unfold m_slices_Reverse_int_int
  exact w_reverse (K := fun _ => K s1) bu1 (by omega) fun h2 bu2 b2 d2 => y _ _ bu2 (k1.but b2 f1) f1
/-- A range over the nodes below one: 'J' is what the rounds keep, 'G' its blocks. -/
theorem w_Down (x : Tree h p s F ns) {n : Nat} {l : List Int} (hl : PreL (chN ns) [(n : Int)] l) (live : LiveL ns l) (len : l.length ≤ 4096)
    {body : Int → ((H → Prop) → H → Prop) → (Nat → H → Prop) → H → Prop} {k : Nat → H → Prop} (b : Int → (Nat → H → Prop) → H → Prop) (hb : ∀ x mid kj, body x mid kj = mid (b x kj))
    (J : (Nat → Prop) → Nat → H → Prop) (has : ∀ G i h, J G i h → ∀ c, G c → h c ≠ none) (stab : ∀ G i h h' E, J G i h → But E h h' → (∀ c, E c → ¬ G c) → J G i h') {G0 : Nat → Prop} (j0 : J G0 0 h)
    (step : ∀ (i : Nat) (z : Nat), l[i]? = some (z : Int) → ∀ G h' kj, J G i h' → (∀ G' h'', J G' (i + 1) h'' → KChg G G' h' h'' → kj 0 h'') → b (z : Int) kj h')
    (y : ∀ G h', J G l.length h' → KChg G0 G h h' → k 0 h') :
    m_walk_Down (some ⟨p, 0, none⟩) (n : Int) (fun r => mRangeF (A := Int) Try.prog (fun x => [(Value.int .i64 x)]) r.1 body k) h := by
  unfold m_walk_Down m_walk_told
  refine w_new fun b1 hb1 => w_new fun b2 hb2 => w_new fun b3 hb3 => ?_
  generalize eh1 : upd h b1 (.cells #[Value.pointer (some ⟨p, 0, none⟩)] 211 (0, 0)) = h1 at *
  generalize eh2 : upd h1 b2 (.cells #[Value.int .i64 (n : Int)] 3 (0, 0)) = h2 at *
  generalize eh3 : upd h2 b3 _ = h3
  have k1 : Keeps h h1 := eh1 ▸ .new hb1
  have k2 : Keeps h1 h2 := eh2 ▸ .new hb2
  have k3 : Keeps h2 h3 := eh3 ▸ .new hb3
  have c1 : h1 b1 = some (.cells #[Value.pointer (some ⟨p, 0, none⟩)] 211 (0, 0)) := by rw [← eh1]; exact upd_same _ _ _
  have c2 : h2 b2 = some (.cells #[Value.int .i64 (n : Int)] 3 (0, 0)) := by rw [← eh2]; exact upd_same _ _ _
  have c3 : h3 b3 = some (.cells #[Value.func (.func 206) #[] #[(Value.pointer (some ⟨b1, 0, none⟩)), (Value.pointer (some ⟨b2, 0, none⟩))]] 308 (0, 0)) := by rw [← eh3]; exact upd_same _ _ _
  have k03 : Keeps h h3 := (k1.trans k2).trans k3
  refine ⟨247, Try.f247, #[], #[.pointer (some ⟨b3, 0, none⟩)], rfl, callee247, fun w ob bz hw law => ?_⟩
  have kw : Keeps h3 (upd h3 w (ob 0)) := .new hw
  suffices hm : m_walk_told_1 (⟨.func (.yield w) #[] #[], rfl, rfl⟩ : PV) ⟨b3, 0, none⟩ (fun _ h'' => ∃ j, h'' w = some (ob j) ∧ ∀ o, k j (upd h'' w o)) (upd h3 w (ob 0)) from
    (s_walk_told_1.ok ((⟨.func (.yield w) #[] #[], rfl, rfl⟩ : PV), (⟨b3, 0, none⟩ : Addr)) (fun _ h'' => ∃ j, h'' w = some (ob j) ∧ ∀ o, k j (upd h'' w o)) _ hm).mono (fun v h'' ⟨_, _, q⟩ => q) fun _ _ q => q
  unfold m_walk_told_1
  have a3 := kw _ _ c3
  refine w_load (v := (⟨Value.func (.func 206) #[] #[(Value.pointer (some ⟨b1, 0, none⟩)), (Value.pointer (some ⟨b2, 0, none⟩))], rfl, rfl⟩ : PV)) (At.own (l1 := []) (l3 := []) a3 rfl) ?_
  have use : ∀ {K : Sl → H → Prop} {h' : H}, m_walk_Down_1 (⟨b1, 0, none⟩ : Addr) (⟨b2, 0, none⟩ : Addr) K h' → mCallV (T := Sl) Try.prog (fun r => Sl.val r) (.func (.func 206) #[] #[(Value.pointer (some ⟨b1, 0, none⟩)), (Value.pointer (some ⟨b2, 0, none⟩))]) [] K h' := fun hm =>
    callV_of s_walk_Down_1 (first := #[]) (cap := #[(Value.pointer (some ⟨b1, 0, none⟩)), (Value.pointer (some ⟨b2, 0, none⟩))]) (args := []) ((⟨b1, 0, none⟩ : Addr), (⟨b2, 0, none⟩ : Addr)) rfl hm
  refine use ?_
  unfold m_walk_Down_1
  refine w_load (v := some ⟨p, 0, none⟩) (cells := cPtr) (At.own (l1 := []) (l3 := []) (kw _ _ (k3 _ _ (k2 _ _ c1))) rfl) (w_load (v := (n : Int)) (cells := cInt .i64) (At.own (l1 := []) (l3 := []) (kw _ _ (k3 _ _ c2)) rfl) ?_)
  refine t_down ((x.keep k03).keep kw) (turn := false) (fun _ => rfl) hl live len fun s4 h4 bu4 k4 f4 => ?_
  have hw0 : h w = none := k03.fresh hw
  have hw4 : h4 w = some (ob 0) := k4 _ _ (upd_same _ _ _)
  have nG : ∀ c, G0 c → c ≠ w := fun c g e => has _ _ _ j0 c g (e ▸ hw0)
  refine w_for l.length (fun i z h' => z = (i : Int) ∧ i ≤ l.length ∧ ∃ G, J G i h' ∧ KChg G0 G h h' ∧ h' w = some (ob 0) ∧ ¬ G w ∧ Buf (cInt .i64) 1 N_int h' s4 l ∧ ∀ c, s4.foot c → ¬ G c) ?_ ?_
  rotate_left
  · refine ⟨rfl, Nat.zero_le _, G0, stab _ _ _ _ (fun _ => False) j0 (.of ((k03.trans kw).trans k4)) (fun _ q => q.elim), ⟨.of ((k03.trans kw).trans k4), fun c g => .inl g, fun c q => ((k03.trans kw).trans k4).fresh q⟩, hw4, fun g => nG _ g rfl, bu4, fun c f g => ?_⟩
    exact has _ _ _ j0 c g (k03.fresh (kw.fresh (f4 c f)))
  rintro rec i z h' hi ⟨rfl, _, G, jg, kg, hw', gw, bu, fg⟩ more
  have hl4 := bu.len
  have fw : ¬ s4.foot w := fun f => by have := f4 w f; rw [upd_same] at this; cases this
  refine w_if' (fun c => ?_) fun c => ?_
  · have c : (i : Int) < (s4.len : Int) := c
    have hil : i < l.length := by omega
    have hz := List.getElem?_eq_getElem hil
    refine w_idx ci_len bu.arr hz rfl fun a _ ha => w_load ha ?_
    obtain ⟨zn, hzn⟩ : ∃ zn : Nat, l[i] = (zn : Int) := by
      obtain ⟨j, _, e, _⟩ := hasN_nat (live _ (List.getElem_mem hil))
      exact ⟨j, e⟩
    rw [hzn] at hz ⊢
    -- a round
    refine .inr ⟨w, rfl, law (zn : Int) _ h' hw' ?_⟩
    rw [hb]
    refine ⟨hw', ?_⟩
    have bE : But (fun c => c = w) h' (upd h' w bz) := .upd rfl
    refine step i zn hz G _ _ (stab _ _ _ _ _ jg bE fun c q g => gw (q ▸ g)) fun G' h'' jg' kg' => ?_
    have gw' : ¬ G' w := fun g => (kg'.foot w g).elim gw fun q => by rw [upd_same] at q; cases q
    have hwz : h'' w = some bz := kg'.but w bz (upd_same _ _ _) gw
    refine ⟨hwz, ?_⟩
    have bE2 : But (fun c => c = w) h'' (upd h'' w (ob 0)) := .upd rfl
    have dm : ∀ c, upd h'' w (ob 0) c = none → h' c = none := fun c q => (upd_none.1 (kg'.dom c (upd_none.1 q).2)).2
    have kgg : KChg G G' h' (upd h'' w (ob 0)) := ⟨fun b o' e ng => ?_, fun c g => (kg'.foot c g).imp id fun q => (upd_none.1 q).2, dm⟩
    · refine w_ifF rfl (more _ _ hil ⟨ia1 i (by omega), by omega, G', stab _ _ _ _ _ jg' bE2 (fun c q g => gw' (q ▸ g)), kg.trans kgg, upd_same _ _ _, gw', bu.but kgg.but fun a ha f => fg _ ⟨a, ha, rfl⟩ f, fun c f g => ?_⟩)
      rcases kgg.foot c g with q | q
      · exact fg c f q
      · exact bu.has f q
    · by_cases q : b = w
      · subst q; rw [hw'] at e; cases e; exact upd_same _ _ _
      · rw [upd_ne _ _ q]
        exact kg'.but b o' (by rw [upd_ne _ _ q]; exact e) ng
  · have c : ¬ (i : Int) < (s4.len : Int) := c
    obtain rfl : i = l.length := by omega
    refine ⟨0, hw', fun o => y G _ (stab _ _ _ _ (· = w) jg (.upd rfl) fun c q g => gw (q ▸ g)) ⟨fun b o' e ng => ?_, kg.foot, fun c q => kg.dom c (upd_none.1 q).2⟩⟩
    have hbw : b ≠ w := fun q => by rw [q, hw0] at e; cases e
    rw [upd_ne _ _ hbw]; exact kg.but b o' e ng
end
end Go.Proofs.Ytiajjcboddaenaa.K
