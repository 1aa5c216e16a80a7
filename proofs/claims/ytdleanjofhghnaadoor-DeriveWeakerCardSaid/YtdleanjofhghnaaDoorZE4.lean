/- deriveWeaker: true at every input, the arguments as they were: no condition. Part 4 of 5. -/
import Derived.Test.YtdleanjofhghnaaDoorZE3
namespace Go.Proofs.YtdleanjofhghnaaDoor.K
theorem nodup_rev {l : List Int} (h : l.Nodup) : l.reverse.Nodup := (List.Perm.nodup_iff (List.reverse_perm l)).2 h
inductive PreL (ch : Int → List Int) : List Int → List Int → Prop
  | nil : PreL ch [] []
  | cons {x : Int} {ys l L : List Int} : PreL ch (ch x) l → PreL ch ys L → PreL ch (x :: ys) (x :: (l ++ L))
inductive PostL (ch : Int → List Int) : List Int → List Int → Prop
  | nil : PostL ch [] []
  | cons {x : Int} {ys l L : List Int} : PostL ch (ch x) l → PostL ch ys L → PostL ch (x :: ys) (l ++ x :: L)
inductive Desc (ch : Int → List Int) (x : Int) : Int → Prop
  | refl : Desc ch x x
  | snoc {y z : Int} : Desc ch x y → z ∈ ch y → Desc ch x z
section
variable {ch : Int → List Int}
theorem PreL.append {a la b lb : List Int} (x : PreL ch a la) (y : PreL ch b lb) : PreL ch (a ++ b) (la ++ lb) := by
  induction x with
  | nil => exact y
  | cons p q ih1 ih2 => rw [List.cons_append, List.cons_append, List.append_assoc]; exact .cons p ih2
theorem PostL.append {a la b lb : List Int} (x : PostL ch a la) (y : PostL ch b lb) : PostL ch (a ++ b) (la ++ lb) := by
  induction x with
  | nil => exact y
  | cons p q ih1 ih2 => rw [List.cons_append, List.append_assoc, List.cons_append]; exact .cons p ih2
theorem PreL.inj {a l : List Int} (x : PreL ch a l) : ∀ {m : List Int}, PreL ch a m → l = m := by
  induction x with
  | nil => intro m y; cases y; rfl
  | cons p q ih1 ih2 =>
    intro m y
    cases y with
    | cons p' q' => rw [ih1 p', ih2 q']
theorem PreL.le {a l : List Int} (x : PreL ch a l) : a.length ≤ l.length := by
  induction x with
  | nil => exact Nat.le_refl _
  | cons p q ih1 ih2 => simp only [List.length_cons, List.length_append]; omega
theorem PreL.mirror {a l : List Int} (x : PreL (fun z => (ch z).reverse) a l) : PostL ch a.reverse l.reverse := by
  induction x with
  | nil => exact .nil
  | @cons z ys l L p q ih1 ih2 =>
    rw [List.reverse_cons, List.reverse_cons, List.reverse_append, List.append_assoc]
    refine ih2.append ?_
    rw [List.reverse_reverse] at ih1
    exact .cons ih1 .nil
theorem Desc.cons {x y z : Int} (hy : y ∈ ch x) (d : Desc ch y z) : Desc ch x z := by
  induction d with
  | refl => exact .snoc .refl hy
  | snoc _ h ih => exact .snoc ih h
theorem Desc.head {x z : Int} (d : Desc ch x z) : z = x ∨ ∃ y, y ∈ ch x ∧ Desc ch y z := by
  induction d with
  | refl => exact .inl rfl
  | snoc d h ih =>
    rcases ih with rfl | ⟨y, hy, e⟩
    · exact .inr ⟨_, h, .refl⟩
    · exact .inr ⟨y, hy, .snoc e h⟩
theorem Desc.trans {x y z : Int} (a : Desc ch x y) (b : Desc ch y z) : Desc ch x z := by
  induction b with
  | refl => exact a
  | snoc _ h ih => exact .snoc ih h
theorem PreL.mem {a l : List Int} (x : PreL ch a l) {z : Int} : z ∈ l ↔ ∃ r, r ∈ a ∧ Desc ch r z := by
  induction x with
  | nil => simp
  | @cons y ys l L p q ih1 ih2 =>
    rw [List.mem_cons, List.mem_append, ih1, ih2]
    constructor
    · rintro (rfl | ⟨r, hr, d⟩ | ⟨r, hr, d⟩)
      · exact ⟨z, List.mem_cons_self .., .refl⟩
      · exact ⟨y, List.mem_cons_self .., d.cons hr⟩
      · exact ⟨r, List.mem_cons_of_mem _ hr, d⟩
    · rintro ⟨r, hr, d⟩
      rcases List.mem_cons.1 hr with rfl | hr
      · rcases d.head with e | ⟨w, hw, e⟩
        · exact .inl e
        · exact .inr (.inl ⟨w, hw, e⟩)
      · exact .inr (.inr ⟨r, hr, d⟩)
theorem PostL.mem {a l : List Int} (x : PostL ch a l) {z : Int} : z ∈ l ↔ ∃ r, r ∈ a ∧ Desc ch r z := by
  induction x with
  | nil => simp
  | @cons y ys l L p q ih1 ih2 =>
    rw [List.mem_append, List.mem_cons, ih1, ih2]
    constructor
    · rintro (⟨r, hr, d⟩ | rfl | ⟨r, hr, d⟩)
      · exact ⟨y, List.mem_cons_self .., d.cons hr⟩
      · exact ⟨z, List.mem_cons_self .., .refl⟩
      · exact ⟨r, List.mem_cons_of_mem _ hr, d⟩
    · rintro ⟨r, hr, d⟩
      rcases List.mem_cons.1 hr with rfl | hr
      · rcases d.head with e | ⟨w, hw, e⟩
        · exact .inr (.inl e)
        · exact .inl ⟨w, hw, e⟩
      · exact .inr (.inr ⟨r, hr, d⟩)
theorem PreL.behind {a l : List Int} (x : PreL ch a l) : ∀ {i : Nat} {z : Int}, l[i]? = some z → z ∈ a ∨ ∃ y, y ∈ l.take i ∧ z ∈ ch y := by
  induction x with
  | nil => intro i z e; simp at e
  | @cons y ys l L p q ih1 ih2 =>
    intro i z e
    cases i with
    | zero => simp at e; subst e; exact .inl (List.mem_cons_self ..)
    | succ i =>
      rw [List.getElem?_cons_succ, List.getElem?_append] at e
      rw [List.take_succ_cons]
      split at e
      · rename_i hi
        rcases ih1 e with r | ⟨w, hw, hz⟩
        · exact .inr ⟨y, List.mem_cons_self .., r⟩
        · refine .inr ⟨w, List.mem_cons_of_mem _ ?_, hz⟩
          rw [List.take_append]
          exact List.mem_append_left _ hw
      · rename_i hi
        rcases ih2 e with r | ⟨w, hw, hz⟩
        · exact .inl (List.mem_cons_of_mem _ r)
        · refine .inr ⟨w, List.mem_cons_of_mem _ ?_, hz⟩
          rw [List.take_append]
          exact List.mem_append_right _ hw
theorem PostL.behind {a l : List Int} (x : PostL ch a l) : ∀ {i : Nat} {z : Int}, l[i]? = some z → ∀ y, y ∈ ch z → y ∈ l.take i := by
  induction x with
  | nil => intro i z e; simp at e
  | @cons w ys l L p q ih1 ih2 =>
    intro i z e y hy
    rw [List.getElem?_append] at e
    rw [List.take_append]
    split at e
    · exact List.mem_append_left _ (ih1 e y hy)
    · rename_i hi
      have hl : l.length ≤ i := by omega
      cases hk : i - l.length with
      | zero =>
        rw [hk] at e; simp at e; subst e
        rw [List.take_of_length_le hl]
        exact List.mem_append_left _ (p.mem.2 ⟨y, hy, .refl⟩)
      | succ k =>
        rw [hk, List.getElem?_cons_succ] at e
        rw [List.take_succ_cons]
        exact List.mem_append_right _ (List.mem_cons_of_mem _ (ih2 e y hy))
structure Forest (ch : Int → List Int) : Prop where
  uniq : ∀ x y z, z ∈ ch x → z ∈ ch y → x = y
  nd : ∀ x, (ch x).Nodup
  rank : ∃ (w : Int → Nat) (B : Nat), ∀ x y, y ∈ ch x → w x < w y ∧ w y ≤ B
theorem Forest.mirror (f : Forest ch) : Forest (fun z => (ch z).reverse) :=
  ⟨fun x y z a b => f.uniq x y z (List.mem_reverse.1 a) (List.mem_reverse.1 b), fun x => nodup_rev (f.nd x), by obtain ⟨w, B, h⟩ := f.rank; exact ⟨w, B, fun x y e => h x y (List.mem_reverse.1 e)⟩⟩
theorem Forest.comp (f : Forest ch) {a z : Int} (x : Desc ch a z) : ∀ {b : Int}, Desc ch b z → Desc ch a b ∨ Desc ch b a := by
  induction x with
  | refl => exact fun y => .inr y
  | @snoc y z d h ih =>
    intro b e
    cases e with
    | refl => exact .inl (.snoc d h)
    | snoc d' h' =>
      obtain rfl := f.uniq _ _ _ h h'
      exact ih d'
theorem Forest.acyc (f : Forest ch) {x y : Int} (hy : y ∈ ch x) (d : Desc ch y x) : False := by
  obtain ⟨w, B, hw⟩ := f.rank
  have le : ∀ {a b}, Desc ch a b → w a ≤ w b := fun d => by
    induction d with
    | refl => exact Nat.le_refl _
    | snoc _ h ih => have := (hw _ _ h).1; omega
  have := le d
  have := (hw _ _ hy).1
  omega
theorem Forest.kids (f : Forest ch) {x a b : Int} (ha : a ∈ ch x) (hb : b ∈ ch x) (d : Desc ch a b) : a = b := by
  cases d with
  | refl => rfl
  | snoc d h =>
    obtain rfl := f.uniq _ _ _ h hb
    exact (f.acyc ha d).elim
theorem PreL.nodup (f : Forest ch) {a l : List Int} (x : PreL ch a l) (hn : a.Nodup) (ha : ∀ p q, p ∈ a → q ∈ a → Desc ch p q → p = q) : l.Nodup := by
  induction x with
  | nil => exact List.nodup_nil
  | @cons y ys l L p q ih1 ih2 =>
    rw [List.nodup_cons] at hn
    have h1 := ih1 (f.nd y) fun a b ha hb d => f.kids ha hb d
    have h2 := ih2 hn.2 fun a b pa pb d => ha a b (List.mem_cons_of_mem _ pa) (List.mem_cons_of_mem _ pb) d
    rw [List.nodup_cons, List.mem_append, List.nodup_append]
    refine ⟨fun e => ?_, h1, h2, fun z hz z' hz' e => ?_⟩
    · rcases e with e | e
      · obtain ⟨r, hr, d⟩ := p.mem.1 e
        exact f.acyc hr d
      · obtain ⟨r, hr, d⟩ := q.mem.1 e
        have := ha r y (List.mem_cons_of_mem _ hr) (List.mem_cons_self ..) d
        exact hn.1 (this ▸ hr)
    · subst e
      obtain ⟨r, hr, d⟩ := p.mem.1 hz
      obtain ⟨r', hr', d'⟩ := q.mem.1 hz'
      have dy : Desc ch y z := d.cons hr
      rcases f.comp (b := r') dy d' with c | c
      · have := ha y r' (List.mem_cons_self ..) (List.mem_cons_of_mem _ hr') c
        exact hn.1 (this ▸ hr')
      · have := ha r' y (List.mem_cons_of_mem _ hr') (List.mem_cons_self ..) c
        exact hn.1 (this ▸ hr')
theorem PreL.nodup1 (f : Forest ch) {n : Int} {l : List Int} (x : PreL ch [n] l) : l.Nodup := x.nodup f (by simp) fun p q hp hq _ => (List.mem_singleton.1 hp).trans (List.mem_singleton.1 hq).symm
theorem PreL.ex (f : Forest ch) : ∀ a, ∃ l, PreL ch a l := by
  obtain ⟨w, B, hw⟩ := f.rank
  have main : ∀ k, ∀ a : List Int, (∀ x ∈ a, B + 1 - w x < k) → ∃ l, PreL ch a l := by
    intro k
    induction k with
    | zero =>
      intro a ha
      cases a with
      | nil => exact ⟨[], .nil⟩
      | cons x r => exact absurd (ha x (List.mem_cons_self ..)) (Nat.not_lt_zero _)
    | succ k ih =>
      intro a
      induction a with
      | nil => exact fun _ => ⟨[], .nil⟩
      | cons x r ihr =>
        intro ha
        obtain ⟨L, hL⟩ := ihr fun y hy => ha y (List.mem_cons_of_mem _ hy)
        obtain ⟨l, hl⟩ := ih (ch x) fun y hy => by
          obtain ⟨h1, h2⟩ := hw x y hy
          have := ha x (List.mem_cons_self ..)
          omega
        exact ⟨_, .cons hl hL⟩
  exact fun a => main (B + 2) a fun x _ => by omega
theorem PreL.post (f : Forest ch) {n : Int} {l : List Int} (x : PreL ch [n] l) : ∃ m, PreL (fun z => (ch z).reverse) [n] m ∧ PostL ch [n] m.reverse ∧ m.reverse.Perm l := by
  obtain ⟨m, hm⟩ := PreL.ex f.mirror [n]
  refine ⟨m, hm, hm.mirror, ?_⟩
  refine (List.perm_ext_iff_of_nodup (nodup_rev (hm.nodup1 f.mirror)) (x.nodup1 f)).2 fun z => ?_
  rw [hm.mirror.mem, x.mem]
  exact Iff.rfl
end
end Go.Proofs.YtdleanjofhghnaaDoor.K
namespace Go.Proofs.YtdleanjofhghnaaDoor.K
open Go
structure Nd where
  there : Bool
  parent : Int
  kids : List Int
def nd0 : Nd := ⟨false, 0, []⟩
theorem kn_len : ∀ x, (S_kin_node.cells x).length = 3 := fun _ => rfl
structure TreeAt (h : H) (p : Nat) (s : Sl) (vs : List S_kin_node) (ns : List Nd) : Prop where
  cell : h p = some (.cells (S_kin_Tree.cells ⟨s⟩).toArray N_kin_Tree (0, 0))
  buf : Buf S_kin_node.cells 3 N_kin_node h s vs
  len : vs.length = ns.length
  big : ns.length ≤ 256
  nd : ∀ (i : Nat) v n, vs[i]? = some v → ns[i]? = some n → v.xthere = n.there ∧ v.xparent = n.parent ∧ Buf (cInt .i64) 1 N_int h v.xchildren n.kids
  apart : ∀ (i j : Nat) v w, vs[i]? = some v → vs[j]? = some w → i ≠ j → ∀ c, v.xchildren.foot c → ¬ w.xchildren.foot c
def TFoot (p : Nat) (s : Sl) (vs : List S_kin_node) (c : Nat) : Prop := c = p ∨ s.foot c ∨ ∃ v ∈ vs, v.xchildren.foot c
structure Tree (h : H) (p : Nat) (s : Sl) (F : Nat → Prop) (ns : List Nd) : Prop where
  ex : ∃ vs, TreeAt h p s vs ns ∧ ∀ c, F c ↔ TFoot p s vs c
def hasN (ns : List Nd) (i : Int) : Bool := decide (0 ≤ i) && ((ns[i.toNat]?.map Nd.there).getD false)
theorem hasN_iff {ns : List Nd} {i : Nat} : hasN ns (i : Int) = true ↔ ∃ n, ns[i]? = some n ∧ n.there = true := by
  unfold hasN
  rw [decide_eq_true (by omega : (0 : Int) ≤ (i : Int)), Bool.true_and, Int.toNat_natCast]
  cases ns[i]? with
  | none => simp
  | some n => simp
section
variable {h : H} {p : Nat} {s : Sl} {F : Nat → Prop} {vs : List S_kin_node} {ns : List Nd}
theorem TreeAt.apartP (x : TreeAt h p s vs ns) : ¬ s.foot p := fun f => (x.buf.typed f).ne (Typed.of x.cell) (by decide) rfl
theorem TreeAt.kidT (x : TreeAt h p s vs ns) {i : Nat} {v : S_kin_node} (e : vs[i]? = some v) {c : Nat} (f : v.xchildren.foot c) : Typed h N_int c := by
  obtain ⟨n, hn⟩ : ∃ n, ns[i]? = some n := ⟨_, List.getElem?_eq_getElem (by have := lt_of_get e; have := x.len; omega)⟩
  exact (x.nd i v n e hn).2.2.typed f
theorem TreeAt.keep {h' : H} (x : TreeAt h p s vs ns) (k : Keeps h h') : TreeAt h' p s vs ns :=
  ⟨k _ _ x.cell, x.buf.keep k, x.len, x.big, fun i v n e e' => by obtain ⟨a, b, c⟩ := x.nd i v n e e'; exact ⟨a, b, c.keep k⟩, x.apart⟩
theorem Tree.keep {h' : H} (x : Tree h p s F ns) (k : Keeps h h') : Tree h' p s F ns := by
  obtain ⟨vs, a, b⟩ := x.ex
  exact ⟨vs, a.keep k, b⟩
theorem TreeAt.typed (x : TreeAt h p s vs ns) {c : Nat} (f : TFoot p s vs c) : Typed h N_kin_Tree c ∨ Typed h N_kin_node c ∨ Typed h N_int c := by
  rcases f with rfl | f | ⟨v, hv, f⟩
  · exact .inl (Typed.of x.cell)
  · exact .inr (.inl (x.buf.typed f))
  · obtain ⟨i, hi⟩ := List.mem_iff_getElem?.1 hv
    exact .inr (.inr (x.kidT hi f))
theorem Tree.typed (x : Tree h p s F ns) {c : Nat} (f : F c) : Typed h N_kin_Tree c ∨ Typed h N_kin_node c ∨ Typed h N_int c := by
  obtain ⟨vs, a, b⟩ := x.ex
  exact a.typed ((b c).1 f)
theorem Tree.but {h' : H} {G : Nat → Prop} (x : Tree h p s F ns) (k : But G h h') (f : ∀ c, G c → ¬ F c) : Tree h' p s F ns := by
  obtain ⟨vs, a, b⟩ := x.ex
  refine ⟨vs, ⟨k _ _ a.cell fun q => f _ q ((b _).2 (.inl rfl)), a.buf.but k fun z hz q => f _ q ((b _).2 (.inr (.inl ⟨z, hz, rfl⟩))), a.len, a.big, fun i v n e e' => ?_, a.apart⟩, b⟩
  obtain ⟨p1, p2, p3⟩ := a.nd i v n e e'
  exact ⟨p1, p2, p3.but k fun z hz q => f _ q ((b _).2 (.inr (.inr ⟨v, List.mem_of_getElem? e, z, hz, rfl⟩)))⟩
theorem TreeAt.f0 (x : TreeAt h p s vs ns) : At h ((⟨p, 0, none⟩ : Addr).add 0) (cSl s) := At.own (l1 := []) (l3 := []) x.cell rfl
theorem t_number (x : TreeAt h p s vs ns) {i : Int} {K : Bool → H → Prop} (y : K (decide (0 ≤ i ∧ i < (ns.length : Int))) h) : m_kin_Tree_number (some ⟨p, 0, none⟩) i K h := by
  unfold m_kin_Tree_number
  have hl := x.buf.len
  have := x.len
  refine w_if' (fun c => w_deref (w_load x.f0 ?_)) fun c => ?_
  · have e : decide (i < (s.len : Int)) = decide (0 ≤ i ∧ i < (ns.length : Int)) := by rw [Bool.eq_iff_iff, decide_eq_true_eq, decide_eq_true_eq]; omega
    rw [e]; exact y
  · rw [decide_eq_false (by omega)] at y; exact y
theorem t_HasA (x : TreeAt h p s vs ns) {i : Int} {K : Bool → H → Prop} (y : K (hasN ns i) h) : m_kin_Tree_Has (some ⟨p, 0, none⟩) i K h := by
  unfold m_kin_Tree_Has
  refine t_number x (w_if' (fun c => w_deref (w_load x.f0 ?_)) fun c => ?_)
  · obtain ⟨k, rfl⟩ : ∃ k : Nat, i = k := ⟨i.toNat, by omega⟩
    have hk : k < ns.length := by omega
    obtain ⟨v, hv⟩ : ∃ v, vs[k]? = some v := ⟨_, List.getElem?_eq_getElem (by have := x.len; omega)⟩
    have hn := List.getElem?_eq_getElem hk
    refine w_field kn_len x.buf.arr hv rfl (v' := v.xthere) (cells' := cBool) (l1 := []) (l3 := (S_kin_node.cells v).drop 1) rfl rfl ?_
    have e : hasN ns (k : Int) = ns[k].there := by unfold hasN; rw [Int.toNat_natCast, hn]; simp
    rw [(x.nd k _ _ hv hn).1, ← e]; exact y
  · have e : hasN ns i = false := by
      unfold hasN
      by_cases q : 0 ≤ i
      · rw [List.getElem?_eq_none (by omega)]; simp
      · rw [decide_eq_false q]; rfl
    rw [e] at y; exact y
theorem t_Has (x : Tree h p s F ns) {i : Int} {K : Bool → H → Prop} (y : K (hasN ns i) h) : m_kin_Tree_Has (some ⟨p, 0, none⟩) i K h := by
  obtain ⟨vs, a, _⟩ := x.ex
  exact t_HasA a y
theorem t_at (x : TreeAt h p s vs ns) {i : Nat} {v : S_kin_node} (e : vs[i]? = some v) {K : Option Addr → H → Prop} (y : ∀ a, isIdx s (i : Int) 3 a → At h a (S_kin_node.cells v) → K (some a) h) : m_kin_Tree_at (some ⟨p, 0, none⟩) (i : Int) K h := by
  unfold m_kin_Tree_at
  exact w_deref (w_load x.f0 (w_idx kn_len x.buf.arr e rfl fun a ia ha => y a ia ha))
theorem cv_at (x : TreeAt h p s vs ns) {i : Nat} {v : S_kin_node} (e : vs[i]? = some v) {k : Option Addr → H → Prop} (y : ∀ a, isIdx s (i : Int) 3 a → At h a (S_kin_node.cells v) → k (some a) h) :
    mCallV (T := Option Addr) Tryd.prog (fun r => Value.pointer r) (.func (.func s_kin_Tree_at.f) #[.pointer (some ⟨p, 0, none⟩)] #[]) [.int .i64 (i : Int)] k h :=
  callV_of s_kin_Tree_at (first := #[.pointer (some ⟨p, 0, none⟩)]) (cap := #[]) (args := [.int .i64 (i : Int)]) (some ⟨p, 0, none⟩, (i : Int)) rfl (t_at x e y)
theorem TreeAt.node (x : TreeAt h p s vs ns) {i : Nat} {v v' : S_kin_node} {n' : Nd} (e : vs[i]? = some v) {h' : H} (bu : Buf S_kin_node.cells 3 N_kin_node h' s (vs.set i v')) (k : But s.foot h h') (b' : Buf (cInt .i64) 1 N_int h v'.xchildren n'.kids) (q : v'.xthere = n'.there ∧ v'.xparent = n'.parent)
    (fr : ∀ c, v'.xchildren.foot c → v.xchildren.foot c ∨ ∀ (j : Nat) (w : S_kin_node), vs[j]? = some w → ¬ w.xchildren.foot c) (ns' : List Nd) (hns : ns' = ns.set i n') : TreeAt h' p s (vs.set i v') ns' := by
  subst hns
  have hi := lt_of_get e
  have noS : ∀ {b : Sl} {l : List Int}, Buf (cInt .i64) 1 N_int h b l → ∀ a, b.a = some a → ¬ s.foot a.block := fun bb a ha f => (x.buf.typed f).ne (bb.typed ⟨a, ha, rfl⟩) (by decide) rfl
  refine ⟨k _ _ x.cell x.apartP, bu, by rw [List.length_set, List.length_set]; exact x.len, by rw [List.length_set]; exact x.big, fun j w m ew em => ?_, fun a b w u ew eu hne c fw fu => ?_⟩
  · rw [List.getElem?_set] at ew em
    by_cases z : i = j
    · rw [if_pos z] at ew em
      rw [if_pos hi] at ew
      rw [if_pos (by have := x.len; omega)] at em
      cases ew; cases em
      exact ⟨q.1, q.2, b'.but k (noS b')⟩
    · rw [if_neg z] at ew em
      obtain ⟨p1, p2, p3⟩ := x.nd j w m ew em
      exact ⟨p1, p2, p3.but k (noS p3)⟩
  · rw [List.getElem?_set] at ew eu
    by_cases z1 : i = a
    · rw [if_pos z1, if_pos hi] at ew
      have z2 : i ≠ b := fun q => hne (z1.symm.trans q)
      rw [if_neg z2] at eu
      cases ew
      rcases fr c fw with g | g
      · exact x.apart i b v u e eu z2 c g fu
      · exact g b u eu fu
    · rw [if_neg z1] at ew
      by_cases z2 : i = b
      · rw [if_pos z2, if_pos hi] at eu
        cases eu
        rcases fr c fu with g | g
        · exact x.apart i a v w e ew z1 c g fw
        · exact g a w ew fw
      · rw [if_neg z2] at eu
        exact x.apart a b w u ew eu hne c fw fu
end
def rootN (ns : List Nd) (n : Nat) : List Nd := ns.set n ⟨true, -1, []⟩
def childN (ns : List Nd) (q n : Nat) : List Nd := match ns[q]? with
  | some d => (ns.set n ⟨true, (q : Int), []⟩).set q { d with kids := d.kids ++ [(n : Int)] }
  | none => ns
section
variable {h : H} {p : Nat} {s : Sl} {F : Nat → Prop} {vs : List S_kin_node} {ns : List Nd}
theorem foot_at {s : Sl} {i : Int} {sz : Nat} {a : Addr} (x : isIdx s i sz a) : s.foot a.block := by
  obtain ⟨a0, h0, _, _, rfl⟩ := x
  exact ⟨a0, h0, (add_block _ _).symm⟩
theorem t_KRoot (x : Tree h p s F ns) {n : Nat} (hn : n < ns.length) (no : hasN ns (n : Int) = false) {K : Int → H → Prop} (y : ∀ h' F', Tree h' p s F' (rootN ns n) → KChg F F' h h' → K 0 h') : m_kin_Tree_Root (some ⟨p, 0, none⟩) (n : Int) K h := by
  obtain ⟨vs, a, b⟩ := x.ex
  unfold m_kin_Tree_Root m_kin_Tree_add
  refine t_number a ?_
  rw [show decide (0 ≤ (n : Int) ∧ (n : Int) < (ns.length : Int)) = true from decide_eq_true (by omega)]
  refine w_ifF rfl (t_HasA a ?_)
  rw [no]
  refine w_ifF rfl ?_
  obtain ⟨v, hv⟩ : ∃ v, vs[n]? = some v := ⟨_, List.getElem?_eq_getElem (by have := a.len; omega)⟩
  refine cv_at a hv fun ad ia ha => w_deref ?_
  refine w_set kn_len a.buf hv ia (v' := ⟨true, -1, Sl.nil⟩) (c1 := []) (c2 := S_kin_node.cells v) (c3 := []) (by simp) (by rfl) (by rfl) (add_zero ad).symm fun h2 b2 k2 d2 => w_ifF rfl ?_
  have x2 := a.node (n' := ⟨true, -1, []⟩) hv b2 k2 Buf.nil ⟨rfl, rfl⟩ (fun c ⟨z, hz, _⟩ => by cases hz) _ rfl
  refine y h2 _ ⟨_, x2, fun c => Iff.rfl⟩ ⟨k2.mono fun c f => (b c).2 (.inr (.inl f)), fun c f => .inl ((b c).2 ?_), d2⟩
  rcases f with f | f | ⟨w, hw, f⟩
  · exact .inl f
  · exact .inr (.inl f)
  · rcases List.mem_or_eq_of_mem_set hw with q | q
    · exact .inr (.inr ⟨w, q, f⟩)
    · subst q; obtain ⟨z, hz, _⟩ := f; cases hz
theorem t_KChild (x : Tree h p s F ns) {q n : Nat} (hn : n < ns.length) (no : hasN ns (n : Int) = false) (hq : hasN ns (q : Int) = true) (hk : ∀ d, ns[q]? = some d → d.kids.length ≤ 256) {K : Int → H → Prop} (y : ∀ h' F', Tree h' p s F' (childN ns q n) → KChg F F' h h' → K 0 h') : m_kin_Tree_Child (some ⟨p, 0, none⟩) (q : Int) (n : Int) K h := by
  obtain ⟨vs, a, b⟩ := x.ex
  obtain ⟨d, hd, dt⟩ := hasN_iff.1 hq
  have hne : n ≠ q := fun e => by subst e; rw [hq] at no; cases no
  unfold m_kin_Tree_Child m_kin_Tree_add
  refine t_number a ?_
  rw [show decide (0 ≤ (n : Int) ∧ (n : Int) < (ns.length : Int)) = true from decide_eq_true (by omega)]
  refine w_join (w_ifF rfl (t_HasA a ?_))
  rw [hq]
  refine w_ifF rfl (t_HasA a ?_)
  rw [no]
  refine w_ifF rfl ?_
  obtain ⟨v, hv⟩ : ∃ v, vs[n]? = some v := ⟨_, List.getElem?_eq_getElem (by have := a.len; omega)⟩
  refine cv_at a hv fun ad ia ha => w_deref ?_
  refine w_set kn_len a.buf hv ia (v' := ⟨true, (q : Int), Sl.nil⟩) (c1 := []) (c2 := S_kin_node.cells v) (c3 := []) (by simp) (by rfl) (by rfl) (add_zero ad).symm fun h2 b2 k2 d2 => w_ifT (by simp) ?_
  have x2 := a.node (n' := ⟨true, (q : Int), []⟩) hv b2 k2 Buf.nil ⟨rfl, rfl⟩ (fun c ⟨z, hz, _⟩ => by cases hz) _ rfl
  have hql := lt_of_get hd
  obtain ⟨vq, hvq⟩ : ∃ vq, (vs.set n ⟨true, (q : Int), Sl.nil⟩)[q]? = some vq := ⟨_, List.getElem?_eq_getElem (by rw [List.length_set, a.len]; exact hql)⟩
  have hvq0 : vs[q]? = some vq := by rw [List.getElem?_set, if_neg hne] at hvq; exact hvq
  have hnq : (ns.set n ⟨true, (q : Int), []⟩)[q]? = some d := by rw [List.getElem?_set, if_neg hne]; exact hd
  obtain ⟨e1, e2, bk⟩ := x2.nd q vq d hvq hnq
  refine cv_at x2 hvq fun aq iq haq => w_deref (w_load (v := vq.xchildren) (cells := cSl) (At.sub (l1 := (S_kin_node.cells vq).take 2) (l3 := []) haq rfl) ?_)
  have hkd := hk d hd
  refine w_app (by_ := 8) ci_len rfl bk [(n : Int)] rfl rfl (.inl (by simp only [List.length_singleton]; omega)) fun s3 h3 bu3 b3 f3 d3 => w_deref ?_
  have nS : ∀ c, vq.xchildren.foot c → ¬ s.foot c := fun c f g => (x2.buf.typed g).ne (x2.kidT hvq f) (by decide) rfl
  have buS : Buf S_kin_node.cells 3 N_kin_node h3 s (vs.set n ⟨true, (q : Int), Sl.nil⟩) := x2.buf.but b3 fun z hz f => nS _ f ⟨z, hz, rfl⟩
  have haq3 : At h3 aq (S_kin_node.cells vq) := haq.but b3 fun f => nS _ f (foot_at iq)
  refine w_set kn_len buS hvq iq (v' := ⟨vq.xthere, vq.xparent, s3⟩) (c1 := (S_kin_node.cells vq).take 2) (c2 := [Sl.val vq.xchildren]) (c3 := []) (by rfl) (by rfl) (by rfl) (by rfl) fun h4 b4 k4 d4 => ?_
  have k24 : But (fun c => vq.xchildren.foot c ∨ s.foot c) h2 h4 := (b3.mono fun _ f => .inl f).trans (k4.mono fun _ f => .inr f) fun _ f => .inl f
  have bu4 : Buf (cInt .i64) 1 N_int h4 s3 (d.kids ++ [(n : Int)]) := bu3.but k4 fun z hz f => (bu3.typed ⟨z, hz, rfl⟩).ne (buS.typed f) (by decide) rfl
  have hs3 : ∀ c, s3.foot c → vq.xchildren.foot c ∨ h2 c = none := f3
  have e0 : childN ns q n = (ns.set n ⟨true, (q : Int), []⟩).set q { d with kids := d.kids ++ [(n : Int)] } := by unfold childN; rw [hd]
  have x4 : TreeAt h4 p s ((vs.set n ⟨true, (q : Int), Sl.nil⟩).set q ⟨vq.xthere, vq.xparent, s3⟩) (childN ns q n) := by
    rw [e0]
    have lq : q < (vs.set n ⟨true, (q : Int), Sl.nil⟩).length := lt_of_get hvq
    refine ⟨k24 _ _ x2.cell fun f => f.elim (fun f => (x2.kidT hvq f).ne (Typed.of x2.cell) (by decide) rfl) x2.apartP, b4, by simp only [List.length_set]; exact a.len, by rw [List.length_set]; exact x2.big, fun j w m ew em => ?_, fun i j w u ew eu hij c fw fu => ?_⟩
    · rw [List.getElem?_set] at ew em
      by_cases z : q = j
      · rw [if_pos z, if_pos lq] at ew
        rw [if_pos z, if_pos (lt_of_get hnq)] at em
        cases ew; cases em
        exact ⟨e1, e2, bu4⟩
      · rw [if_neg z] at ew em
        obtain ⟨p1, p2, p3⟩ := x2.nd j w m ew em
        exact ⟨p1, p2, p3.but k24 fun z' hz f => f.elim (fun f => x2.apart q j vq w hvq ew z _ f ⟨z', hz, rfl⟩) fun f => (p3.typed ⟨z', hz, rfl⟩).ne (x2.buf.typed f) (by decide) rfl⟩
    · rw [List.getElem?_set] at ew eu
      have old : ∀ {i : Nat} {w : S_kin_node}, (vs.set n ⟨true, (q : Int), Sl.nil⟩)[i]? = some w → q ≠ i → ∀ c, s3.foot c → ¬ w.xchildren.foot c := fun {i w} ew z c f g => by
        rcases hs3 c f with r | r
        · exact x2.apart q i vq w hvq ew z c r g
        · exact (x2.kidT ew g).has r
      by_cases z1 : q = i
      · rw [if_pos z1, if_pos lq] at ew
        cases ew
        have z2 : q ≠ j := fun r => hij (z1.symm.trans r)
        rw [if_neg z2] at eu
        exact old eu z2 c fw fu
      · rw [if_neg z1] at ew
        by_cases z2 : q = j
        · rw [if_pos z2, if_pos lq] at eu
          cases eu
          exact old ew z1 c fu fw
        · rw [if_neg z2] at eu
          exact x2.apart i j w u ew eu hij c fw fu
  have kF : But F h h4 := (k2.mono fun c f => (b c).2 (.inr (.inl f))).trans k24 fun c f => .inl ((b c).2 (f.elim (fun f => .inr (.inr ⟨vq, List.mem_of_getElem? hvq0, f⟩)) fun f => .inr (.inl f)))
  have d24 : ∀ c, h4 c = none → h2 c = none := fun c e => d3 c (d4 c e)
  refine y h4 _ ⟨_, x4, fun c => Iff.rfl⟩ ⟨kF, fun c f => ?_, fun c e => d2 c (d24 c e)⟩
  rcases f with f | f | ⟨w, hw, f⟩
  · exact .inl ((b c).2 (.inl f))
  · exact .inl ((b c).2 (.inr (.inl f)))
  · rcases List.mem_or_eq_of_mem_set hw with r | r
    · rcases List.mem_or_eq_of_mem_set r with r | r
      · exact .inl ((b c).2 (.inr (.inr ⟨w, r, f⟩)))
      · subst r; obtain ⟨z, hz, _⟩ := f; cases hz
    · subst r
      rcases hs3 c f with g | g
      · exact .inl ((b c).2 (.inr (.inr ⟨vq, List.mem_of_getElem? hvq0, g⟩)))
      · exact .inr (d2 c g)
end
section
variable {h : H} {p : Nat} {s : Sl} {F : Nat → Prop} {vs : List S_kin_node} {ns : List Nd}
theorem t_KNew {n : Nat} (hn : n ≤ 256) {K : Option Addr × Int → H → Prop} (y : ∀ p s F h', Tree h' p s F (List.replicate n nd0) → Keeps h h' → (∀ c, F c → h c = none) → K (some ⟨p, 0, none⟩, 0) h') : m_kin_New (n : Int) K h := by
  unfold m_kin_New
  refine w_ifF (by simp; omega) (w_make kn_len ⟨false, 0, Sl.nil⟩ rfl rfl rfl (by omega) (by omega) fun s h1 bu k1 f1 _ => w_new fun p fp => ?_)
  refine y p s _ _ ⟨List.replicate n ⟨false, 0, Sl.nil⟩, ⟨upd_same _ _ _, bu.keep (.new fp), by simp, by rw [List.length_replicate]; exact hn, fun i v m e1 e2 => ?_, fun i j v w e1 _ _ c f => ?_⟩, fun c => Iff.rfl⟩ (k1.trans (.new fp)) fun c f => ?_
  · obtain rfl := List.eq_of_mem_replicate (List.mem_of_getElem? e1)
    obtain rfl := List.eq_of_mem_replicate (List.mem_of_getElem? e2)
    exact ⟨rfl, rfl, Buf.nil⟩
  · obtain rfl := List.eq_of_mem_replicate (List.mem_of_getElem? e1)
    obtain ⟨a, ha, _⟩ := f; cases ha
  · rcases f with rfl | f | ⟨v, hv, f⟩
    · exact k1.fresh fp
    · exact f1 c f
    · obtain rfl := List.eq_of_mem_replicate hv
      obtain ⟨a, ha, _⟩ := f; cases ha
theorem t_Kids (x : Tree h p s F ns) {i : Nat} {d : Nd} (hd : ns[i]? = some d) (ht : d.there = true) (hk : d.kids.length ≤ 2 ^ 40) {K : Sl → H → Prop} (y : ∀ s' h', Buf (cInt .i64) 1 N_int h' s' d.kids → Keeps h h' → (∀ c, s'.foot c → h c = none) → K s' h') : m_kin_Tree_Children (some ⟨p, 0, none⟩) (i : Int) K h := by
  obtain ⟨vs, a, b⟩ := x.ex
  unfold m_kin_Tree_Children
  refine t_HasA a ?_
  rw [show hasN ns (i : Int) = true from hasN_iff.2 ⟨d, hd, ht⟩]
  obtain ⟨v, hv⟩ : ∃ v, vs[i]? = some v := ⟨_, List.getElem?_eq_getElem (by have := a.len; have := lt_of_get hd; omega)⟩
  obtain ⟨e1, e2, bk⟩ := a.nd i v d hv hd
  refine w_ifF rfl (t_at a hv fun ad ia ha => w_deref (w_load (v := v.xchildren) (cells := cSl) (At.sub (l1 := (S_kin_node.cells v).take 2) (l3 := []) ha rfl) ?_))
  exact w_clone ci_len ci_plain rfl bk.arr (by omega) y
end
def cutN (ns : List Nd) (m : Nat) : List Nd := match ns[m]? with
  | none => ns
  | some d => if d.parent < 0 then ns.set m nd0 else match ns[d.parent.toNat]? with
    | none => ns
    | some dq => (ns.set d.parent.toNat ⟨dq.there, dq.parent, dq.kids.erase (m : Int)⟩).set m nd0
def chN (ns : List Nd) (i : Int) : List Int := if 0 ≤ i then ((ns[i.toNat]?).map Nd.kids).getD [] else []
theorem chN_nat (ns : List Nd) (i : Nat) : chN ns (i : Int) = ((ns[i]?).map Nd.kids).getD [] := by
  unfold chN
  rw [if_pos (by omega), Int.toNat_natCast]
def LiveL (ns : List Nd) (l : List Int) : Prop := ∀ z, z ∈ l → hasN ns z = true
theorem hasN_nat {ns : List Nd} {z : Int} (x : hasN ns z = true) : ∃ (i : Nat) (d : Nd), z = i ∧ ns[i]? = some d ∧ d.there = true ∧ chN ns z = d.kids := by
  have h0 : 0 ≤ z := by
    unfold hasN at x
    rw [Bool.and_eq_true] at x
    exact of_decide_eq_true x.1
  obtain ⟨i, rfl⟩ : ∃ i : Nat, z = i := ⟨z.toNat, by omega⟩
  obtain ⟨d, h1, h2⟩ := hasN_iff.1 x
  exact ⟨i, d, rfl, h1, h2, by rw [chN_nat, h1]; rfl⟩
theorem concat_of {T : Type} {l : List T} {n : Nat} (h : l.length = n + 1) : ∃ a x, l = a ++ [x] ∧ a.length = n := by
  rcases List.eq_nil_or_concat l with q | ⟨a, x, q⟩
  · subst q; simp at h
  · rw [List.concat_eq_append] at q; subst q; exact ⟨a, x, rfl, by simp at h; exact h⟩
theorem cut_front {s : Sl} {n : Nat} {i j : Int} {h : H} (hi : i = 0) (hj : j = n) (hn : n ≤ s.cap) {k : Sl → H → Prop} {size : Nat} (y : k ⟨s.a, n, s.cap⟩ h) : mCut s i j size k h := by
  refine w_cut (lo := 0) (hi := n) hi hj (Nat.zero_le _) hn ?_
  have hcut : (if s.cap = 0 then s.a else s.a.map (·.add (0 * size))) = s.a := by
    split
    · rfl
    · cases s.a <;> simp [add_zero]
  rw [hcut, Nat.sub_zero, Nat.sub_zero]
  exact y
section
variable {h : H} {p : Nat} {s : Sl} {F : Nat → Prop} {ns : List Nd}
theorem t_down (x : Tree h p s F ns) {n : Nat} {turn : Bool} {c' : Int → List Int} (hc' : ∀ z, c' z = if turn then (chN ns z).reverse else chN ns z) {l : List Int} (hl : PreL c' [(n : Int)] l) (live : LiveL ns l) (len : l.length ≤ 4096) {K : Sl → H → Prop}
    (y : ∀ s' h', Buf (cInt .i64) 1 N_int h' s' l → Keeps h h' → (∀ c, s'.foot c → h c = none) → K s' h') : m_walk_down (some ⟨p, 0, none⟩) (n : Int) turn K h := by
  unfold m_walk_down
  refine t_Has x ?_
  have hn : (n : Int) ∈ l := by cases hl; exact List.mem_cons_self ..
  rw [live _ hn]
  refine w_ifF rfl (w_new fun b hb => ?_)
  refine w_for l.length (fun i (z : Sl × Sl) h' => ∃ st, Buf (cInt .i64) 1 N_int h' z.1 (l.take i) ∧ Buf (cInt .i64) 1 N_int h' z.2 st ∧ PreL c' st.reverse (l.drop i) ∧ Keeps h h' ∧ (∀ c, z.1.foot c → h c = none) ∧ (∀ c, z.2.foot c → h c = none) ∧ ∀ c, z.1.foot c → ¬ z.2.foot c) ?_ ?_
  rotate_left
  · exact ⟨[(n : Int)], Buf.nil, ⟨rfl, Nat.le_refl _, .inr ⟨b, [], (0, 0), rfl, upd_same _ _ _, rfl, thawed0 _⟩⟩, hl, .new hb, fun c ⟨a, q, _⟩ => by (cases q), fun c ⟨a, q, r⟩ => by (cases q; subst r; exact hb), fun c ⟨a, q, _⟩ => by cases q⟩
  rintro rec i ⟨out, sk⟩ h1 hi ⟨st, bo, bs, hp, kp, fo, fs, ap⟩ more
  have bo : Buf (cInt .i64) 1 N_int h1 out (l.take i) := bo
  have bs : Buf (cInt .i64) 1 N_int h1 sk st := bs
  have ls := bs.len
  refine w_if' (fun c => ?_) fun c => ?_
  · have c : 0 < (sk.len : Int) := c
    obtain ⟨m, hm⟩ : ∃ m, st.length = m + 1 := ⟨st.length - 1, by omega⟩
    obtain ⟨st', z, rfl, hst⟩ := concat_of hm
    have hle := hp.le
    rw [List.length_reverse, List.length_drop] at hle
    rw [List.reverse_append] at hp
    have hp : PreL c' (z :: st'.reverse) (l.drop i) := hp
    have hil : i < l.length := by omega
    obtain ⟨l1, L1, e, p1, p2⟩ : ∃ l1 L1, l.drop i = z :: (l1 ++ L1) ∧ PreL c' (c' z) l1 ∧ PreL c' st'.reverse L1 := by
      generalize hd : l.drop i = d at hp
      cases hp with
      | cons a b => exact ⟨_, _, rfl, a, b⟩
    have hz : l[i]? = some z := by
      have := congrArg (fun q : List Int => q[0]?) e
      simpa [List.getElem?_drop] using this
    obtain ⟨j, d, rfl, hd, hth, hch⟩ := hasN_nat (live z (List.mem_of_getElem? hz))
    have hkl : d.kids.length ≤ 4096 := by
      have q1 := p1.le
      have q2 := congrArg List.length e
      rw [List.length_drop, List.length_cons, List.length_append] at q2
      rw [hc', hch] at q1
      have : d.kids.length ≤ l1.length := by
        cases turn with
        | true => simpa using q1
        | false => simpa using q1
      omega
    have hcap := bs.cap
    show mIdx sk (iSub .i64 (sk.len : Int) 1) 1 _ h1
    rw [ls, hm, is1 (m + 1) (by omega) (by omega)]
    refine w_idx (i := m) (v := (j : Int)) ci_len bs.arr (by rw [← hst]; simp) (by omega) fun a _ ha => w_load ha ?_
    refine cut_front (s := sk) rfl (n := m) (by omega) (by omega) ?_
    have bs2 : Buf (cInt .i64) 1 N_int h1 ⟨sk.a, m, sk.cap⟩ st' := by
      have := bs.front (n := m) (by omega)
      rwa [← hst, List.take_left, hst] at this
    refine w_app (by_ := 8) ci_len rfl bo [(j : Int)] rfl rfl (.inl (by rw [List.length_take]; simp only [List.length_singleton]; omega)) fun o2 h2 bo2 b2 f2 d2 => ?_
    have bs3 := bs2.but b2 fun a ha f => ap _ f ⟨a, ha, rfl⟩
    have k2 : Keeps h h2 := kp.but b2 fo
    refine t_Kids (x.keep k2) hd hth (by omega) fun s3 h3 bu3 k3 f3 => ?_
    refine w_joinP (fun _ h4 => Buf (cInt .i64) 1 N_int h4 s3 (c' (j : Int)).reverse ∧ But s3.foot h3 h4 ∧ ∀ c, h4 c = none → h3 c = none) (fun J hJ => ?_) ?_
    · refine w_if (fun e0 => ?_) fun e0 => ?_
      · unfold m_slices_Reverse_int_int
        refine w_reverse bu3 (by omega) fun h4 bu4 b4 d4 => hJ _ _ ⟨?_, b4, d4⟩
        rw [hc', hch]
        cases turn with
        | true => cases e0
        | false => exact bu4
      · refine hJ _ _ ⟨?_, .refl _ _, fun _ q => q⟩
        rw [hc', hch]
        cases turn with
        | true => rw [if_pos rfl, List.reverse_reverse]; exact bu3
        | false => cases e0
    · rintro _ h4 ⟨bu4, b4, d4⟩
      have bs4 : Buf (cInt .i64) 1 N_int h4 ⟨sk.a, m, sk.cap⟩ st' := (bs3.keep k3).but b4 fun a ha f => bs3.has ⟨a, ha, rfl⟩ (f3 _ f)
      have bo4 : Buf (cInt .i64) 1 N_int h4 o2 (l.take i ++ [(j : Int)]) := (bo2.keep k3).but b4 fun a ha f => bo2.has ⟨a, ha, rfl⟩ (f3 _ f)
      have hkl' : (c' (j : Int)).reverse.length = d.kids.length := by
        rw [hc', hch]; cases turn <;> simp
      refine w_append (by_ := 8) ci_len ci_plain rfl bs4 bu4.arr (.inl (by rw [hkl']; omega)) fun s5 h5 bu5 b5 f5 d5 => ?_
      have dsj : ∀ c, o2.foot c → ¬ (⟨sk.a, m, sk.cap⟩ : Sl).foot c := fun c f g => by
        rcases f2 c f with q | q
        · exact ap c q g
        · exact bs2.has g q
      refine more _ _ hil ⟨st' ++ (c' (j : Int)).reverse, ?_, bu5, ?_, ?_, fun c f => ?_, fun c f => ?_, fun c f g => ?_⟩
      · have := bo4.but b5 fun a ha f => dsj _ ⟨a, ha, rfl⟩ f
        have e1 : l.take (i + 1) = l.take i ++ [(j : Int)] := by rw [List.take_add_one, hz]; rfl
        rw [e1]; exact this
      · rw [List.reverse_append, List.reverse_reverse]
        have e2 : l.drop (i + 1) = l1 ++ L1 := by
          have := congrArg List.tail e
          simpa [List.tail_drop] using this
        rw [e2]
        exact p1.append p2
      · refine ((k2.trans k3).but b4 fun c f => k2.fresh (f3 c f)).but b5 fun c f => fs c f
      · rcases f2 c f with q | q
        · exact fo c q
        · exact kp.fresh q
      · rcases f5 c f with q | q
        · exact fs c q
        · exact k2.fresh (k3.fresh (d4 c q))
      · rcases f5 c g with q | q
        · exact dsj c f q
        · exact bo2.has f (k3.fresh (d4 c q))
  · have c : ¬ 0 < (sk.len : Int) := c
    obtain rfl : st = [] := List.length_eq_zero_iff.1 (by omega)
    have hp : PreL c' [] (l.drop i) := hp
    generalize hd : l.drop i = d at hp
    cases hp
    have : l.take i = l := by rw [List.take_of_length_le]; have := congrArg List.length hd; rw [List.length_drop] at this; simp at this; omega
    rw [this] at bo
    exact y _ _ bo kp fo
theorem w_Down (x : Tree h p s F ns) {n : Nat} {l : List Int} (hl : PreL (chN ns) [(n : Int)] l) (live : LiveL ns l) (len : l.length ≤ 4096)
    {body : Int → ((H → Prop) → H → Prop) → (Nat → H → Prop) → H → Prop} {k : Nat → H → Prop} (b : Int → (Nat → H → Prop) → H → Prop) (hb : ∀ x mid kj, body x mid kj = mid (b x kj))
    (J : (Nat → Prop) → Nat → H → Prop) (has : ∀ G i h, J G i h → ∀ c, G c → h c ≠ none) (stab : ∀ G i h h' E, J G i h → But E h h' → (∀ c, E c → ¬ G c) → J G i h') {G0 : Nat → Prop} (j0 : J G0 0 h)
    (step : ∀ (i : Nat) (z : Nat), l[i]? = some (z : Int) → ∀ G h' kj, J G i h' → (∀ G' h'', J G' (i + 1) h'' → KChg G G' h' h'' → kj 0 h'') → b (z : Int) kj h')
    (y : ∀ G h', J G l.length h' → KChg G0 G h h' → k 0 h') :
    m_walk_Down (some ⟨p, 0, none⟩) (n : Int) (fun r => mRangeF (A := Int) Tryd.prog (fun x => [(Value.int .i64 x)]) r.1 body k) h := by
  unfold m_walk_Down m_walk_told
  refine w_new fun b1 hb1 => w_new fun b2 hb2 => w_new fun b3 hb3 => ?_
  generalize eh1 : upd h b1 (.cells #[Value.pointer (some ⟨p, 0, none⟩)] N_P_kin_Tree (0, 0)) = h1 at *
  generalize eh2 : upd h1 b2 (.cells #[Value.int .i64 (n : Int)] 3 (0, 0)) = h2 at *
  generalize eh3 : upd h2 b3 _ = h3
  have k1 : Keeps h h1 := eh1 ▸ .new hb1
  have k2 : Keeps h1 h2 := eh2 ▸ .new hb2
  have k3 : Keeps h2 h3 := eh3 ▸ .new hb3
  have c1 : h1 b1 = some (.cells #[Value.pointer (some ⟨p, 0, none⟩)] N_P_kin_Tree (0, 0)) := by rw [← eh1]; exact upd_same _ _ _
  have c2 : h2 b2 = some (.cells #[Value.int .i64 (n : Int)] 3 (0, 0)) := by rw [← eh2]; exact upd_same _ _ _
  have c3 : h3 b3 = some (.cells #[Value.func (.func 45) #[] #[(Value.pointer (some ⟨b1, 0, none⟩)), (Value.pointer (some ⟨b2, 0, none⟩))]] 131 (0, 0)) := by rw [← eh3]; exact upd_same _ _ _
  have k03 : Keeps h h3 := (k1.trans k2).trans k3
  refine ⟨60, Tryd.f60, #[], #[.pointer (some ⟨b3, 0, none⟩)], rfl, callee60, fun w ob bz hw law => ?_⟩
  have kw : Keeps h3 (upd h3 w (ob 0)) := .new hw
  suffices hm : m_walk_told_1 (⟨.func (.yield w) #[] #[], rfl, rfl⟩ : PV) ⟨b3, 0, none⟩ (fun _ h'' => ∃ j, h'' w = some (ob j) ∧ ∀ o, k j (upd h'' w o)) (upd h3 w (ob 0)) from
    (s_walk_told_1.ok ((⟨.func (.yield w) #[] #[], rfl, rfl⟩ : PV), (⟨b3, 0, none⟩ : Addr)) (fun _ h'' => ∃ j, h'' w = some (ob j) ∧ ∀ o, k j (upd h'' w o)) _ hm).mono (fun v h'' ⟨_, _, q⟩ => q) fun _ _ q => q
  unfold m_walk_told_1
  have a3 := kw _ _ c3
  refine w_load (v := (⟨Value.func (.func 45) #[] #[(Value.pointer (some ⟨b1, 0, none⟩)), (Value.pointer (some ⟨b2, 0, none⟩))], rfl, rfl⟩ : PV)) (At.own (l1 := []) (l3 := []) a3 rfl) ?_
  have use : ∀ {K : Sl → H → Prop} {h' : H}, m_walk_Down_1 (⟨b1, 0, none⟩ : Addr) (⟨b2, 0, none⟩ : Addr) K h' → mCallV (T := Sl) Tryd.prog (fun r => Sl.val r) (.func (.func 45) #[] #[(Value.pointer (some ⟨b1, 0, none⟩)), (Value.pointer (some ⟨b2, 0, none⟩))]) [] K h' := fun hm =>
    callV_of s_walk_Down_1 (first := #[]) (cap := #[(Value.pointer (some ⟨b1, 0, none⟩)), (Value.pointer (some ⟨b2, 0, none⟩))]) (args := []) ((⟨b1, 0, none⟩ : Addr), (⟨b2, 0, none⟩ : Addr)) rfl hm
  refine use ?_
  unfold m_walk_Down_1
  refine w_load (v := some ⟨p, 0, none⟩) (cells := cPtr) (At.own (l1 := []) (l3 := []) (kw _ _ (k3 _ _ (k2 _ _ c1))) rfl) (w_load (v := (n : Int)) (cells := cInt .i64) (At.own (l1 := []) (l3 := []) (kw _ _ (k3 _ _ c2)) rfl) ?_)
  refine t_down ((x.keep k03).keep kw) (turn := false) (fun _ => rfl) hl live len fun s4 h4 bu4 k4 f4 => ?_
  have hw0 : h w = none := k03.fresh hw
  have hw4 : h4 w = some (ob 0) := k4 _ _ (upd_same _ _ _)
  have nG : ∀ c, G0 c → c ≠ w := fun c g e => has _ _ _ j0 c g (e ▸ hw0)
  refine w_for l.length (fun i z h' => z = (i : Int) ∧ i ≤ l.length ∧ ∃ G, J G i h' ∧ KChg G0 G h h' ∧ h' w = some (ob 0) ∧ ¬ G w ∧ Buf (cInt .i64) 1 N_int h' s4 l ∧ ∀ c, s4.foot c → ¬ G c) ?_ ?_
  rotate_left
  · refine ⟨rfl, Nat.zero_le _, G0, stab _ _ _ _ (fun _ => False) j0 (.of ((k03.trans kw).trans k4)) (fun _ q => q.elim), ⟨.of ((k03.trans kw).trans k4), fun c g => .inl g, fun c q => ((k03.trans kw).trans k4).fresh q⟩, hw4, fun g => nG _ g rfl, bu4, fun c f g => ?_⟩
    exact has _ _ _ j0 c g (k03.fresh (kw.fresh (f4 c f)))
  rintro rec i z h' hi ⟨rfl, _, G, jg, kg, hw', gw, bu, fg⟩ more
  have hl4 := bu.len
  have fw : ¬ s4.foot w := fun f => by have := f4 w f; rw [upd_same] at this; cases this
  refine w_if' (fun c => ?_) fun c => ?_
  · have c : (i : Int) < (s4.len : Int) := c
    have hil : i < l.length := by omega
    have hz := List.getElem?_eq_getElem hil
    refine w_idx ci_len bu.arr hz rfl fun a _ ha => w_load ha ?_
    obtain ⟨zn, hzn⟩ : ∃ zn : Nat, l[i] = (zn : Int) := by
      obtain ⟨j, _, e, _⟩ := hasN_nat (live _ (List.getElem_mem hil))
      exact ⟨j, e⟩
    rw [hzn] at hz ⊢
    refine .inr ⟨w, rfl, law (zn : Int) _ h' hw' ?_⟩
    rw [hb]
    refine ⟨hw', ?_⟩
    have bE : But (fun c => c = w) h' (upd h' w bz) := .upd rfl
    refine step i zn hz G _ _ (stab _ _ _ _ _ jg bE fun c q g => gw (q ▸ g)) fun G' h'' jg' kg' => ?_
    have gw' : ¬ G' w := fun g => (kg'.foot w g).elim gw fun q => by rw [upd_same] at q; cases q
    have hwz : h'' w = some bz := kg'.but w bz (upd_same _ _ _) gw
    refine ⟨hwz, ?_⟩
    have bE2 : But (fun c => c = w) h'' (upd h'' w (ob 0)) := .upd rfl
    have dm : ∀ c, upd h'' w (ob 0) c = none → h' c = none := fun c q => (upd_none.1 (kg'.dom c (upd_none.1 q).2)).2
    have kgg : KChg G G' h' (upd h'' w (ob 0)) := ⟨fun b o' e ng => ?_, fun c g => (kg'.foot c g).imp id fun q => (upd_none.1 q).2, dm⟩
    · refine w_ifF rfl (more _ _ hil ⟨ia1 i (by omega), by omega, G', stab _ _ _ _ _ jg' bE2 (fun c q g => gw' (q ▸ g)), kg.trans kgg, upd_same _ _ _, gw', bu.but kgg.but fun a ha f => fg _ ⟨a, ha, rfl⟩ f, fun c f g => ?_⟩)
      rcases kgg.foot c g with q | q
      · exact fg c f q
      · exact bu.has f q
    · by_cases q : b = w
      · subst q; rw [hw'] at e; cases e; exact upd_same _ _ _
      · rw [upd_ne _ _ q]
        exact kg'.but b o' (by rw [upd_ne _ _ q]; exact e) ng
  · have c : ¬ (i : Int) < (s4.len : Int) := c
    obtain rfl : i = l.length := by omega
    refine ⟨0, hw', fun o => y G _ (stab _ _ _ _ (· = w) jg (.upd rfl) fun c q g => gw (q ▸ g)) ⟨fun b o' e ng => ?_, kg.foot, fun c q => kg.dom c (upd_none.1 q).2⟩⟩
    have hbw : b ≠ w := fun q => by rw [q, hw0] at e; cases e
    rw [upd_ne _ _ hbw]; exact kg.but b o' e ng
end
end Go.Proofs.YtdleanjofhghnaaDoor.K
namespace Go.Proofs.YtdleanjofhghnaaDoor.K
open Go Go.Proofs
def m_catalogue_New (a0 : Int) (a1 : Int) (K : (Option Addr × Int) → H → Prop) : H → Prop :=
 mIf ((((decide (a0 < 1)) || (decide (256 < a0))) || (decide (a1 < 0))) || (decide (64 < a1))) (
 K (none, 16)
 ) (
 m_slots_New_int a0 a1 fun r1 =>
 mIf (!decide (r1.2 = 0)) (
 K (none, r1.2)
 ) (
 m_kin_New a0 fun r2 =>
 mIf (!decide (r2.2 = 0)) (
 K (none, r2.2)
 ) (
 mJoin (fun (s3 : Sl × Sl × Option Nat × Option Nat) =>
 mNew 94 #[(Value.pointer r1.1), (Value.pointer r2.1), (Sl.val s3.1), (Sl.val s3.2.1), (Value.map s3.2.2.1), (Value.map s3.2.2.2)] fun ad65 =>
 K ((some ad65), 0)
 ) (fun j4 =>
 mBoth (
 mMake 55 40 #[(Value.int .i64 0), (Value.int .u64 0), (Value.int .u64 0), (Value.int .i64 0), (Value.int .i64 0)] a0 a0 fun s5 =>
 mBoth (
 mMake 4 1 #[(Value.bool false)] a0 a0 fun s6 =>
 mMakeMap fun m7 =>
 mMakeMap fun m8 =>
 j4 (s5, s6, m7, m8)
 ) (
 mBoth (
 mMakeMap fun m9 =>
 mBoth (
 mMake 4 1 #[(Value.bool false)] a0 a0 fun s10 =>
 mMakeMap fun m11 =>
 j4 (s5, s10, m9, m11)
 ) (
 mMakeMap fun m12 =>
 mMake 4 1 #[(Value.bool false)] a0 a0 fun s13 =>
 j4 (s5, s13, m9, m12)
 )
 ) (
 mMakeMap fun m14 =>
 mBoth (
 mMake 4 1 #[(Value.bool false)] a0 a0 fun s15 =>
 mMakeMap fun m16 =>
 j4 (s5, s15, m16, m14)
 ) (
 mMakeMap fun m17 =>
 mMake 4 1 #[(Value.bool false)] a0 a0 fun s18 =>
 j4 (s5, s18, m17, m14)
 )
 )
 )
 ) (
 mBoth (
 mMake 4 1 #[(Value.bool false)] a0 a0 fun s19 =>
 mBoth (
 mMake 55 40 #[(Value.int .i64 0), (Value.int .u64 0), (Value.int .u64 0), (Value.int .i64 0), (Value.int .i64 0)] a0 a0 fun s20 =>
 mMakeMap fun m21 =>
 mMakeMap fun m22 =>
 j4 (s20, s19, m21, m22)
 ) (
 mBoth (
 mMakeMap fun m23 =>
 mBoth (
 mMake 55 40 #[(Value.int .i64 0), (Value.int .u64 0), (Value.int .u64 0), (Value.int .i64 0), (Value.int .i64 0)] a0 a0 fun s24 =>
 mMakeMap fun m25 =>
 j4 (s24, s19, m23, m25)
 ) (
 mMakeMap fun m26 =>
 mMake 55 40 #[(Value.int .i64 0), (Value.int .u64 0), (Value.int .u64 0), (Value.int .i64 0), (Value.int .i64 0)] a0 a0 fun s27 =>
 j4 (s27, s19, m23, m26)
 )
 ) (
 mMakeMap fun m28 =>
 mBoth (
 mMake 55 40 #[(Value.int .i64 0), (Value.int .u64 0), (Value.int .u64 0), (Value.int .i64 0), (Value.int .i64 0)] a0 a0 fun s29 =>
 mMakeMap fun m30 =>
 j4 (s29, s19, m30, m28)
 ) (
 mMakeMap fun m31 =>
 mMake 55 40 #[(Value.int .i64 0), (Value.int .u64 0), (Value.int .u64 0), (Value.int .i64 0), (Value.int .i64 0)] a0 a0 fun s32 =>
 j4 (s32, s19, m31, m28)
 )
 )
 )
 ) (
 mBoth (
 mMakeMap fun m33 =>
 mBoth (
 mMake 55 40 #[(Value.int .i64 0), (Value.int .u64 0), (Value.int .u64 0), (Value.int .i64 0), (Value.int .i64 0)] a0 a0 fun s34 =>
 mBoth (
 mMake 4 1 #[(Value.bool false)] a0 a0 fun s35 =>
 mMakeMap fun m36 =>
 j4 (s34, s35, m33, m36)
 ) (
 mMakeMap fun m37 =>
 mMake 4 1 #[(Value.bool false)] a0 a0 fun s38 =>
 j4 (s34, s38, m33, m37)
 )
 ) (
 mBoth (
 mMake 4 1 #[(Value.bool false)] a0 a0 fun s39 =>
 mBoth (
 mMake 55 40 #[(Value.int .i64 0), (Value.int .u64 0), (Value.int .u64 0), (Value.int .i64 0), (Value.int .i64 0)] a0 a0 fun s40 =>
 mMakeMap fun m41 =>
 j4 (s40, s39, m33, m41)
 ) (
 mMakeMap fun m42 =>
 mMake 55 40 #[(Value.int .i64 0), (Value.int .u64 0), (Value.int .u64 0), (Value.int .i64 0), (Value.int .i64 0)] a0 a0 fun s43 =>
 j4 (s43, s39, m33, m42)
 )
 ) (
 mMakeMap fun m44 =>
 mBoth (
 mMake 55 40 #[(Value.int .i64 0), (Value.int .u64 0), (Value.int .u64 0), (Value.int .i64 0), (Value.int .i64 0)] a0 a0 fun s45 =>
 mMake 4 1 #[(Value.bool false)] a0 a0 fun s46 =>
 j4 (s45, s46, m33, m44)
 ) (
 mMake 4 1 #[(Value.bool false)] a0 a0 fun s47 =>
 mMake 55 40 #[(Value.int .i64 0), (Value.int .u64 0), (Value.int .u64 0), (Value.int .i64 0), (Value.int .i64 0)] a0 a0 fun s48 =>
 j4 (s48, s47, m33, m44)
 )
 )
 )
 ) (
 mMakeMap fun m49 =>
 mBoth (
 mMake 55 40 #[(Value.int .i64 0), (Value.int .u64 0), (Value.int .u64 0), (Value.int .i64 0), (Value.int .i64 0)] a0 a0 fun s50 =>
 mBoth (
 mMake 4 1 #[(Value.bool false)] a0 a0 fun s51 =>
 mMakeMap fun m52 =>
 j4 (s50, s51, m52, m49)
 ) (
 mMakeMap fun m53 =>
 mMake 4 1 #[(Value.bool false)] a0 a0 fun s54 =>
 j4 (s50, s54, m53, m49)
 )
 ) (
 mBoth (
 mMake 4 1 #[(Value.bool false)] a0 a0 fun s55 =>
 mBoth (
 mMake 55 40 #[(Value.int .i64 0), (Value.int .u64 0), (Value.int .u64 0), (Value.int .i64 0), (Value.int .i64 0)] a0 a0 fun s56 =>
 mMakeMap fun m57 =>
 j4 (s56, s55, m57, m49)
 ) (
 mMakeMap fun m58 =>
 mMake 55 40 #[(Value.int .i64 0), (Value.int .u64 0), (Value.int .u64 0), (Value.int .i64 0), (Value.int .i64 0)] a0 a0 fun s59 =>
 j4 (s59, s55, m58, m49)
 )
 ) (
 mMakeMap fun m60 =>
 mBoth (
 mMake 55 40 #[(Value.int .i64 0), (Value.int .u64 0), (Value.int .u64 0), (Value.int .i64 0), (Value.int .i64 0)] a0 a0 fun s61 =>
 mMake 4 1 #[(Value.bool false)] a0 a0 fun s62 =>
 j4 (s61, s62, m60, m49)
 ) (
 mMake 4 1 #[(Value.bool false)] a0 a0 fun s63 =>
 mMake 55 40 #[(Value.int .i64 0), (Value.int .u64 0), (Value.int .u64 0), (Value.int .i64 0), (Value.int .i64 0)] a0 a0 fun s64 =>
 j4 (s64, s63, m60, m49)
 )
 )
 )
 )
 )
 ))
 )
 )
 )
def x_catalogue_New : Cx Tryd.prog := ⟨tys, [s_slots_New_int, s_kin_New], [], [], mixed⟩
def h_catalogue_New : Hint := (.seq .d (.seq (.seq (.reg (.run [3, 7, 11] (.sel 11 14 28672 (.run [15, 19, 23] .nil) (.run [15, 19, 23] .nil) (.run [27] (.sel 15 18 458752 (.run [31, 35, 39] .nil) (.run [31, 35, 39] .nil) (.run [43] (.sel 19 22 7340032 (.run [47, 51, 55] .nil) (.run [47, 51, 55] .nil) .nil))))))) .d) (.seq .d (.seq .d (.seq .d (.seq .d (.seq (.reg (.run [0, 4, 8, 12, 20] (.join [.slot 44 tSl, .slot 46 tSl, .slot 47 tMap, .slot 48 tMap] 510173395288064 [] (.alt 4 (.alt 6 (.run [30, 34] .nil) (.both 7 8 (.both 6 8 (.run [34] .nil) (.run [27] .nil)) (.both 6 7 (.run [30] .nil) (.run [27] .nil)))) (.alt 6 (.alt 4 (.run [30, 34] .nil) (.both 7 8 (.both 4 8 (.run [34] .nil) (.run [19] .nil)) (.both 4 7 (.run [30] .nil) (.run [19] .nil)))) (.both 7 8 (.alt 4 (.both 6 8 (.run [34] .nil) (.run [27] .nil)) (.both 6 8 (.both 4 8 (.run [34] .nil) (.run [19] .nil)) (.both 4 6 (.run [27] .nil) (.run [19] .nil)))) (.alt 4 (.both 6 7 (.run [30] .nil) (.run [27] .nil)) (.both 6 7 (.both 4 7 (.run [30] .nil) (.run [19] .nil)) (.both 4 6 (.run [27] .nil) (.run [19] .nil))))))) (.run [36, 42, 44, 48] .nil)))) .d)))))))
def s_catalogue_New : Spec Tryd.prog := mkSpec x_catalogue_New 18 Tryd.f18 [(tInt .i64), (tInt .i64)] [tPtr, (tInt .i64)] false h_catalogue_New (fun a => m_catalogue_New a.1 a.2) (fun a K h => by kernel_rfl) callee18 rfl
def m_catalogue_Catalogue_In (a0 : Option Addr) (a1 : Int) (K : (Int) → H → Prop) : H → Prop :=
 mDeref a0 fun ad1 =>
 mLoad cMap (ad1.add 5) fun x2 =>
 mLookup (eqV Tryd.prog 40 3) (Value.int .i64) 0 x2 (Value.int .i64 a1) fun r3 =>
 K r3.1
def x_catalogue_Catalogue_In : Cx Tryd.prog := ⟨tys, [], [], [], mixed⟩
def h_catalogue_Catalogue_In : Hint := .d
def s_catalogue_Catalogue_In : Spec Tryd.prog := mkSpec x_catalogue_Catalogue_In 32 Tryd.f32 [tPtr, (tInt .i64)] [(tInt .i64)] false h_catalogue_Catalogue_In (fun a => m_catalogue_Catalogue_In a.1 a.2) (fun a K h => by kernel_rfl) callee32 rfl
def m_catalogue_Catalogue_free (a0 : Option Addr) (K : (Int) → H → Prop) : H → Prop :=
 mDeref a0 fun ad1 =>
 mLoad cSl (ad1.add 3) fun x2 =>
 mLoop (fun (rec4 : Int → H → Prop) (s3 : Int) =>
 mIf (decide (s3 < (x2.len : Int))) (
 mIdx x2 s3 1 fun ad5 =>
 mLoad cBool ad5 fun x6 =>
 mIf (!x6) (
 K s3
 ) (
 rec4 (iAdd .i64 s3 1)
 )
 ) (
 K (-1)
 )
 ) 0
def x_catalogue_Catalogue_free : Cx Tryd.prog := ⟨tys, [], [], [], mixed⟩
def h_catalogue_Catalogue_free : Hint := (.seq .d (.seq (.seq .d (.blk (.loop [.slot 10 (tInt .i64)] 523292 [] .d))) .d))
def s_catalogue_Catalogue_free : Spec Tryd.prog := mkSpec x_catalogue_Catalogue_free 52 Tryd.f52 [tPtr] [(tInt .i64)] false h_catalogue_Catalogue_free (fun a => m_catalogue_Catalogue_free a) (fun a K h => by kernel_rfl) callee52 rfl
def m_catalogue_Catalogue_put (a0 : Option Addr) (a1 : Int) (a2 : S_api_Token) (K : (Unit) → H → Prop) : H → Prop :=
 mDeref a0 fun ad1 =>
 mLoad cPtr ((ad1.add 0).add 0) fun x2 =>
 m_slots_Table_int_Put x2 a2.Cap a1 fun _ =>
 mDeref a0 fun ad4 =>
 mDeref a0 fun ad5 =>
 mLoad cSl (ad4.add 2) fun x6 =>
 mLoad cSl (ad5.add 3) fun x7 =>
 mIdx x6 a1 5 fun ad8 =>
 mStore ad8 [(Value.int .i64 a2.Cap.Obj), (Value.int .u64 a2.Cap.Pass.Hi), (Value.int .u64 a2.Cap.Pass.Lo), (Value.int .i64 a2.Rights), (Value.int .i64 a2.Parent)] <|
 mIdx x7 a1 1 fun ad9 =>
 mStore ad9 [(Value.bool true)] <|
 mDeref a0 fun ad10 =>
 mLoad cMap (ad10.add 5) fun x11 =>
 mLookup (eqV Tryd.prog 40 3) (Value.int .i64) 0 x11 (Value.int .i64 a2.Cap.Obj) fun r12 =>
 mMapSet (eqV Tryd.prog 40 3) x11 (Value.int .i64 a2.Cap.Obj) (Value.int .i64 (iAdd .i64 r12.1 1)) <|
 K ()
def x_catalogue_Catalogue_put : Cx Tryd.prog := ⟨tys, [s_slots_Table_int_Put], [5], [], mixed⟩
def h_catalogue_Catalogue_put : Hint := (.seq .d (.seq (.reg (.run [0, 4, 8, 12, 20, 28, 25, 18, 35] .nil)) (.seq (.reg (.run [0, 4, 8, 16, 20, 24, 28, 36, 41, 14, 34, 44, 51, 52, 59] .nil)) (.reg (.run [0, 4, 8, 16, 20, 25, 14, 30, 32, 39] .nil)))))
def s_catalogue_Catalogue_put : Spec Tryd.prog := mkSpec x_catalogue_Catalogue_put 55 Tryd.f55 [tPtr, (tInt .i64), S_api_Token.ty] [] false h_catalogue_Catalogue_put (fun a => m_catalogue_Catalogue_put a.1 a.2.1 a.2.2) (fun a K h => by kernel_rfl) callee55 rfl
def m_catalogue_Catalogue_Root (a0 : Option Addr) (a1 : S_api_Cap) (a2 : Int) (K : (Int × Int) → H → Prop) : H → Prop :=
 m_catalogue_Catalogue_free a0 fun r1 =>
 mPure (m_mask_Valid a2) fun r2 =>
 mIf (!r2) (
 K (0, 4)
 ) (
 mDeref a0 fun ad3 =>
 mLoad cMap (ad3.add 5) fun x4 =>
 mLookup (eqV Tryd.prog 40 3) (Value.int .i64) 0 x4 (Value.int .i64 a1.Obj) fun r5 =>
 mIf (decide (0 < r5.1)) (
 K (0, 19)
 ) (
 mIf (decide (r1 < 0)) (
 K (0, 10)
 ) (
 mDeref a0 fun ad6 =>
 mLoad cPtr ((ad6.add 0).add 1) fun x7 =>
 m_kin_Tree_Root x7 r1 fun _ =>
 m_catalogue_Catalogue_put a0 r1 (⟨⟨a1.Obj, ⟨a1.Pass.Hi, a1.Pass.Lo⟩⟩, a2, (-1)⟩ : S_api_Token) fun _ =>
 mDeref a0 fun ad10 =>
 mLoad cMap (ad10.add 4) fun x11 =>
 mMapSet (eqV Tryd.prog 40 3) x11 (Value.int .i64 a1.Obj) (Value.int .i64 r1) <|
 K (r1, 0)
 )
 )
 )
def x_catalogue_Catalogue_Root : Cx Tryd.prog := ⟨tys, [s_catalogue_Catalogue_free, s_mask_Valid, s_kin_Tree_Root, s_catalogue_Catalogue_put], [4], [], mixed⟩
def h_catalogue_Catalogue_Root : Hint := (.seq .d (.seq .d (.seq (.blk (.seq .d (.cond .d (.seq (.reg (.run [0, 4, 8, 16, 21, 14, 26, 28, 32] .nil)) .d)))) (.seq .d (.seq .d (.seq (.reg (.run [0, 4, 8, 16, 24, 21, 14, 31] .nil)) .d))))))
def s_catalogue_Catalogue_Root : Spec Tryd.prog := mkSpec x_catalogue_Catalogue_Root 36 Tryd.f36 [tPtr, S_api_Cap.ty, (tInt .i64)] [(tInt .i64), (tInt .i64)] false h_catalogue_Catalogue_Root (fun a => m_catalogue_Catalogue_Root a.1 a.2.1 a.2.2) (fun a K h => by kernel_rfl) callee36 rfl
def m_catalogue_Catalogue_Find (a0 : Option Addr) (a1 : S_api_Cap) (K : (Int × Bool) → H → Prop) : H → Prop :=
 mDeref a0 fun ad1 =>
 mLoad cPtr ((ad1.add 0).add 0) fun x2 =>
 m_slots_Table_int_Get x2 a1 fun r3 =>
 K (r3.1, r3.2)
def x_catalogue_Catalogue_Find : Cx Tryd.prog := ⟨tys, [s_slots_Table_int_Get], [3], [], mixed⟩
def h_catalogue_Catalogue_Find : Hint := (.seq .d (.seq (.reg (.run [0, 4, 8, 12, 21, 18, 27, 28, 32, 36, 40] .nil)) .d))
def s_catalogue_Catalogue_Find : Spec Tryd.prog := mkSpec x_catalogue_Catalogue_Find 38 Tryd.f38 [tPtr, S_api_Cap.ty] [(tInt .i64), tBool] false h_catalogue_Catalogue_Find (fun a => m_catalogue_Catalogue_Find a.1 a.2) (fun a K h => by kernel_rfl) callee38 rfl
def m_catalogue_Catalogue_At (a0 : Option Addr) (a1 : Int) (K : (S_api_Token × Bool) → H → Prop) : H → Prop :=
 mJoin (fun (s3 : Bool) =>
 mJoin (fun (s9 : Bool) =>
 mIf s9 (
 K ((⟨⟨0, ⟨0, 0⟩⟩, 0, 0⟩ : S_api_Token), false)
 ) (
 mDeref a0 fun ad11 =>
 mLoad cSl (ad11.add 2) fun x12 =>
 mIdx x12 a1 5 fun ad13 =>
 mLoad S_api_Token.cells ad13 fun x14 =>
 K (x14, true)
 )
 ) (fun j10 =>
 mIf s3 (
 j10 true
 ) (
 mDeref a0 fun ad15 =>
 mLoad cSl (ad15.add 3) fun x16 =>
 mIdx x16 a1 1 fun ad17 =>
 mLoad cBool ad17 fun x18 =>
 j10 (!x18)
 ))
 ) (fun j4 =>
 mIf (decide (a1 < 0)) (
 j4 true
 ) (
 mDeref a0 fun ad19 =>
 mLoad cSl (ad19.add 3) fun x20 =>
 j4 (decide ((x20.len : Int) ≤ a1))
 ))
def x_catalogue_Catalogue_At : Cx Tryd.prog := ⟨tys, [], [4], [], mixed⟩
def h_catalogue_Catalogue_At : Hint := (.seq .d (.seq (.seq (.reg (.run [3, 7, 11] (.join [.slot 16 tBool] 130560 [] (.split 8 (.run [15, 19, 23, 27, 31, 35, 39, 43] .nil) (.run [15, 19, 23, 27, 31, 35, 39, 43] .nil)) (.run [47] (.join [.slot 26 tBool] 133955584 [] (.split 17 (.run [51, 55, 59, 63, 67, 71, 75, 79, 83] .nil) (.run [51, 55, 59, 63, 67, 71, 75, 79, 83] .nil)) .nil))))) .d) .d))
def s_catalogue_Catalogue_At : Spec Tryd.prog := mkSpec x_catalogue_Catalogue_At 39 Tryd.f39 [tPtr, (tInt .i64)] [S_api_Token.ty, tBool] false h_catalogue_Catalogue_At (fun a => m_catalogue_Catalogue_At a.1 a.2) (fun a K h => by kernel_rfl) callee39 rfl
def m_catalogue_Catalogue_Child (a0 : Option Addr) (a1 : Int) (a2 : S_api_Cap) (a3 : Int) (K : (Int × Int) → H → Prop) : H → Prop :=
 m_catalogue_Catalogue_At a0 a1 fun r1 =>
 mIf (!r1.2) (
 K (0, 20)
 ) (
 mDeref a0 fun ad2 =>
 mLoad cPtr ((ad2.add 0).add 0) fun x3 =>
 m_slots_Table_int_Get x3 a2 fun r4 =>
 m_catalogue_Catalogue_free a0 fun r5 =>
 mIf (!decide (r1.1.Cap.Obj = a2.Obj)) (
 K (0, 3)
 ) (
 mPure (m_mask_Part a3 r1.1.Rights) fun r6 =>
 mIf (!r6) (
 K (0, 4)
 ) (
 mIf r4.2 (
 K (0, 19)
 ) (
 mIf (decide (r5 < 0)) (
 K (0, 10)
 ) (
 mDeref a0 fun ad7 =>
 mLoad cPtr ((ad7.add 0).add 1) fun x8 =>
 m_kin_Tree_Child x8 a1 r5 fun _ =>
 m_catalogue_Catalogue_put a0 r5 (⟨⟨a2.Obj, ⟨a2.Pass.Hi, a2.Pass.Lo⟩⟩, a3, a1⟩ : S_api_Token) fun _ =>
 K (r5, 0)
 )
 )
 )
 )
 )
def x_catalogue_Catalogue_Child : Cx Tryd.prog := ⟨tys, [s_catalogue_Catalogue_At, s_mask_Part, s_catalogue_Catalogue_free, s_catalogue_Catalogue_put, s_slots_Table_int_Get, s_kin_Tree_Child], [6, 10], [], mixed⟩
def h_catalogue_Catalogue_Child : Hint := (.seq .d (.seq .d (.seq .d (.seq (.reg (.run [0, 4, 8, 12, 21, 18, 27, 28, 32, 36, 40, 44] .nil)) .d))))
def s_catalogue_Catalogue_Child : Spec Tryd.prog := mkSpec x_catalogue_Catalogue_Child 43 Tryd.f43 [tPtr, (tInt .i64), S_api_Cap.ty, (tInt .i64)] [(tInt .i64), (tInt .i64)] false h_catalogue_Catalogue_Child (fun a => m_catalogue_Catalogue_Child a.1 a.2.1 a.2.2.1 a.2.2.2) (fun a K h => by kernel_rfl) callee43 rfl
def m_catalogue_Catalogue_Of (a0 : Option Addr) (a1 : Int) (K : (Sl) → H → Prop) : H → Prop :=
 mNew 41 #[(Value.pointer a0)] fun ad1 =>
 mLoad cPtr ad1 fun x2 =>
 mDeref x2 fun ad3 =>
 mLoad cMap (ad3.add 4) fun x4 =>
 mLookup (eqV Tryd.prog 40 3) (Value.int .i64) 0 x4 (Value.int .i64 a1) fun r5 =>
 mIf (!r5.2) (
 K Sl.nil
 ) (
 mNew 52 #[(Sl.val Sl.nil)] fun ad6 =>
 mMakeMap fun m7 =>
 mMapSet (eqV Tryd.prog 40 3) m7 (Value.int .i64 (-1)) (Value.int .i64 (-1)) <|
 mNew 84 #[(Value.map none)] fun ad8 =>
 mStore ad8 [(Value.map m7)] <|
 mLoad cPtr ad1 fun x9 =>
 mDeref x9 fun ad10 =>
 mLoad cPtr ((ad10.add 0).add 1) fun x11 =>
 m_walk_Down x11 r5.1 fun r12 =>
 mRangeF (A := Int) Tryd.prog (fun x => [(Value.int .i64 x)]) r12.1 (fun x13 mid14 kj15 =>
 mid14 (
 mLoad cPtr ad1 fun x17 =>
 mDeref x17 fun ad18 =>
 mLoad cSl (ad18.add 2) fun x19 =>
 mIdx x19 x13 5 fun ad20 =>
 mLoad S_api_Token.cells ad20 fun x21 =>
 mNew 55 #[(Value.int .i64 0), (Value.int .u64 0), (Value.int .u64 0), (Value.int .i64 0), (Value.int .i64 0)] fun ad22 =>
 mStore ad22 [(Value.int .i64 x21.Cap.Obj), (Value.int .u64 x21.Cap.Pass.Hi), (Value.int .u64 x21.Cap.Pass.Lo), (Value.int .i64 x21.Rights), (Value.int .i64 x21.Parent)] <|
 mLoad cMap ad8 fun x23 =>
 mLoad cSl ad6 fun x24 =>
 mMapSet (eqV Tryd.prog 40 3) x23 (Value.int .i64 x13) (Value.int .i64 (x24.len : Int)) <|
 mLoad cMap ad8 fun x25 =>
 mLoad (cInt .i64) (ad22.add 4) fun x26 =>
 mLookup (eqV Tryd.prog 40 3) (Value.int .i64) 0 x25 (Value.int .i64 x26) fun r27 =>
 mStore (ad22.add 4) [(Value.int .i64 r27.1)] <|
 mLoad cSl ad6 fun x28 =>
 mLoad S_api_Token.cells ad22 fun x29 =>
 mNew 55 #[(Value.int .i64 x29.Cap.Obj), (Value.int .u64 x29.Cap.Pass.Hi), (Value.int .u64 x29.Cap.Pass.Lo), (Value.int .i64 x29.Rights), (Value.int .i64 x29.Parent)] fun ad30 =>
 mAppend 55 5 40 #[(Value.int .i64 0), (Value.int .u64 0), (Value.int .u64 0), (Value.int .i64 0), (Value.int .i64 0)] x28 (⟨some ad30, 1, 1⟩ : Sl) fun s31 =>
 mStore ad6 [(Sl.val s31)] <|
 kj15 0
 )
 ) (fun j16 =>
 mIf (Nat.beq j16 0) (
 mLoad cSl ad6 fun x32 =>
 K x32
 ) (
 nope))
 )
def x_catalogue_Catalogue_Of : Cx Tryd.prog := ⟨tys, [s_walk_Down], [], [], mixed⟩
def h_catalogue_Catalogue_Of : Hint := (.seq .d (.seq .d (.seq .d (.seq .d (.seq .d (.seq (.seq .d (.blk (.rng [(tInt .i64)] [] false .d .d))) .d))))))
def s_catalogue_Catalogue_Of : Spec Tryd.prog := mkSpec x_catalogue_Catalogue_Of 13 Tryd.f13 [tPtr, (tInt .i64)] [tSl] false h_catalogue_Catalogue_Of (fun a => m_catalogue_Catalogue_Of a.1 a.2) (fun a K h => by kernel_rfl) callee13 rfl
end Go.Proofs.YtdleanjofhghnaaDoor.K
namespace Go.Proofs.YtdleanjofhghnaaDoor.K
open Go
abbrev En := Option (S_api_Token × List Int)
def ndOf : En → Nd
  | none => nd0
  | some (t, ks) => ⟨true, t.Parent, ks⟩
def nds (es : List En) : List Nd := es.map ndOf
abbrev Has (es : List En) (i : Nat) (t : S_api_Token) (ks : List Int) : Prop := es[i]? = some (some (t, ks))
structure CWF (es : List En) : Prop where
  len : 1 ≤ es.length ∧ es.length ≤ 256
  nd : ∀ i t ks, Has es i t ks → ks.Nodup
  down : ∀ i t ks, Has es i t ks → ∀ k ∈ ks, ∃ (j : Nat) (u : S_api_Token) (us : List Int), k = j ∧ Has es j u us ∧ u.Parent = i
  up : ∀ j u us, Has es j u us → u.Parent = -1 ∨ ∃ (i : Nat) (t : S_api_Token) (ks : List Int), u.Parent = i ∧ Has es i t ks ∧ (j : Int) ∈ ks ∧ t.Cap.Obj = u.Cap.Obj ∧ partOf u.Rights t.Rights = true
  rank : ∃ (w : Nat → Nat) (B : Nat), ∀ j u us, Has es j u us → w j ≤ B ∧ ∀ i : Nat, u.Parent = i → w i < w j
  cap : ∀ i j t ks u us, Has es i t ks → Has es j u us → t.Cap = u.Cap → i = j
  one : ∀ i j t ks u us, Has es i t ks → Has es j u us → t.Parent = -1 → u.Parent = -1 → t.Cap.Obj = u.Cap.Obj → i = j
  right : ∀ i t ks, Has es i t ks → 1 ≤ t.Rights ∧ t.Rights ≤ 31
theorem Has.lt {es : List En} {i : Nat} {t ks} (x : Has es i t ks) : i < es.length := lt_of_get x
theorem Has.uniq {es : List En} {i : Nat} {t ks u us} (x : Has es i t ks) (y : Has es i u us) : t = u ∧ ks = us := by
  have := x.symm.trans y
  simpa using this
theorem nds_get {es : List En} {i : Nat} {t ks} (x : Has es i t ks) : (nds es)[i]? = some ⟨true, t.Parent, ks⟩ := by
  unfold nds
  rw [List.getElem?_map, x]; rfl
theorem nds_len (es : List En) : (nds es).length = es.length := List.length_map ..
theorem hasN_nds {es : List En} {z : Int} : hasN (nds es) z = true ↔ ∃ (i : Nat) (t : S_api_Token) (ks : List Int), z = i ∧ Has es i t ks := by
  constructor
  · intro x
    obtain ⟨i, d, rfl, hd, ht, _⟩ := hasN_nat x
    unfold nds at hd
    rw [List.getElem?_map] at hd
    cases e : es[i]? with
    | none => rw [e] at hd; cases hd
    | some o =>
      cases o with
      | none => rw [e] at hd; cases hd; cases ht
      | some p => obtain ⟨t, ks⟩ := p; exact ⟨i, t, ks, rfl, e⟩
  · rintro ⟨i, t, ks, rfl, x⟩
    exact hasN_iff.2 ⟨_, nds_get x, rfl⟩
theorem chN_nds {es : List En} {i : Nat} {t ks} (x : Has es i t ks) : chN (nds es) (i : Int) = ks := by
  rw [chN_nat, nds_get x]; rfl
theorem chN_mem {es : List En} {z k : Int} (x : k ∈ chN (nds es) z) : ∃ (i : Nat) (t : S_api_Token) (ks : List Int), z = i ∧ Has es i t ks ∧ k ∈ ks := by
  by_cases h0 : 0 ≤ z
  · obtain ⟨i, rfl⟩ : ∃ i : Nat, z = i := ⟨z.toNat, by omega⟩
    rw [chN_nat] at x
    unfold nds at x
    rw [List.getElem?_map] at x
    cases e : es[i]? with
    | none => rw [e] at x; cases x
    | some o =>
      cases o with
      | none => rw [e] at x; cases x
      | some p => obtain ⟨t, ks⟩ := p; rw [e] at x; exact ⟨i, t, ks, rfl, e, x⟩
  · unfold chN at x
    rw [if_neg h0] at x; cases x
theorem CWF.forest {es : List En} (w : CWF es) : Forest (chN (nds es)) := by
  refine ⟨fun x y z hx hy => ?_, fun x => ?_, ?_⟩
  · obtain ⟨i, t, ks, rfl, h1, m1⟩ := chN_mem hx
    obtain ⟨j, u, us, rfl, h2, m2⟩ := chN_mem hy
    obtain ⟨a, v, vs, rfl, h3, p3⟩ := w.down i t ks h1 z m1
    obtain ⟨b, v', vs', e, h4, p4⟩ := w.down j u us h2 _ m2
    obtain rfl : a = b := by omega
    obtain ⟨rfl, rfl⟩ := h3.uniq h4
    omega
  · by_cases h : ∃ k, k ∈ chN (nds es) x
    · obtain ⟨k, hk⟩ := h
      obtain ⟨i, t, ks, rfl, h1, m1⟩ := chN_mem hk
      rw [chN_nds h1]; exact w.nd i t ks h1
    · rw [List.eq_nil_iff_forall_not_mem.2 fun a ha => h ⟨a, ha⟩]; exact List.nodup_nil
  · obtain ⟨r, B, hr⟩ := w.rank
    refine ⟨fun z => r z.toNat, B, fun x y hy => ?_⟩
    obtain ⟨i, t, ks, rfl, h1, m1⟩ := chN_mem hy
    obtain ⟨j, u, us, rfl, h2, p2⟩ := w.down i t ks h1 y m1
    obtain ⟨a, b⟩ := hr j u us h2
    have := b i p2
    dsimp only
    rw [Int.toNat_natCast, Int.toNat_natCast]
    omega
theorem CWF.below {es : List En} (w : CWF es) {x z : Int} (hx : hasN (nds es) x = true) (d : Desc (chN (nds es)) x z) : hasN (nds es) z = true := by
  cases d with
  | refl => exact hx
  | snoc d hz =>
    obtain ⟨i, t, ks, rfl, h1, m1⟩ := chN_mem hz
    obtain ⟨j, u, us, rfl, h2, _⟩ := w.down i t ks h1 z m1
    exact hasN_nds.2 ⟨j, u, us, rfl, h2⟩
theorem nodup_le : ∀ (n : Nat) (l : List Int), l.Nodup → (∀ z ∈ l, ∃ i : Nat, i < n ∧ z = i) → l.length ≤ n := by
  intro n
  induction n with
  | zero =>
    intro l _ h
    cases l with
    | nil => exact Nat.le_refl _
    | cons a r => obtain ⟨i, hi, _⟩ := h a (List.mem_cons_self ..); omega
  | succ n ih =>
    intro l hn h
    have := ih (l.erase (n : Int)) (hn.erase _) fun z hz => by
      obtain ⟨q1, q2⟩ := (List.Nodup.mem_erase_iff hn).1 hz
      obtain ⟨i, hi, rfl⟩ := h z q2
      exact ⟨i, by omega, rfl⟩
    rw [List.length_erase] at this
    split at this <;> omega
structure Below (es : List En) (n : Nat) (l : List Int) : Prop where
  pre : PreL (chN (nds es)) [(n : Int)] l
  live : LiveL (nds es) l
  nd : l.Nodup
  len : l.length ≤ es.length
theorem CWF.belowL {es : List En} (w : CWF es) {n : Nat} {t ks} (hn : Has es n t ks) {ch : Int → List Int} (hch : ∀ z k, k ∈ ch z ↔ k ∈ chN (nds es) z) (fo : Forest ch) {l : List Int} (hl : PreL ch [(n : Int)] l) : LiveL (nds es) l ∧ l.Nodup ∧ l.length ≤ es.length := by
  have live : LiveL (nds es) l := fun z hz => by
    obtain ⟨r, hr, d⟩ := hl.mem.1 hz
    obtain rfl := List.mem_singleton.1 hr
    have conv : ∀ {a b}, Desc ch a b → Desc (chN (nds es)) a b := fun d => by
      induction d with
      | refl => exact .refl
      | snoc _ h ih => exact .snoc ih ((hch _ _).1 h)
    exact w.below (hasN_nds.2 ⟨n, t, ks, rfl, hn⟩) (conv d)
  have nd := hl.nodup1 fo
  refine ⟨live, nd, nodup_le _ _ nd fun z hz => ?_⟩
  obtain ⟨i, u, us, rfl, h⟩ := hasN_nds.1 (live z hz)
  exact ⟨i, h.lt, rfl⟩
theorem CWF.ex {es : List En} (w : CWF es) {n : Nat} {t ks} (hn : Has es n t ks) : ∃ l, Below es n l := by
  obtain ⟨l, hl⟩ := PreL.ex w.forest [(n : Int)]
  obtain ⟨a, b, c⟩ := w.belowL hn (fun _ _ => Iff.rfl) w.forest hl
  exact ⟨l, hl, a, b, c⟩
def capsG : Nat → List En → List (S_api_Cap × Int)
  | _, [] => []
  | k, none :: r => capsG (k + 1) r
  | k, some (t, _) :: r => (t.Cap, (k : Int)) :: capsG (k + 1) r
theorem capsG_mem {c : S_api_Cap} {v : Int} : ∀ {es : List En} {k : Nat}, (c, v) ∈ capsG k es ↔ ∃ (i : Nat) (t : S_api_Token) (ks : List Int), Has es i t ks ∧ t.Cap = c ∧ v = ((k + i : Nat) : Int) := by
  intro es
  induction es with
  | nil =>
    intro k
    constructor
    · intro h; cases h
    · rintro ⟨i, t, ks, h, _⟩; cases h
  | cons e r ih =>
    intro k
    cases e with
    | none =>
      rw [capsG, ih]
      constructor
      · rintro ⟨i, t, ks, a, b, c⟩; exact ⟨i + 1, t, ks, a, b, by omega⟩
      · rintro ⟨i, t, ks, a, b, c⟩
        cases i with
        | zero => cases a
        | succ i => exact ⟨i, t, ks, a, b, by omega⟩
    | some p =>
      obtain ⟨u, us⟩ := p
      rw [capsG, List.mem_cons, ih]
      constructor
      · rintro (a | ⟨i, t, ks, a, b, c⟩)
        · cases a; exact ⟨0, u, us, rfl, rfl, by simp⟩
        · exact ⟨i + 1, t, ks, a, b, by omega⟩
      · rintro ⟨i, t, ks, a, b, c⟩
        cases i with
        | zero =>
          have a : some (some (u, us)) = some (some (t, ks)) := a
          cases a; left; rw [b, c]; simp
        | succ i => exact .inr ⟨i, t, ks, a, b, by omega⟩
theorem capsG_new {t : S_api_Token} {ks : List Int} : ∀ {es : List En} {i k : Nat}, es[i]? = some none → (capsG k (es.set i (some (t, ks)))).Perm ((t.Cap, ((k + i : Nat) : Int)) :: capsG k es) := by
  intro es
  induction es with
  | nil => intro i k h; cases h
  | cons e r ih =>
    intro i k h
    cases i with
    | zero => cases h; exact .refl _
    | succ i =>
      have h : r[i]? = some none := h
      have := ih (k := k + 1) h
      rw [List.set_cons_succ]
      rw [show k + 1 + i = k + (i + 1) by omega] at this
      cases e with
      | none => exact this
      | some p =>
        obtain ⟨u, us⟩ := p
        exact (this.cons _).trans (.swap ..)
theorem capsG_kill {t : S_api_Token} {ks : List Int} : ∀ {es : List En} {i k : Nat}, Has es i t ks → (capsG k es).Perm ((t.Cap, ((k + i : Nat) : Int)) :: capsG k (es.set i none)) := by
  intro es
  induction es with
  | nil => intro i k h; cases h
  | cons e r ih =>
    intro i k h
    cases i with
    | zero => cases h; exact .refl _
    | succ i =>
      have h : Has r i t ks := h
      have := ih (k := k + 1) h
      rw [List.set_cons_succ]
      rw [show k + 1 + i = k + (i + 1) by omega] at this
      cases e with
      | none => exact this
      | some p =>
        obtain ⟨u, us⟩ := p
        exact (this.cons _).trans (.swap ..)
theorem capsG_congr : ∀ {es es' : List En} {k : Nat}, es.map (Option.map Prod.fst) = es'.map (Option.map Prod.fst) → capsG k es = capsG k es' := by
  intro es
  induction es with
  | nil =>
    intro es' k h
    cases es' with
    | nil => rfl
    | cons a r => cases h
  | cons e r ih =>
    intro es' k h
    cases es' with
    | nil => cases h
    | cons e' r' =>
      rw [List.map_cons, List.map_cons, List.cons.injEq] at h
      have := ih (k := k + 1) h.2
      cases e with
      | none =>
        cases e' with
        | none => exact this
        | some p => cases h.1
      | some p =>
        cases e' with
        | none => cases h.1
        | some p' =>
          obtain ⟨u, us⟩ := p; obtain ⟨u', us'⟩ := p'
          have h1 : some u = some u' := h.1
          cases h1
          rw [capsG, capsG, this]
def cnt (es : List En) (o : Int) : Nat := (capsG 0 es).countP fun p => decide (p.1.Obj = o)
theorem cnt_le (es : List En) (o : Int) : cnt es o ≤ es.length := by
  have h : ∀ (es : List En) (k : Nat), (capsG k es).length ≤ es.length := by
    intro es
    induction es with
    | nil => exact fun _ => Nat.le_refl _
    | cons e r ih =>
      intro k
      have := ih (k + 1)
      cases e with
      | none => rw [capsG]; simp only [List.length_cons]; omega
      | some p => obtain ⟨u, us⟩ := p; rw [capsG]; simp only [List.length_cons]; omega
  exact Nat.le_trans List.countP_le_length (h es 0)
theorem cnt_pos {es : List En} {o : Int} : 0 < cnt es o ↔ ∃ (i : Nat) (t : S_api_Token) (ks : List Int), Has es i t ks ∧ t.Cap.Obj = o := by
  unfold cnt
  rw [List.countP_pos_iff]
  constructor
  · rintro ⟨⟨c, v⟩, hm, e⟩
    obtain ⟨i, t, ks, a, b, _⟩ := capsG_mem.1 hm
    exact ⟨i, t, ks, a, by rw [b]; simpa using e⟩
  · rintro ⟨i, t, ks, a, b⟩
    exact ⟨(t.Cap, ((0 + i : Nat) : Int)), capsG_mem.2 ⟨i, t, ks, a, rfl, rfl⟩, by simpa using b⟩
theorem CWF.empty {n : Nat} (h1 : 1 ≤ n) (h2 : n ≤ 256) : CWF (List.replicate n none) := by
  have no : ∀ {i t ks}, ¬ Has (List.replicate n none) i t ks := fun h => by
    have := List.eq_of_mem_replicate (List.mem_of_getElem? h)
    cases this
  exact ⟨by rw [List.length_replicate]; exact ⟨h1, h2⟩, fun _ _ _ h => (no h).elim, fun _ _ _ h => (no h).elim, fun _ _ _ h => (no h).elim, ⟨fun _ => 0, 0, fun _ _ _ h => (no h).elim⟩, fun _ _ _ _ _ _ h => (no h).elim, fun _ _ _ _ _ _ h => (no h).elim, fun _ _ _ h => (no h).elim⟩
def rootE (es : List En) (n : Nat) (t : S_api_Token) : List En := es.set n (some (t, []))
def childE (es : List En) (q n : Nat) (t : S_api_Token) : List En := match es[q]? with
  | some (some (u, us)) => (es.set n (some (t, []))).set q (some (u, us ++ [(n : Int)]))
  | _ => es
theorem CWF.parent {es : List En} (w : CWF es) {n : Nat} (hn : es[n]? = some none) {j u us} (h : Has es j u us) : u.Parent ≠ n := fun e => by
  rcases w.up j u us h with q | ⟨i, t, ks, q, hi, _⟩
  · omega
  · obtain rfl : i = n := by omega
    unfold Has at hi; rw [hn] at hi; cases hi
theorem CWF.kid {es : List En} (w : CWF es) {n : Nat} (hn : es[n]? = some none) {j u us} (h : Has es j u us) : (n : Int) ∉ us := fun e => by
  obtain ⟨i, t, ks, q, hi, _⟩ := w.down j u us h _ e
  obtain rfl : n = i := by omega
  unfold Has at hi; rw [hn] at hi; cases hi
theorem has_set {es : List En} {n : Nat} (hn : n < es.length) {e : En} {i : Nat} {t ks} : Has (es.set n e) i t ks ↔ (i = n ∧ e = some (t, ks)) ∨ (i ≠ n ∧ Has es i t ks) := by
  unfold Has
  rw [List.getElem?_set]
  by_cases q : n = i
  · subst q
    rw [if_pos rfl, if_pos hn]
    constructor
    · intro h; cases h; exact .inl ⟨rfl, rfl⟩
    · rintro (⟨_, h⟩ | ⟨h, _⟩)
      · rw [h]
      · exact absurd rfl h
  · rw [if_neg q]
    constructor
    · intro h; exact .inr ⟨fun z => q z.symm, h⟩
    · rintro (⟨h, _⟩ | ⟨_, h⟩)
      · exact absurd h.symm q
      · exact h
theorem CWF.root {es : List En} (w : CWF es) {n : Nat} (hn : es[n]? = some none) {c : S_api_Cap} {r : Int} (hr : 1 ≤ r ∧ r ≤ 31) (h0 : cnt es c.Obj = 0) : CWF (rootE es n ⟨c, r, -1⟩) := by
  have hlt := lt_of_get hn
  have no : ∀ {i t ks}, Has es i t ks → t.Cap.Obj ≠ c.Obj := fun h e => by
    have := cnt_pos.2 ⟨_, _, _, h, e⟩
    omega
  have neN : ∀ {i t ks}, Has es i t ks → i ≠ n := fun h e => by subst e; unfold Has at h; rw [hn] at h; cases h
  refine ⟨by unfold rootE; rw [List.length_set]; exact w.len, fun i t ks h => ?_, fun i t ks h k hk => ?_, fun j u us h => ?_, ?_, fun i j t ks u us a b e => ?_, fun i j t ks u us a b e e' e'' => ?_, fun i t ks h => ?_⟩
  · rcases (has_set hlt).1 h with ⟨rfl, q⟩ | ⟨_, h⟩
    · cases q; exact List.nodup_nil
    · exact w.nd i t ks h
  · rcases (has_set hlt).1 h with ⟨rfl, q⟩ | ⟨_, h⟩
    · cases q; cases hk
    · obtain ⟨j, u, us, a, b, c⟩ := w.down i t ks h k hk
      exact ⟨j, u, us, a, (has_set hlt).2 (.inr ⟨neN b, b⟩), c⟩
  · rcases (has_set hlt).1 h with ⟨rfl, q⟩ | ⟨_, h⟩
    · cases q; exact .inl rfl
    · rcases w.up j u us h with q | ⟨i, t, ks, q, hi, z⟩
      · exact .inl q
      · exact .inr ⟨i, t, ks, q, (has_set hlt).2 (.inr ⟨neN hi, hi⟩), z⟩
  · obtain ⟨wt, B, hw⟩ := w.rank
    refine ⟨fun i => if i = n then 0 else wt i, B, fun j u us h => ?_⟩
    rcases (has_set hlt).1 h with ⟨rfl, q⟩ | ⟨hne, h⟩
    · cases q
      exact ⟨by dsimp only; rw [if_pos rfl]; omega, fun i e => by have e : (-1 : Int) = i := e; omega⟩
    · obtain ⟨a, b⟩ := hw j u us h
      refine ⟨by dsimp only; rw [if_neg hne]; exact a, fun i e => ?_⟩
      dsimp only
      rw [if_neg (fun q : i = n => w.parent hn h (q ▸ e)), if_neg hne]
      exact b i e
  · rcases (has_set hlt).1 a with ⟨rfl, q⟩ | ⟨_, a'⟩
    · cases q
      rcases (has_set hlt).1 b with ⟨rfl, _⟩ | ⟨_, b'⟩
      · rfl
      · exact absurd (by rw [← e]) (no b')
    · rcases (has_set hlt).1 b with ⟨rfl, q⟩ | ⟨_, b'⟩
      · cases q; exact absurd (by rw [e]) (no a')
      · exact w.cap i j t ks u us a' b' e
  · rcases (has_set hlt).1 a with ⟨rfl, q⟩ | ⟨_, a'⟩
    · cases q
      rcases (has_set hlt).1 b with ⟨rfl, _⟩ | ⟨_, b'⟩
      · rfl
      · exact absurd e''.symm (no b')
    · rcases (has_set hlt).1 b with ⟨rfl, q⟩ | ⟨_, b'⟩
      · cases q; exact absurd e'' (no a')
      · exact w.one i j t ks u us a' b' e e' e''
  · rcases (has_set hlt).1 h with ⟨rfl, q⟩ | ⟨_, h⟩
    · cases q; exact hr
    · exact w.right i t ks h
theorem nds_root {es : List En} {n : Nat} {c : S_api_Cap} {r : Int} : nds (rootE es n ⟨c, r, -1⟩) = rootN (nds es) n := by
  unfold nds rootE rootN
  rw [List.map_set]; rfl
theorem has_child {es : List En} {q n : Nat} {t : S_api_Token} {u us} (hq : Has es q u us) (hn : es[n]? = some none) {i : Nat} {v vs} : Has (childE es q n t) i v vs ↔ (i = n ∧ v = t ∧ vs = []) ∨ (i = q ∧ v = u ∧ vs = us ++ [(n : Int)]) ∨ (i ≠ n ∧ i ≠ q ∧ Has es i v vs) := by
  have hlt := lt_of_get hn
  have hne : n ≠ q := fun e => by subst e; unfold Has at hq; rw [hn] at hq; cases hq
  have e0 : childE es q n t = (es.set n (some (t, []))).set q (some (u, us ++ [(n : Int)])) := by unfold childE; rw [hq]
  rw [e0, has_set (by rw [List.length_set]; exact hq.lt), has_set hlt]
  constructor
  · rintro (⟨a, b⟩ | ⟨a, ⟨b, c⟩ | ⟨b, c⟩⟩)
    · cases b; exact .inr (.inl ⟨a, rfl, rfl⟩)
    · cases c; exact .inl ⟨b, rfl, rfl⟩
    · exact .inr (.inr ⟨b, a, c⟩)
  · rintro (⟨a, b, c⟩ | ⟨a, b, c⟩ | ⟨a, b, c⟩)
    · subst a b c; exact .inr ⟨hne, .inl ⟨rfl, rfl⟩⟩
    · subst a b c; exact .inl ⟨rfl, rfl⟩
    · exact .inr ⟨b, .inr ⟨a, c⟩⟩
theorem CWF.child {es : List En} (w : CWF es) {q n : Nat} {u us} (hq : Has es q u us) (hn : es[n]? = some none) {c : S_api_Cap} {r : Int} (ho : u.Cap.Obj = c.Obj) (hp : partOf r u.Rights = true) (hr : 1 ≤ r ∧ r ≤ 31) (h0 : ∀ i t ks, Has es i t ks → t.Cap ≠ c) : CWF (childE es q n ⟨c, r, q⟩) := by
  have H := fun {i v vs} => has_child (t := ⟨c, r, q⟩) (i := i) (v := v) (vs := vs) hq hn
  have neN : ∀ {i t ks}, Has es i t ks → i ≠ n := fun h e => by subst e; unfold Has at h; rw [hn] at h; cases h
  have hqn : q ≠ n := neN hq
  have old : ∀ {i v vs}, Has es i v vs → ∃ vs', Has (childE es q n ⟨c, r, q⟩) i v vs' ∧ (∀ k ∈ vs, k ∈ vs') := fun {i v vs} h => by
    by_cases e : i = q
    · subst e
      obtain ⟨rfl, rfl⟩ := hq.uniq h
      exact ⟨_, H.2 (.inr (.inl ⟨rfl, rfl, rfl⟩)), fun k hk => List.mem_append_left _ hk⟩
    · exact ⟨vs, H.2 (.inr (.inr ⟨neN h, e, h⟩)), fun k hk => hk⟩
  have back : ∀ {i v vs}, Has (childE es q n ⟨c, r, q⟩) i v vs → i ≠ n → ∃ vs', Has es i v vs' := fun {i v vs} h e => by
    rcases H.1 h with ⟨a, _⟩ | ⟨rfl, rfl, _⟩ | ⟨_, _, h⟩
    · exact absurd a e
    · exact ⟨_, hq⟩
    · exact ⟨_, h⟩
  have newc : ∀ {i v vs}, Has (childE es q n ⟨c, r, q⟩) i v vs → i = n → v = ⟨c, r, q⟩ := fun {i v vs} h e => by
    rcases H.1 h with ⟨_, a, _⟩ | ⟨a, _, _⟩ | ⟨a, _, _⟩
    · exact a
    · exact absurd (a.symm.trans e) hqn
    · exact absurd e a
  refine ⟨?_, fun i t ks h => ?_, fun i t ks h k hk => ?_, fun j v vs h => ?_, ?_, fun i j t ks v vs a b e => ?_, fun i j t ks v vs a b e e' e'' => ?_, fun i t ks h => ?_⟩
  · unfold childE; rw [hq]; simp only [List.length_set]; exact w.len
  · rcases H.1 h with ⟨_, _, rfl⟩ | ⟨rfl, rfl, rfl⟩ | ⟨_, _, h⟩
    · exact List.nodup_nil
    · rw [List.nodup_append]
      refine ⟨w.nd _ _ _ hq, by simp, fun a ha b hb e => ?_⟩
      obtain rfl := List.mem_singleton.1 hb
      subst e
      exact w.kid hn hq ha
    · exact w.nd i t ks h
  · have lift : ∀ {k : Int} {i : Nat} {t ks}, Has es i t ks → k ∈ ks → ∃ (j : Nat) (u : S_api_Token) (us : List Int), k = j ∧ Has (childE es q n ⟨c, r, q⟩) j u us ∧ u.Parent = i := fun hi hk => by
      obtain ⟨j, v, vs, a, b, c⟩ := w.down _ _ _ hi _ hk
      obtain ⟨vs', b', _⟩ := old b
      exact ⟨j, v, vs', a, b', c⟩
    rcases H.1 h with ⟨_, _, rfl⟩ | ⟨rfl, rfl, rfl⟩ | ⟨_, _, h⟩
    · cases hk
    · rcases List.mem_append.1 hk with hk | hk
      · exact lift hq hk
      · obtain rfl := List.mem_singleton.1 hk
        exact ⟨n, _, _, rfl, H.2 (.inl ⟨rfl, rfl, rfl⟩), rfl⟩
    · exact lift h hk
  · by_cases e : j = n
    · have := newc h e
      subst this; subst e
      refine .inr ⟨q, u, us ++ [(j : Int)], rfl, H.2 (.inr (.inl ⟨rfl, rfl, rfl⟩)), ?_, ho, hp⟩
      simp
    · obtain ⟨vs', h⟩ := back h e
      rcases w.up j v vs' h with z | ⟨i, t, ks, z, hi, m, z'⟩
      · exact .inl z
      · obtain ⟨ks', hi', sub⟩ := old hi
        exact .inr ⟨i, t, ks', z, hi', sub _ m, z'⟩
  · obtain ⟨wt, B, hw⟩ := w.rank
    refine ⟨fun i => if i = n then wt q + 1 else wt i, B + 1, fun j v vs h => ?_⟩
    by_cases e : j = n
    · have := newc h e
      subst this; subst e
      refine ⟨by dsimp only; rw [if_pos rfl]; have := (hw q u us hq).1; omega, fun i e => ?_⟩
      dsimp only
      have e : (q : Int) = i := e
      obtain rfl : q = i := by omega
      rw [if_neg hqn, if_pos rfl]; omega
    · obtain ⟨vs', h⟩ := back h e
      obtain ⟨a, b⟩ := hw j v vs' h
      refine ⟨by dsimp only; rw [if_neg e]; omega, fun i z => ?_⟩
      dsimp only
      rw [if_neg (fun q : i = n => w.parent hn h (q ▸ z)), if_neg e]
      exact b i z
  · by_cases e1 : i = n
    · by_cases e2 : j = n
      · omega
      · obtain ⟨vs', b⟩ := back b e2
        have := newc a e1
        subst this
        exact absurd e.symm (h0 _ _ _ b)
    · obtain ⟨ks', a⟩ := back a e1
      by_cases e2 : j = n
      · have := newc b e2
        subst this
        exact absurd e (h0 _ _ _ a)
      · obtain ⟨vs', b⟩ := back b e2
        exact w.cap _ _ _ _ _ _ a b e
  · by_cases e1 : i = n
    · have := newc a e1
      subst this
      have e : (q : Int) = -1 := e
      omega
    · obtain ⟨ks', a⟩ := back a e1
      by_cases e2 : j = n
      · have := newc b e2
        subst this
        have e' : (q : Int) = -1 := e'
        omega
      · obtain ⟨vs', b⟩ := back b e2
        exact w.one _ _ _ _ _ _ a b e e' e''
  · by_cases e : i = n
    · have := newc h e
      subst this; exact hr
    · obtain ⟨ks', h⟩ := back h e
      exact w.right _ _ _ h
theorem nds_child {es : List En} {q n : Nat} {t : S_api_Token} (ht : t.Parent = q) {u us} (hq : Has es q u us) : nds (childE es q n t) = childN (nds es) q n := by
  unfold childN
  rw [nds_get hq]
  unfold childE
  rw [hq]
  simp only [nds]
  rw [List.map_set, List.map_set]
  show ((es.map ndOf).set n ⟨true, t.Parent, []⟩).set q ⟨true, u.Parent, us ++ [(n : Int)]⟩ = _
  rw [ht]
def cutE (S : List Int) (es : List En) : List En := es.mapIdx fun i e => if (i : Int) ∈ S then none else e.map fun p => (p.1, p.2.filter fun k => decide (k ∉ S))
theorem cutE_len (S : List Int) (es : List En) : (cutE S es).length = es.length := by unfold cutE; rw [List.length_mapIdx]
theorem cutE_get (S : List Int) (es : List En) (i : Nat) : (cutE S es)[i]? = (es[i]?).map fun e => if (i : Int) ∈ S then none else e.map fun p => (p.1, p.2.filter fun k => decide (k ∉ S)) := by
  unfold cutE; rw [List.getElem?_mapIdx]
theorem cutE_congr {S T : List Int} (h : ∀ z, z ∈ S ↔ z ∈ T) (es : List En) : cutE S es = cutE T es := by
  apply List.ext_getElem?
  intro i
  rw [cutE_get, cutE_get]
  simp only [h]
theorem cutE_nil (es : List En) : cutE [] es = es := by
  apply List.ext_getElem?
  intro i
  rw [cutE_get]
  cases es[i]? with
  | none => rfl
  | some e =>
    cases e with
    | none => simp
    | some p => obtain ⟨t, ks⟩ := p; simp
theorem has_cut {S : List Int} {es : List En} {i : Nat} {t vs} : Has (cutE S es) i t vs ↔ (i : Int) ∉ S ∧ ∃ ks, Has es i t ks ∧ vs = ks.filter fun k => decide (k ∉ S) := by
  unfold Has
  rw [cutE_get]
  cases es[i]? with
  | none => simp
  | some e =>
    cases e with
    | none => simp
    | some p =>
      obtain ⟨u, us⟩ := p
      by_cases q : (i : Int) ∈ S
      · simp [q]
      · simp only [Option.map_some, if_neg q, Option.some.injEq, Prod.mk.injEq]
        constructor
        · rintro ⟨a, b⟩; exact ⟨q, us, ⟨a, rfl⟩, b.symm⟩
        · rintro ⟨_, ks, ⟨a, b⟩, c⟩; subst a b; exact ⟨rfl, c.symm⟩
structure CutStep (es : List En) (S : List Int) (m : Nat) (t : S_api_Token) : Prop where
  leaf : Has (cutE S es) m t []
  nds : nds (cutE (S ++ [(m : Int)]) es) = cutN (nds (cutE S es)) m
  use : (cutE (S ++ [(m : Int)]) es).map Option.isSome = ((cutE S es).map Option.isSome).set m false
  caps : (capsG 0 (cutE S es)).Perm ((t.Cap, (m : Int)) :: capsG 0 (cutE (S ++ [(m : Int)]) es))
  par : 0 ≤ t.Parent → t.Parent.toNat ≠ m ∧ ∃ dq, (Go.Proofs.YtdleanjofhghnaaDoor.K.nds (cutE S es))[t.Parent.toNat]? = some dq ∧ (m : Int) ∈ dq.kids ∧ dq.kids.length ≤ 256
theorem CWF.kids_le {es : List En} (w : CWF es) {i t ks} (h : Has es i t ks) : ks.length ≤ es.length := by
  refine nodup_le _ _ (w.nd _ _ _ h) fun z hz => ?_
  obtain ⟨j, u, us, rfl, hj, _⟩ := w.down _ _ _ h _ hz
  exact ⟨j, hj.lt, rfl⟩
theorem CWF.cutStep {es : List En} (w : CWF es) {S : List Int} {m : Nat} {t ks} (hm : Has es m t ks) (hS : (m : Int) ∉ S) (hk : ∀ k ∈ ks, k ∈ S) (hp : ∀ q : Nat, t.Parent = q → (q : Int) ∉ S) : CutStep es S m t := by
  have leaf : Has (cutE S es) m t [] := has_cut.2 ⟨hS, ks, hm, by rw [List.filter_eq_nil_iff.2]; intro a ha; simpa using hk a ha⟩
  have hmS : (m : Int) ∈ S ++ [(m : Int)] := by simp
  have memS : ∀ z : Int, z ∈ S ++ [(m : Int)] ↔ z ∈ S ∨ z = m := fun z => by rw [List.mem_append, List.mem_singleton]
  have own : ∀ {i u us}, Has es i u us → (m : Int) ∈ us → t.Parent = i := fun {i u us} h hmem => by
    obtain ⟨j, v, vs, e, hj, p⟩ := w.down _ _ _ h _ hmem
    obtain rfl : m = j := by omega
    obtain ⟨rfl, _⟩ := hm.uniq hj
    exact p
  have same : ∀ {i : Nat} {u us}, Has es i u us → t.Parent ≠ i → (us.filter fun k => decide (k ∉ S ++ [(m : Int)])) = us.filter fun k => decide (k ∉ S) := fun {i u us} h hne => by
    refine List.filter_congr fun k hkm => ?_
    rw [decide_eq_decide, memS]
    constructor
    · exact fun a b => a (.inl b)
    · rintro a (b | b)
      · exact a b
      · subst b; exact hne (own h hkm)
  have get2 : ∀ i : Nat, (nds (cutE (S ++ [(m : Int)]) es))[i]? = (es[i]?).map fun e => ndOf (if (i : Int) ∈ S ++ [(m : Int)] then none else e.map fun p => (p.1, p.2.filter fun k => decide (k ∉ S ++ [(m : Int)]))) := fun i => by
    unfold nds; rw [List.getElem?_map, cutE_get, Option.map_map]; rfl
  have get1 : ∀ i : Nat, (nds (cutE S es))[i]? = (es[i]?).map fun e => ndOf (if (i : Int) ∈ S then none else e.map fun p => (p.1, p.2.filter fun k => decide (k ∉ S))) := fun i => by
    unfold nds; rw [List.getElem?_map, cutE_get, Option.map_map]; rfl
  have hlm := hm.lt
  have hl1 : m < (nds (cutE S es)).length := by rw [nds_len, cutE_len]; exact hlm
  have at_m : (nds (cutE (S ++ [(m : Int)]) es))[m]? = some nd0 := by
    rw [get2, hm, Option.map_some, if_pos hmS]; rfl
  have other : ∀ i : Nat, i ≠ m → t.Parent ≠ i → (nds (cutE (S ++ [(m : Int)]) es))[i]? = (nds (cutE S es))[i]? := fun i h1 h2 => by
    rw [get1, get2]
    cases e : es[i]? with
    | none => rfl
    | some o =>
      rw [Option.map_some, Option.map_some]
      have hi : ((i : Int) ∈ S ++ [(m : Int)]) ↔ (i : Int) ∈ S := by
        rw [memS]
        constructor
        · rintro (a | a)
          · exact a
          · exact absurd (by omega) h1
        · exact .inl
      simp only [hi]
      cases o with
      | none => rfl
      | some p =>
        obtain ⟨u, us⟩ := p
        simp only [Option.map_some]
        rw [same e h2]
  refine ⟨leaf, ?_, ?_, ?_, fun h0 => ?_⟩
  · unfold cutN
    rw [nds_get leaf]
    simp only
    split
    · rename_i hneg
      apply List.ext_getElem?
      intro i
      rw [List.getElem?_set]
      by_cases e : m = i
      · subst e; rw [if_pos rfl, if_pos hl1, at_m]
      · rw [if_neg e]; exact other i (fun q => e q.symm) (by omega)
    · rename_i hpos
      rcases w.up _ _ _ hm with z | ⟨q, u, us, z, hq, hmem, _⟩
      · omega
      · have hqS := hp q z
        have h1 : Has (cutE S es) q u _ := has_cut.2 ⟨hqS, us, hq, rfl⟩
        have hqm : q ≠ m := fun e => by
          obtain ⟨wt, B, hw⟩ := w.rank
          have := (hw _ _ _ hm).2 q z
          rw [e] at this; omega
        rw [show t.Parent.toNat = q by omega, nds_get h1]
        simp only
        have hl2 : q < (nds (cutE S es)).length := by rw [nds_len, cutE_len]; exact hq.lt
        apply List.ext_getElem?
        intro i
        rw [List.getElem?_set, List.getElem?_set, List.length_set]
        by_cases e : m = i
        · subst e; rw [if_pos rfl, if_pos hl1, at_m]
        · rw [if_neg e]
          by_cases e2 : q = i
          · subst e2
            rw [if_pos rfl, if_pos hl2, get2, hq, Option.map_some]
            rw [if_neg (fun a => ((memS _).1 a).elim hqS fun b => hqm (by omega))]
            show some (Nd.mk true u.Parent _) = some (Nd.mk true u.Parent _)
            have nd := w.nd _ _ _ hq
            rw [List.Nodup.erase_eq_filter (List.Nodup.sublist List.filter_sublist nd), List.filter_filter]
            congr 2
            refine List.filter_congr fun k hkm => ?_
            rw [Bool.eq_iff_iff, decide_eq_true_eq, Bool.and_eq_true, decide_eq_true_eq, memS, bne_iff_ne]
            constructor
            · exact fun a => ⟨fun b => a (.inr b), fun b => a (.inl b)⟩
            · rintro ⟨a, b⟩ (c | c)
              · exact b c
              · exact a c
          · rw [if_neg e2]; exact other i (fun q => e q.symm) (by omega)
  · apply List.ext_getElem?
    intro i
    rw [List.getElem?_set, List.getElem?_map, List.getElem?_map, cutE_get, cutE_get, List.length_map, cutE_len]
    by_cases e : m = i
    · subst e; rw [if_pos rfl, if_pos hlm, hm]; simp
    · rw [if_neg e]
      have hi : ((i : Int) ∈ S ++ [(m : Int)]) ↔ (i : Int) ∈ S := by
        rw [memS]
        constructor
        · rintro (a | a)
          · exact a
          · exact absurd (by omega) e
        · exact .inl
      simp only [hi]
      cases es[i]? with
      | none => rfl
      | some o =>
        simp only [Option.map_some]
        split
        · rfl
        · cases o <;> rfl
  · have := capsG_kill (k := 0) leaf
    rw [Nat.zero_add] at this
    have e : capsG 0 ((cutE S es).set m none) = capsG 0 (cutE (S ++ [(m : Int)]) es) := by
      refine capsG_congr ?_
      apply List.ext_getElem?
      intro i
      rw [List.getElem?_map, List.getElem?_map, List.getElem?_set, cutE_get, cutE_get, cutE_len]
      by_cases e : m = i
      · subst e; rw [if_pos rfl, if_pos hlm, hm]; simp
      · rw [if_neg e]
        have hi : ((i : Int) ∈ S ++ [(m : Int)]) ↔ (i : Int) ∈ S := by
          rw [memS]
          constructor
          · rintro (a | a)
            · exact a
            · exact absurd (by omega) e
          · exact .inl
        simp only [hi]
        cases es[i]? with
        | none => rfl
        | some o =>
          simp only [Option.map_some]
          split
          · rfl
          · cases o <;> rfl
    rw [e] at this
    exact this
  · rcases w.up _ _ _ hm with z | ⟨q, u, us, z, hq, hmem, _⟩
    · omega
    · have hqS := hp q z
      have h1 : Has (cutE S es) q u _ := has_cut.2 ⟨hqS, us, hq, rfl⟩
      refine ⟨fun e => ?_, ⟨true, u.Parent, us.filter fun k => decide (k ∉ S)⟩, by rw [show t.Parent.toNat = q by omega]; exact nds_get h1, List.mem_filter.2 ⟨hmem, by simpa using hS⟩, ?_⟩
      · obtain ⟨wt, B, hw⟩ := w.rank
        have := (hw _ _ _ hm).2 q z
        have : q = m := by omega
        subst this; omega
      · have h2 := w.kids_le hq
        have h3 : (us.filter fun k => decide (k ∉ S)).length ≤ us.length := List.length_filter_le _ _
        have := w.len
        show (us.filter fun k => decide (k ∉ S)).length ≤ 256
        omega
theorem keyN {t : TypeId} (hu : Tryd.prog.underlying t = some (.int .i64)) : KeyEq (eqV Tryd.prog 40 t) (Value.int .i64) := fun a b => by
  show eqV Tryd.prog (39 + 1) t _ _ = _
  rw [eqV.eq_2, hu]
  rfl
theorem keyNi : KeyEq (eqV Tryd.prog 40 3) (Value.int .i64) := keyN (by kernel_rfl)
structure CL where
  tp : Nat
  ts : Sl
  kp : Nat
  ks : Sl
  F : Nat → Prop
  tk : Sl
  us : Sl
  rb : Nat
  cb : Nat
def CL.obj (L : CL) : S_catalogue_Catalogue := ⟨⟨some ⟨L.tp, 0, none⟩, some ⟨L.kp, 0, none⟩⟩, L.tk, L.us, some L.rb, some L.cb⟩
abbrev cTok := S_api_Token.cells
theorem tok_len : ∀ x, (cTok x).length = 5 := fun _ => rfl
theorem tok_plain : ∀ x, (cTok x).all plainVal = true := fun _ => rfl
structure CatRaw (h : H) (p : Nat) (L : CL) (most knob : Int) (l : List (S_api_Cap × Int)) (ns : List Nd) (ts : List S_api_Token) (us : List Bool) (lr lc : List (Int × Int)) : Prop where
  cell : h p = some (.cells (S_catalogue_Catalogue.cells L.obj).toArray N_catalogue_Catalogue (0, 0))
  tab : Tab h L.tp L.ts most knob l
  tree : Tree h L.kp L.ks L.F ns
  tok : Buf cTok 5 N_api_Token h L.tk ts
  use : Buf cBool 1 4 h L.us us
  roots : MapOf (Value.int .i64) (Value.int .i64) h L.rb lr
  count : MapOf (Value.int .i64) (Value.int .i64) h L.cb lc
  ne : L.rb ≠ L.cb
def comp (p : Nat) (L : CL) : Nat → Nat → Prop
  | 0, c => c = p
  | 1, c => c = L.tp ∨ L.ts.foot c
  | 2, c => L.F c
  | 3, c => L.tk.foot c
  | 4, c => L.us.foot c
  | 5, c => c = L.rb
  | 6, c => c = L.cb
  | _, _ => False
def CFoot (p : Nat) (L : CL) (c : Nat) : Prop := ∃ i, i < 7 ∧ comp p L i c
def ctys : Nat → List TypeId
  | 0 => [N_catalogue_Catalogue]
  | 1 => [N_slots_Table_int, N_slots_place_int]
  | 2 => [N_kin_Tree, N_kin_node, N_int]
  | 3 => [N_api_Token]
  | 4 => [4]
  | _ => []
section
variable {h : H} {p : Nat} {L : CL} {most knob : Int} {l : List (S_api_Cap × Int)} {ns : List Nd} {ts : List S_api_Token} {us : List Bool} {lr lc : List (Int × Int)}
theorem CatRaw.kind (x : CatRaw h p L most knob l ns ts us lr lc) {i c : Nat} (hi : i < 5) (hc : comp p L i c) : ∃ e, e ∈ ctys i ∧ Typed h e c := by
  match i, hi, hc with
  | 0, _, hc => exact ⟨_, List.mem_singleton_self _, by cases hc; exact Typed.of x.cell⟩
  | 1, _, hc =>
    rcases x.tab.typed hc with q | q
    · exact ⟨_, List.mem_cons_self .., q⟩
    · exact ⟨_, List.mem_cons_of_mem _ (List.mem_cons_self ..), q⟩
  | 2, _, hc =>
    rcases x.tree.typed hc with q | q | q
    · exact ⟨_, List.mem_cons_self .., q⟩
    · exact ⟨_, List.mem_cons_of_mem _ (List.mem_cons_self ..), q⟩
    · exact ⟨_, List.mem_cons_of_mem _ (List.mem_cons_of_mem _ (List.mem_cons_self ..)), q⟩
  | 3, _, hc => exact ⟨_, List.mem_singleton_self _, x.tok.typed hc⟩
  | 4, _, hc => exact ⟨_, List.mem_singleton_self _, x.use.typed hc⟩
theorem ctys_apart : ∀ i, i < 5 → ∀ j, j < 5 → i ≠ j → ∀ e ∈ ctys i, ∀ e' ∈ ctys j, (e : Nat) ≠ e' := by decide
theorem CatRaw.excl (x : CatRaw h p L most knob l ns ts us lr lc) {i j c : Nat} (hi : comp p L i c) (hj : comp p L j c) : i = j := by
  have bnd : ∀ {i}, comp p L i c → i < 7 := fun {i} q => by
    match i, q with
    | 0, _ => omega
    | 1, _ => omega
    | 2, _ => omega
    | 3, _ => omega
    | 4, _ => omega
    | 5, _ => omega
    | 6, _ => omega
    | _ + 7, q => exact q.elim
  have b1 := bnd hi
  have b2 := bnd hj
  have low : ∀ {i j}, i < 5 → 5 ≤ j → j < 7 → comp p L i c → comp p L j c → False := fun {i j} a b b' q r => by
    obtain ⟨e, _, t⟩ := x.kind a q
    rcases (by omega : j = 5 ∨ j = 6) with rfl | rfl
    · exact x.roots.untyped t r
    · exact x.count.untyped t r
  rcases Nat.lt_or_ge i 5 with q1 | q1
  · rcases Nat.lt_or_ge j 5 with q2 | q2
    · rcases Nat.decEq i j with n | n
      · obtain ⟨e, he, t⟩ := x.kind q1 hi
        obtain ⟨e', he', t'⟩ := x.kind q2 hj
        exact absurd rfl (t.ne t' (ctys_apart i q1 j q2 n e he e' he'))
      · exact n
    · exact (low q1 q2 b2 hi hj).elim
  · rcases Nat.lt_or_ge j 5 with q2 | q2
    · exact (low q2 q1 b1 hj hi).elim
    · rcases (by omega : i = 5 ∨ i = 6) with rfl | rfl <;> rcases (by omega : j = 5 ∨ j = 6) with rfl | rfl
      · rfl
      · exact absurd (hi.symm.trans hj) x.ne
      · exact absurd (hj.symm.trans hi) x.ne
      · rfl
theorem CatRaw.keep {h' : H} (x : CatRaw h p L most knob l ns ts us lr lc) (k : Keeps h h') : CatRaw h' p L most knob l ns ts us lr lc := ⟨k _ _ x.cell, x.tab.keep k, x.tree.keep k, x.tok.keep k, x.use.keep k, x.roots.keep k, x.count.keep k, x.ne⟩
theorem CatRaw.but {h' : H} {E : Nat → Prop} (x : CatRaw h p L most knob l ns ts us lr lc) (k : But E h h') (f : ∀ c, E c → ¬ CFoot p L c) : CatRaw h' p L most knob l ns ts us lr lc :=
  ⟨k _ _ x.cell fun q => f _ q ⟨0, by omega, rfl⟩, x.tab.but k fun c q => ⟨fun r => f _ q ⟨1, by omega, .inl r⟩, fun r => f _ q ⟨1, by omega, .inr r⟩⟩, x.tree.but k fun c q r => f _ q ⟨2, by omega, r⟩, x.tok.but k fun a ha q => f _ q ⟨3, by omega, ⟨a, ha, rfl⟩⟩, x.use.but k fun a ha q => f _ q ⟨4, by omega, ⟨a, ha, rfl⟩⟩, x.roots.but k fun q => f _ q ⟨5, by omega, rfl⟩, x.count.but k fun q => f _ q ⟨6, by omega, rfl⟩, x.ne⟩
theorem CatRaw.has (x : CatRaw h p L most knob l ns ts us lr lc) {c : Nat} (f : CFoot p L c) : h c ≠ none := by
  obtain ⟨i, hi, hc⟩ := f
  rcases Nat.lt_or_ge i 5 with q | q
  · obtain ⟨e, _, t⟩ := x.kind q hc
    exact t.has
  · rcases (by omega : i = 5 ∨ i = 6) with rfl | rfl
    · obtain ⟨es, cl, e, _⟩ := x.roots.ex
      cases hc; rw [e]; exact fun q => by cases q
    · obtain ⟨es, cl, e, _⟩ := x.count.ex
      cases hc; rw [e]; exact fun q => by cases q
section
variable {h' : H} {E : Nat → Prop}
theorem CatRaw.setTab (x : CatRaw h p L most knob l ns ts us lr lc) (k : But E h h') (hE : ∀ c, E c → comp p L 1 c) {l' : List (S_api_Cap × Int)} (t : Tab h' L.tp L.ts most knob l') : CatRaw h' p L most knob l' ns ts us lr lc := by
  have no : ∀ {j c}, j ≠ 1 → comp p L j c → ¬ E c := fun hj hc e => hj (x.excl hc (hE _ e))
  exact ⟨k _ _ x.cell (no (j := 0) (by decide) rfl), t, x.tree.but k fun c q r => no (j := 2) (by decide) r q, x.tok.but k fun a ha => no (j := 3) (by decide) ⟨a, ha, rfl⟩, x.use.but k fun a ha => no (j := 4) (by decide) ⟨a, ha, rfl⟩, x.roots.but k (no (j := 5) (by decide) rfl), x.count.but k (no (j := 6) (by decide) rfl), x.ne⟩
def CL.withF (L : CL) (F : Nat → Prop) : CL := { L with F := F }
theorem CatRaw.setTree (x : CatRaw h p L most knob l ns ts us lr lc) (k : But E h h') (hE : ∀ c, E c → comp p L 2 c) {ns' : List Nd} {F' : Nat → Prop} (t : Tree h' L.kp L.ks F' ns') : CatRaw h' p (L.withF F') most knob l ns' ts us lr lc := by
  have no : ∀ {j c}, j ≠ 2 → comp p L j c → ¬ E c := fun hj hc e => hj (x.excl hc (hE _ e))
  exact ⟨k _ _ x.cell (no (j := 0) (by decide) rfl), x.tab.but k fun c q => ⟨fun r => no (j := 1) (by decide) (.inl r) q, fun r => no (j := 1) (by decide) (.inr r) q⟩, t, x.tok.but k fun a ha => no (j := 3) (by decide) ⟨a, ha, rfl⟩, x.use.but k fun a ha => no (j := 4) (by decide) ⟨a, ha, rfl⟩, x.roots.but k (no (j := 5) (by decide) rfl), x.count.but k (no (j := 6) (by decide) rfl), x.ne⟩
theorem CatRaw.setTok (x : CatRaw h p L most knob l ns ts us lr lc) (k : But E h h') (hE : ∀ c, E c → comp p L 3 c) {ts' : List S_api_Token} (t : Buf cTok 5 N_api_Token h' L.tk ts') : CatRaw h' p L most knob l ns ts' us lr lc := by
  have no : ∀ {j c}, j ≠ 3 → comp p L j c → ¬ E c := fun hj hc e => hj (x.excl hc (hE _ e))
  exact ⟨k _ _ x.cell (no (j := 0) (by decide) rfl), x.tab.but k fun c q => ⟨fun r => no (j := 1) (by decide) (.inl r) q, fun r => no (j := 1) (by decide) (.inr r) q⟩, x.tree.but k fun c q r => no (j := 2) (by decide) r q, t, x.use.but k fun a ha => no (j := 4) (by decide) ⟨a, ha, rfl⟩, x.roots.but k (no (j := 5) (by decide) rfl), x.count.but k (no (j := 6) (by decide) rfl), x.ne⟩
theorem CatRaw.setUse (x : CatRaw h p L most knob l ns ts us lr lc) (k : But E h h') (hE : ∀ c, E c → comp p L 4 c) {us' : List Bool} (t : Buf cBool 1 4 h' L.us us') : CatRaw h' p L most knob l ns ts us' lr lc := by
  have no : ∀ {j c}, j ≠ 4 → comp p L j c → ¬ E c := fun hj hc e => hj (x.excl hc (hE _ e))
  exact ⟨k _ _ x.cell (no (j := 0) (by decide) rfl), x.tab.but k fun c q => ⟨fun r => no (j := 1) (by decide) (.inl r) q, fun r => no (j := 1) (by decide) (.inr r) q⟩, x.tree.but k fun c q r => no (j := 2) (by decide) r q, x.tok.but k fun a ha => no (j := 3) (by decide) ⟨a, ha, rfl⟩, t, x.roots.but k (no (j := 5) (by decide) rfl), x.count.but k (no (j := 6) (by decide) rfl), x.ne⟩
theorem CatRaw.setRoots (x : CatRaw h p L most knob l ns ts us lr lc) (k : But E h h') (hE : ∀ c, E c → comp p L 5 c) {lr' : List (Int × Int)} (t : MapOf (Value.int .i64) (Value.int .i64) h' L.rb lr') : CatRaw h' p L most knob l ns ts us lr' lc := by
  have no : ∀ {j c}, j ≠ 5 → comp p L j c → ¬ E c := fun hj hc e => hj (x.excl hc (hE _ e))
  exact ⟨k _ _ x.cell (no (j := 0) (by decide) rfl), x.tab.but k fun c q => ⟨fun r => no (j := 1) (by decide) (.inl r) q, fun r => no (j := 1) (by decide) (.inr r) q⟩, x.tree.but k fun c q r => no (j := 2) (by decide) r q, x.tok.but k fun a ha => no (j := 3) (by decide) ⟨a, ha, rfl⟩, x.use.but k fun a ha => no (j := 4) (by decide) ⟨a, ha, rfl⟩, t, x.count.but k (no (j := 6) (by decide) rfl), x.ne⟩
theorem CatRaw.setCount (x : CatRaw h p L most knob l ns ts us lr lc) (k : But E h h') (hE : ∀ c, E c → comp p L 6 c) {lc' : List (Int × Int)} (t : MapOf (Value.int .i64) (Value.int .i64) h' L.cb lc') : CatRaw h' p L most knob l ns ts us lr lc' := by
  have no : ∀ {j c}, j ≠ 6 → comp p L j c → ¬ E c := fun hj hc e => hj (x.excl hc (hE _ e))
  exact ⟨k _ _ x.cell (no (j := 0) (by decide) rfl), x.tab.but k fun c q => ⟨fun r => no (j := 1) (by decide) (.inl r) q, fun r => no (j := 1) (by decide) (.inr r) q⟩, x.tree.but k fun c q r => no (j := 2) (by decide) r q, x.tok.but k fun a ha => no (j := 3) (by decide) ⟨a, ha, rfl⟩, x.use.but k fun a ha => no (j := 4) (by decide) ⟨a, ha, rfl⟩, x.roots.but k (no (j := 5) (by decide) rfl), t, x.ne⟩
end
theorem KChg.part {h' : H} {E : Nat → Prop} {i : Nat} (k : But E h h') (hi : i < 7) (hE : ∀ c, E c → comp p L i c) (d : ∀ c, h' c = none → h c = none) : KChg (CFoot p L) (CFoot p L) h h' := ⟨k.mono fun c e => ⟨i, hi, hE c e⟩, fun _ f => .inl f, d⟩
theorem comp_withF {F' : Nat → Prop} {i c : Nat} (hi : i ≠ 2) : comp p (L.withF F') i c ↔ comp p L i c := by
  match i, hi with
  | 0, _ => exact Iff.rfl
  | 1, _ => exact Iff.rfl
  | 3, _ => exact Iff.rfl
  | 4, _ => exact Iff.rfl
  | 5, _ => exact Iff.rfl
  | 6, _ => exact Iff.rfl
  | _ + 7, _ => exact Iff.rfl
theorem KChg.tree {h' : H} {F' : Nat → Prop} (k : KChg L.F F' h h') : KChg (CFoot p L) (CFoot p (L.withF F')) h h' := by
  refine ⟨k.but.mono fun c e => ⟨2, by omega, e⟩, fun c f => ?_, k.dom⟩
  obtain ⟨i, hi, hc⟩ := f
  by_cases q : i = 2
  · subst q
    exact (k.foot c hc).imp (fun r => ⟨2, by omega, r⟩) id
  · exact .inl ⟨i, hi, (comp_withF q).1 hc⟩
theorem CatRaw.f (x : CatRaw h p L most knob l ns ts us lr lc) {n : Nat} {l1 l2 l3 : List Value} (e : S_catalogue_Catalogue.cells L.obj = l1 ++ l2 ++ l3) (hn : l1.length = n) : At h ((⟨p, 0, none⟩ : Addr).add n) l2 := by
  rw [pt_add]
  exact At.own (t := N_catalogue_Catalogue) (by rw [← e]; exact x.cell) hn
theorem CatRaw.fTab (x : CatRaw h p L most knob l ns ts us lr lc) : At h (((⟨p, 0, none⟩ : Addr).add 0).add 0) (cPtr (some ⟨L.tp, 0, none⟩)) := by
  rw [pt_add]; exact x.f (l1 := []) (l3 := (S_catalogue_Catalogue.cells L.obj).drop 1) rfl rfl
theorem CatRaw.fTree (x : CatRaw h p L most knob l ns ts us lr lc) : At h (((⟨p, 0, none⟩ : Addr).add 0).add 1) (cPtr (some ⟨L.kp, 0, none⟩)) := by
  rw [pt_add]; exact x.f (l1 := (S_catalogue_Catalogue.cells L.obj).take 1) (l3 := (S_catalogue_Catalogue.cells L.obj).drop 2) rfl rfl
theorem CatRaw.fTok (x : CatRaw h p L most knob l ns ts us lr lc) : At h ((⟨p, 0, none⟩ : Addr).add 2) (cSl L.tk) := x.f (l1 := (S_catalogue_Catalogue.cells L.obj).take 2) (l3 := (S_catalogue_Catalogue.cells L.obj).drop 3) rfl rfl
theorem CatRaw.fUse (x : CatRaw h p L most knob l ns ts us lr lc) : At h ((⟨p, 0, none⟩ : Addr).add 3) (cSl L.us) := x.f (l1 := (S_catalogue_Catalogue.cells L.obj).take 3) (l3 := (S_catalogue_Catalogue.cells L.obj).drop 4) rfl rfl
theorem CatRaw.fRoots (x : CatRaw h p L most knob l ns ts us lr lc) : At h ((⟨p, 0, none⟩ : Addr).add 4) (cMap (some L.rb)) := x.f (l1 := (S_catalogue_Catalogue.cells L.obj).take 4) (l3 := (S_catalogue_Catalogue.cells L.obj).drop 5) rfl rfl
theorem CatRaw.fCount (x : CatRaw h p L most knob l ns ts us lr lc) : At h ((⟨p, 0, none⟩ : Addr).add 5) (cMap (some L.cb)) := x.f (l1 := (S_catalogue_Catalogue.cells L.obj).take 5) (l3 := []) rfl rfl
def freeU (us : List Bool) : Option Nat := us.findIdx? fun b => !b
def freeI (us : List Bool) : Int := match freeU us with
  | some n => n
  | none => -1
theorem t_free (x : CatRaw h p L most knob l ns ts us lr lc) (hl : us.length ≤ 2 ^ 40) {K : Int → H → Prop} (y : K (freeI us) h) : m_catalogue_Catalogue_free (some ⟨p, 0, none⟩) K h := by
  unfold m_catalogue_Catalogue_free
  refine w_deref (w_load x.fUse ?_)
  have hlen := x.use.len
  refine w_for us.length (fun i (z : Int) h' => z = (i : Int) ∧ h = h' ∧ ∀ j, j < i → us[j]? = some true) ?_ ⟨rfl, rfl, fun j hj => absurd hj (Nat.not_lt_zero _)⟩
  rintro rec i z h' hi ⟨rfl, rfl, hall⟩ more
  refine w_if' (fun c => ?_) fun c => ?_
  · have c : (i : Int) < (L.us.len : Int) := c
    have hil : i < us.length := by omega
    refine w_get cb_len x.use.arr (List.getElem?_eq_getElem hil) rfl (v' := us[i]) rfl (w_if (fun e => ?_) fun e => ?_)
    · have : freeU us = some i := by
        unfold freeU
        rw [List.findIdx?_eq_some_iff_getElem]
        refine ⟨hil, e, fun j hj => ?_⟩
        have := hall j hj
        rw [List.getElem?_eq_getElem (by omega)] at this
        simp only [Option.some.injEq] at this
        simp [this]
      unfold freeI at y
      rw [this] at y
      exact y
    · refine more _ _ hil ⟨ia1 i (by omega), rfl, fun j hj => ?_⟩
      by_cases q : j = i
      · subst q; rw [List.getElem?_eq_getElem hil]; simpa using e
      · exact hall j (by omega)
  · have c : ¬ (i : Int) < (L.us.len : Int) := c
    have : freeU us = none := by
      unfold freeU
      rw [List.findIdx?_eq_none_iff]
      intro b hb
      obtain ⟨j, hj⟩ := List.mem_iff_getElem?.1 hb
      have := hall j (by have := lt_of_get hj; omega)
      rw [hj] at this
      cases this; rfl
    unfold freeI at y
    rw [this] at y
    exact y
theorem t_Cput (x : CatRaw h p L most knob l ns ts us lr lc) {n : Nat} {t : S_api_Token} (no : alook l t.Cap = none) (room : (l.length : Int) < most) (hn : n < ts.length) (hu : n < us.length) (hc : (alook lc t.Cap.Obj).getD 0 < 2 ^ 40 ∧ 0 ≤ (alook lc t.Cap.Obj).getD 0) {K : Unit → H → Prop}
    (y : ∀ h', CatRaw h' p L most knob (l ++ [(t.Cap, (n : Int))]) ns (ts.set n t) (us.set n true) lr (aset lc t.Cap.Obj ((alook lc t.Cap.Obj).getD 0 + 1)) → KChg (CFoot p L) (CFoot p L) h h' → K () h') : m_catalogue_Catalogue_put (some ⟨p, 0, none⟩) (n : Int) t K h := by
  unfold m_catalogue_Catalogue_put
  refine w_deref (w_load x.fTab (t_TPut x.tab (fun q => absurd no q) (fun _ q => by omega) fun _ _ h1 t1 c1 => ?_))
  have x1 := x.setTab c1.but (fun _ e => e) t1
  have k1 : KChg (CFoot p L) (CFoot p L) h h1 := .part (i := 1) c1.but (by omega) (fun _ e => e) c1.dom
  refine w_deref (w_deref (w_load x1.fTok (w_load x1.fUse ?_)))
  refine w_put tok_len x1.tok hn rfl t rfl fun h2 b2 e2 d2 => ?_
  have x2 := x1.setTok e2 (fun _ e => e) b2
  have k2 := k1.trans (.part (i := 3) e2 (by omega) (fun _ e => e) d2)
  refine w_put cb_len x2.use hu rfl true rfl fun h3 b3 e3 d3 => ?_
  have x3 := x2.setUse e3 (fun _ e => e) b3
  have k3 := k2.trans (.part (i := 4) e3 (by omega) (fun _ e => e) d3)
  refine w_deref (w_load x3.fCount (w_lookup keyNi x3.count ?_))
  rw [iAdd_eq (by omega) (by omega)]
  refine w_mapSet keyNi x3.count rfl rfl fun h4 m4 e4 d4 => ?_
  exact y h4 (x3.setCount e4 (fun _ e => e) m4) (k3.trans (.part (i := 6) e4 (by omega) (fun _ e => e) d4))
end
structure CRel (es : List En) (l : List (S_api_Cap × Int)) (ts : List S_api_Token) (lr lc : List (Int × Int)) : Prop where
  tl : ts.length = es.length
  tok : ∀ i t ks, Has es i t ks → ts[i]? = some t
  caps : l.Perm (capsG 0 es)
  oc : Once lc
  count : ∀ o, alook lc o = if cnt es o = 0 then none else some (cnt es o : Int)
  or : Once lr
  roots : ∀ o r, alook lr o = some r ↔ ∃ (i : Nat) (t : S_api_Token) (ks : List Int), r = i ∧ Has es i t ks ∧ t.Cap.Obj = o ∧ t.Parent = -1
structure Cat (h : H) (p : Nat) (knob : Int) (G : Nat → Prop) (es : List En) : Prop where
  ex : ∃ L l ts lr lc, CatRaw h p L es.length knob l (nds es) ts (es.map Option.isSome) lr lc ∧ (∀ c, G c ↔ CFoot p L c) ∧ CRel es l ts lr lc
  wf : CWF es
section
variable {h : H} {p : Nat} {knob : Int} {G : Nat → Prop} {es : List En}
theorem Cat.keep {h' : H} (x : Cat h p knob G es) (k : Keeps h h') : Cat h' p knob G es := by
  obtain ⟨L, l, ts, lr, lc, a, b, c⟩ := x.ex
  exact ⟨⟨L, l, ts, lr, lc, a.keep k, b, c⟩, x.wf⟩
theorem Cat.but {h' : H} {E : Nat → Prop} (x : Cat h p knob G es) (k : But E h h') (f : ∀ c, E c → ¬ G c) : Cat h' p knob G es := by
  obtain ⟨L, l, ts, lr, lc, a, b, c⟩ := x.ex
  exact ⟨⟨L, l, ts, lr, lc, a.but k fun c e q => f c e ((b c).2 q), b, c⟩, x.wf⟩
theorem Cat.has (x : Cat h p knob G es) {c : Nat} (f : G c) : h c ≠ none := by
  obtain ⟨L, l, ts, lr, lc, a, b, _⟩ := x.ex
  exact a.has ((b c).1 f)
end
def freeE (es : List En) : Option Nat := freeU (es.map Option.isSome)
theorem freeE_some {es : List En} {n : Nat} (h : freeE es = some n) : es[n]? = some none := by
  unfold freeE freeU at h
  rw [List.findIdx?_eq_some_iff_getElem] at h
  obtain ⟨hn, e, _⟩ := h
  rw [List.length_map] at hn
  rw [List.getElem?_eq_getElem hn]
  rw [List.getElem_map] at e
  cases q : es[n] with
  | none => rfl
  | some v => rw [q] at e; cases e
theorem freeI_eq (es : List En) : freeI (es.map Option.isSome) = match freeE es with
  | some n => (n : Int)
  | none => -1 := rfl
def isCap (c : S_api_Cap) : En → Bool
  | some (t, _) => decide (t.Cap = c)
  | none => false
def findE (es : List En) (c : S_api_Cap) : Option Nat := es.findIdx? (isCap c)
theorem findE_has {es : List En} {c : S_api_Cap} {n : Nat} (h : findE es c = some n) : ∃ (t : S_api_Token) (ks : List Int), Has es n t ks ∧ t.Cap = c := by
  unfold findE at h
  rw [List.findIdx?_eq_some_iff_getElem] at h
  obtain ⟨hn, e, _⟩ := h
  cases q : es[n] with
  | none => rw [q] at e; cases e
  | some v =>
    obtain ⟨t, ks⟩ := v
    rw [q] at e
    exact ⟨t, ks, by unfold Has; rw [List.getElem?_eq_getElem hn, q], of_decide_eq_true e⟩
theorem findE_none {es : List En} {c : S_api_Cap} (h : findE es c = none) {i t ks} (x : Has es i t ks) : t.Cap ≠ c := fun e => by
  unfold findE at h
  rw [List.findIdx?_eq_none_iff] at h
  have := h _ (List.mem_of_getElem? x)
  simp [isCap, e] at this
theorem capsG_le : ∀ (es : List En) (k : Nat), (capsG k es).length ≤ es.length := by
  intro es
  induction es with
  | nil => exact fun _ => Nat.le_refl _
  | cons e r ih =>
    intro k
    have := ih (k + 1)
    cases e with
    | none => rw [capsG]; simp only [List.length_cons]; omega
    | some p => obtain ⟨u, us⟩ := p; rw [capsG]; simp only [List.length_cons]; omega
theorem CRel.look {es : List En} {l ts lr lc} (x : CRel es l ts lr lc) (_ : CWF es) (o : Once l) (c : S_api_Cap) : alook l c = (findE es c).map fun n : Nat => (n : Int) := by
  cases h : findE es c with
  | some n =>
    obtain ⟨t, ks, a, b⟩ := findE_has h
    exact o.look (x.caps.symm.subset (capsG_mem.2 ⟨n, t, ks, a, b, by simp⟩))
  | none =>
    cases e : alook l c with
    | none => rfl
    | some v =>
      obtain ⟨i, t, ks, a, b, _⟩ := capsG_mem.1 (x.caps.subset (alook_mem e))
      exact absurd b (findE_none h a)
theorem cnt_cons {es es' : List En} {c : S_api_Cap} {v : Int} (h : (capsG 0 es').Perm ((c, v) :: capsG 0 es)) (o : Int) : cnt es' o = cnt es o + if c.Obj = o then 1 else 0 := by
  unfold cnt
  rw [h.countP_eq, List.countP_cons]
  simp
theorem capsG_child {es : List En} {q n : Nat} {t : S_api_Token} {u us} (hq : Has es q u us) (hn : es[n]? = some none) : (capsG 0 (childE es q n t)).Perm ((t.Cap, (n : Int)) :: capsG 0 es) := by
  have := capsG_new (t := t) (ks := []) (k := 0) hn
  rw [Nat.zero_add] at this
  refine .trans (.of_eq (capsG_congr ?_)) this
  apply List.ext_getElem?
  intro i
  have hne : n ≠ q := fun e => by subst e; unfold Has at hq; rw [hn] at hq; cases hq
  unfold childE
  rw [hq]
  rw [List.getElem?_map, List.getElem?_map, List.getElem?_set]
  by_cases e : q = i
  · subst e
    rw [if_pos rfl, List.length_set, if_pos hq.lt, List.getElem?_set, if_neg hne, hq]; rfl
  · rw [if_neg e]
theorem isSome_root {es : List En} {n : Nat} {t : S_api_Token} : (rootE es n t).map Option.isSome = (es.map Option.isSome).set n true := by
  unfold rootE; rw [List.map_set]; rfl
theorem isSome_child {es : List En} {q n : Nat} {t : S_api_Token} {u us} (hq : Has es q u us) (hn : es[n]? = some none) : (childE es q n t).map Option.isSome = (es.map Option.isSome).set n true := by
  unfold childE
  rw [hq]
  have hne : n ≠ q := fun e => by subst e; unfold Has at hq; rw [hn] at hq; cases hq
  apply List.ext_getElem?
  intro i
  rw [List.map_set, List.map_set, List.getElem?_set]
  by_cases e : q = i
  · subst e
    rw [if_pos rfl, List.length_set, List.length_map, if_pos hq.lt, List.getElem?_set, if_neg hne, List.getElem?_map, hq]; rfl
  · rw [if_neg e]; rfl
def tok0 : S_api_Token := ⟨⟨0, ⟨0, 0⟩⟩, 0, 0⟩
def atE (es : List En) (i : Int) : En := if 0 ≤ i then (es[i.toNat]?).getD none else none
theorem atE_nat (es : List En) (i : Nat) : atE es (i : Int) = (es[i]?).getD none := by
  unfold atE; rw [if_pos (by omega), Int.toNat_natCast]
theorem atE_has {es : List En} {i : Int} {t ks} : atE es i = some (t, ks) ↔ ∃ n : Nat, i = n ∧ Has es n t ks := by
  constructor
  · intro h
    unfold atE at h
    split at h
    · rename_i h0
      refine ⟨i.toNat, by omega, ?_⟩
      unfold Has
      cases e : es[i.toNat]? with
      | none => rw [e] at h; cases h
      | some o => rw [e] at h; exact congrArg some h
    · cases h
  · rintro ⟨n, rfl, h⟩
    rw [atE_nat, h]; rfl
def atOut (es : List En) (i : Int) : S_api_Token × Bool := match atE es i with
  | some (t, _) => (t, true)
  | none => (tok0, false)
def rootOut (es : List En) (c : S_api_Cap) (r : Int) : (Int × Int) × List En :=
  if 1 ≤ r ∧ r ≤ 31 then
    if 0 < cnt es c.Obj then ((0, 19), es) else
    match freeE es with
    | none => ((0, 10), es)
    | some n => (((n : Int), 0), rootE es n ⟨c, r, -1⟩)
  else ((0, 4), es)
def childOut (es : List En) (q : Int) (c : S_api_Cap) (r : Int) : (Int × Int) × List En := match atE es q with
  | none => ((0, 20), es)
  | some (t, _) =>
    if t.Cap.Obj = c.Obj then
      if partOf r t.Rights = true then
        if (findE es c).isSome then ((0, 19), es) else
        match freeE es with
        | none => ((0, 10), es)
        | some n => (((n : Int), 0), childE es q.toNat n ⟨c, r, q⟩)
      else ((0, 4), es)
    else ((0, 3), es)
theorem CWF.rootOut {es : List En} (w : CWF es) (c : S_api_Cap) (r : Int) : CWF (rootOut es c r).2 := by
  unfold K.rootOut
  split
  · rename_i hr
    split
    · exact w
    · rename_i h0
      split
      · exact w
      · rename_i n hn
        exact w.root (freeE_some hn) hr (by omega)
  · exact w
theorem CWF.childOut {es : List En} (w : CWF es) (q : Int) (c : S_api_Cap) (r : Int) : CWF (childOut es q c r).2 := by
  unfold K.childOut
  split
  · exact w
  · rename_i t ks hq
    obtain ⟨q, rfl, hq'⟩ := atE_has.1 hq
    split
    · rename_i ho
      split
      · rename_i hp
        split
        · exact w
        · rename_i hf
          split
          · exact w
          · rename_i n hn
            rw [Int.toNat_natCast]
            refine w.child hq' (freeE_some hn) ho hp (partOf_r hp) fun i t ks a => findE_none ?_ a
            cases e : findE es c with
            | none => rfl
            | some v => rw [e] at hf; exact absurd rfl hf
      · exact w
    · exact w
section
variable {h : H} {p : Nat} {knob : Int} {G : Nat → Prop} {es : List En}
theorem t_CAt (x : Cat h p knob G es) {i : Int} {K : S_api_Token × Bool → H → Prop} (y : K (atOut es i) h) : m_catalogue_Catalogue_At (some ⟨p, 0, none⟩) i K h := by
  obtain ⟨L, l, ts, lr, lc, a, b, c⟩ := x.ex
  unfold m_catalogue_Catalogue_At
  have hl := a.use.len
  rw [List.length_map] at hl
  have hw := x.wf.len
  refine w_joinV (decide (i < 0 ∨ (es.length : Int) ≤ i)) (fun j hj => ?_) ?_
  · refine w_if' (fun q => ?_) fun q => w_deref (w_load a.fUse ?_)
    · rw [decide_eq_true (.inl q)] at hj; exact hj
    · have e : decide ((L.us.len : Int) ≤ i) = decide (i < 0 ∨ (es.length : Int) ≤ i) := by rw [decide_eq_decide, hl]; constructor <;> omega
      rw [e]; exact hj
  · by_cases q : i < 0 ∨ (es.length : Int) ≤ i
    · rw [decide_eq_true q]
      refine w_join (w_ifT rfl (w_ifT rfl ?_))
      have e : atE es i = none := by
        unfold atE
        split
        · rw [List.getElem?_eq_none (by omega)]; rfl
        · rfl
      unfold atOut at y
      rw [e] at y
      exact y
    · rw [decide_eq_false q]
      obtain ⟨n, rfl⟩ : ∃ n : Nat, i = n := ⟨i.toNat, by omega⟩
      have hn : n < es.length := by omega
      have hn' : n < (es.map Option.isSome).length := by rw [List.length_map]; exact hn
      have hu : (es.map Option.isSome)[n]? = some (es[n]).isSome := by rw [List.getElem?_map, List.getElem?_eq_getElem hn]; rfl
      refine w_join (w_ifF rfl (w_deref (w_load a.fUse (w_get cb_len a.use.arr hu rfl (v' := (es[n]).isSome) rfl ?_))))
      unfold atOut at y
      rw [atE_nat, List.getElem?_eq_getElem hn] at y
      cases e : es[n] with
      | none =>
        rw [e] at y
        exact w_ifT rfl y
      | some v =>
        obtain ⟨t, ks⟩ := v
        rw [e] at y
        have ht : Has es n t ks := by unfold Has; rw [List.getElem?_eq_getElem hn, e]
        exact w_ifF rfl (w_deref (w_load a.fTok (w_get tok_len a.tok.arr (c.tok n t ks ht) rfl (v' := t) rfl y)))
theorem t_CFind (x : Cat h p knob G es) {c : S_api_Cap} {K : Int × Bool → H → Prop} (y : K (((findE es c).map fun n : Nat => (n : Int)).getD 0, (findE es c).isSome) h) : m_catalogue_Catalogue_Find (some ⟨p, 0, none⟩) c K h := by
  obtain ⟨L, l, ts, lr, lc, a, b, r⟩ := x.ex
  unfold m_catalogue_Catalogue_Find
  refine w_deref (w_load a.fTab (t_TGet a.tab ?_))
  rw [r.look x.wf a.tab.once]
  dsimp only
  rw [Option.isSome_map]
  exact y
theorem t_CIn (x : Cat h p knob G es) {o : Int} {K : Int → H → Prop} (y : K (cnt es o : Nat) h) : m_catalogue_Catalogue_In (some ⟨p, 0, none⟩) o K h := by
  obtain ⟨L, l, ts, lr, lc, a, b, r⟩ := x.ex
  unfold m_catalogue_Catalogue_In
  refine w_deref (w_load a.fCount (w_lookup keyNi a.count ?_))
  have e : (alook lc o).getD 0 = (cnt es o : Int) := by
    rw [r.count]
    split
    · rename_i h0; rw [h0]; rfl
    · rfl
  rw [e]
  exact y
theorem CRel.cnt0 {l ts lr lc} (r : CRel es l ts lr lc) (o : Int) : (alook lc o).getD 0 = (cnt es o : Int) := by
  rw [r.count]
  split
  · rename_i h0; rw [h0]; rfl
  · rfl
theorem t_CRoot (x : Cat h p knob G es) {c : S_api_Cap} {r : Int} {K : Int × Int → H → Prop} (y : ∀ G' h', Cat h' p knob G' (rootOut es c r).2 → KChg G G' h h' → K (rootOut es c r).1 h') : m_catalogue_Catalogue_Root (some ⟨p, 0, none⟩) c r K h := by
  have wf := x.wf.rootOut c r
  obtain ⟨L, l, ts, lr, lc, a, b, rl⟩ := x.ex
  have hw := x.wf.len
  unfold rootOut at y wf
  unfold m_catalogue_Catalogue_Root
  refine t_free a (by rw [List.length_map]; omega) (w_Valid ?_)
  by_cases hr : 1 ≤ r ∧ r ≤ 31
  · rw [if_pos hr] at y wf
    rw [decide_eq_true hr]
    refine w_ifF rfl (w_deref (w_load a.fCount (w_lookup keyNi a.count ?_)))
    rw [rl.cnt0]
    refine w_if' (fun h0 => ?_) fun h0 => ?_
    · have h0 : 0 < (cnt es c.Obj : Int) := h0
      rw [if_pos (by omega)] at y
      exact y _ _ x (.refl _ _)
    · have h0 : ¬ 0 < (cnt es c.Obj : Int) := h0
      rw [if_neg (by omega)] at y wf
      rw [freeI_eq]
      cases hf : freeE es with
      | none =>
        rw [hf] at y
        exact w_ifT rfl (y _ _ x (.refl _ _))
      | some n =>
        rw [hf] at y wf
        dsimp only at y wf
        have hn := freeE_some hf
        have hlt := lt_of_get hn
        dsimp only
        refine w_ifF (decide_eq_false (by simp)) (w_deref (w_load a.fTree ?_))
        refine t_KRoot a.tree (by rw [nds_len]; exact hlt) ?_ fun h1 F1 t1 c1 => ?_
        · cases q : hasN (nds es) (n : Int) with
          | false => rfl
          | true =>
            obtain ⟨i, t, ks, e, hi⟩ := hasN_nds.1 q
            obtain rfl : n = i := by omega
            unfold Has at hi; rw [hn] at hi; cases hi
        have a1 := a.setTree c1.but (fun _ e => e) t1
        have k1 : KChg (CFoot p L) (CFoot p (L.withF F1)) h h1 := .tree c1
        have no : ∀ {i t ks}, Has es i t ks → t.Cap.Obj ≠ c.Obj := fun h e => by
          have := cnt_pos.2 ⟨_, _, _, h, e⟩
          omega
        have hfn : findE es c = none := by
          cases q : findE es c with
          | none => rfl
          | some v => obtain ⟨t, ks, z, e⟩ := findE_has q; exact absurd (by rw [e]) (no z)
        have hlook : alook l c = none := by rw [rl.look x.wf a.tab.once, hfn]; rfl
        have hnew := capsG_new (t := ⟨c, r, -1⟩) (ks := []) (k := 0) hn
        rw [Nat.zero_add] at hnew
        have hlen := hnew.length_eq
        have hle := capsG_le (es.set n (some (⟨c, r, -1⟩, []))) 0
        rw [List.length_set] at hle
        rw [List.length_cons] at hlen
        have hll := rl.caps.length_eq
        have e0 := rl.cnt0 c.Obj
        have hz : cnt es c.Obj = 0 := by omega
        refine t_Cput a1 (t := ⟨c, r, -1⟩) hlook (by omega) (by rw [rl.tl]; exact hlt) (by rw [List.length_map]; exact hlt) (by dsimp only; rw [e0, hz]; omega) fun h2 a2 k2 => ?_
        refine w_deref (w_load a2.fRoots (w_mapSet keyNi a2.roots rfl rfl fun h3 m3 e3 d3 => ?_))
        have a3 := a2.setRoots e3 (fun _ e => e) m3
        have k3 := (k1.trans k2).trans (KChg.part (i := 5) (p := p) (L := L.withF F1) e3 (by omega) (fun _ e => e) d3)
        have e1 : (rootE es n ⟨c, r, -1⟩).length = es.length := by unfold rootE; rw [List.length_set]
        have a4 := a3
        rw [← e1, ← nds_root (c := c) (r := r), ← isSome_root (t := ⟨c, r, -1⟩)] at a4
        refine y (CFoot p (L.withF F1)) h3 ⟨⟨L.withF F1, _, _, _, _, a4, fun _ => Iff.rfl, ?_⟩, wf⟩ ⟨k3.but.mono fun c f => (b c).2 f, fun c f => (k3.foot c f).imp (b c).2 id, k3.dom⟩
        · have H := fun {i t ks} => has_set (es := es) (n := n) hlt (e := some (⟨c, r, -1⟩, [])) (i := i) (t := t) (ks := ks)
          have neN : ∀ {i t ks}, Has es i t ks → i ≠ n := fun h e => by subst e; unfold Has at h; rw [hn] at h; cases h
          refine ⟨by unfold rootE; rw [List.length_set, List.length_set]; exact rl.tl, fun i t ks hi => ?_, ?_, rl.oc.set _ _, fun o => ?_, rl.or.set _ _, fun o v => ?_⟩
          · rw [List.getElem?_set]
            rcases H.1 hi with ⟨rfl, q⟩ | ⟨q, hi⟩
            · cases q; rw [if_pos rfl, if_pos (by rw [rl.tl]; exact hlt)]
            · rw [if_neg (fun z => q z.symm)]; exact rl.tok i t ks hi
          · exact (List.perm_append_comm (l₂ := [(c, (n : Int))])).trans ((rl.caps.cons _).trans hnew.symm)
          · rw [alook_set, cnt_cons (es' := rootE es n ⟨c, r, -1⟩) hnew]
            dsimp only
            rw [e0, rl.count o]
            by_cases q : o = c.Obj
            · subst q; rw [if_pos rfl, if_pos rfl, hz]; rfl
            · have q' : ¬ c.Obj = o := fun z => q z.symm
              simp only [if_neg q, if_neg q', Nat.add_zero]
          · rw [alook_set]
            by_cases q : o = c.Obj
            · subst q
              rw [if_pos rfl]
              constructor
              · intro e; cases e; exact ⟨n, _, _, rfl, H.2 (.inl ⟨rfl, rfl⟩), rfl, rfl⟩
              · rintro ⟨i, t, ks, rfl, hi, e, _⟩
                rcases H.1 hi with ⟨rfl, _⟩ | ⟨_, hi⟩
                · rfl
                · exact absurd e (no hi)
            · rw [if_neg q, rl.roots]
              constructor
              · rintro ⟨i, t, ks, rfl, hi, e⟩; exact ⟨i, t, ks, rfl, H.2 (.inr ⟨neN hi, hi⟩), e⟩
              · rintro ⟨i, t, ks, rfl, hi, e⟩
                rcases H.1 hi with ⟨_, z⟩ | ⟨_, hi⟩
                · cases z; exact absurd e.1.symm q
                · exact ⟨i, t, ks, rfl, hi, e⟩
  · rw [if_neg hr] at y
    rw [decide_eq_false hr]
    exact w_ifT rfl (y _ _ x (.refl _ _))
theorem t_CChild (x : Cat h p knob G es) {qi : Int} {c : S_api_Cap} {r : Int} {K : Int × Int → H → Prop} (y : ∀ G' h', Cat h' p knob G' (childOut es qi c r).2 → KChg G G' h h' → K (childOut es qi c r).1 h') : m_catalogue_Catalogue_Child (some ⟨p, 0, none⟩) qi c r K h := by
  have wf := x.wf.childOut qi c r
  have hw := x.wf.len
  unfold childOut at y wf
  unfold m_catalogue_Catalogue_Child
  refine t_CAt x ?_
  unfold atOut
  cases hqi : atE es qi with
  | none =>
    rw [hqi] at y
    exact w_ifT rfl (y _ _ x (.refl _ _))
  | some v =>
    obtain ⟨u, us⟩ := v
    rw [hqi] at y wf
    obtain ⟨q, rfl, hq⟩ := atE_has.1 hqi
    simp only at y wf
    obtain ⟨L, l, ts, lr, lc, a, b, rl⟩ := x.ex
    refine w_ifF rfl (w_deref (w_load a.fTab (t_TGet a.tab ?_)))
    rw [rl.look x.wf a.tab.once]
    refine t_free a (by rw [List.length_map]; omega) ?_
    by_cases ho : u.Cap.Obj = c.Obj
    · rw [if_pos ho] at y wf
      refine w_ifF (by simp [ho]) (w_Part ?_)
      cases hp : partOf r u.Rights with
      | false =>
        rw [if_neg (by rw [hp]; decide)] at y
        exact w_ifT rfl (y _ _ x (.refl _ _))
      | true =>
        rw [if_pos hp] at y wf
        refine w_ifF rfl ?_
        cases hf : findE es c with
        | some v =>
          rw [hf] at y
          exact w_ifT rfl (y _ _ x (.refl _ _))
        | none =>
          rw [hf] at y wf
          simp only [Option.isSome_none, Bool.false_eq_true, if_false] at y wf
          refine w_ifF rfl ?_
          rw [freeI_eq]
          cases hfr : freeE es with
          | none =>
            rw [hfr] at y
            exact w_ifT rfl (y _ _ x (.refl _ _))
          | some n =>
            rw [hfr] at y wf
            dsimp only at y wf
            dsimp only
            have hn := freeE_some hfr
            have hlt := lt_of_get hn
            refine w_ifF (decide_eq_false (by simp)) (w_deref (w_load a.fTree ?_))
            have hnN : hasN (nds es) (n : Int) = false := by
              cases z : hasN (nds es) (n : Int) with
              | false => rfl
              | true =>
                obtain ⟨i, t, ks, e, hi⟩ := hasN_nds.1 z
                obtain rfl : n = i := by omega
                unfold Has at hi; rw [hn] at hi; cases hi
            refine t_KChild a.tree (by rw [nds_len]; exact hlt) hnN (hasN_nds.2 ⟨q, u, us, rfl, hq⟩) (fun d hd => ?_) fun h1 F1 t1 c1 => ?_
            · rw [nds_get hq] at hd
              cases hd
              have := x.wf.kids_le hq
              show us.length ≤ 256
              omega
            have a1 := a.setTree c1.but (fun _ e => e) t1
            have k1 : KChg (CFoot p L) (CFoot p (L.withF F1)) h h1 := .tree c1
            have hlook : alook l c = none := by rw [rl.look x.wf a.tab.once, hf]; rfl
            have hnew := capsG_child (t := ⟨c, r, (q : Int)⟩) hq hn
            have hlen := hnew.length_eq
            have e1 : (childE es q n ⟨c, r, (q : Int)⟩).length = es.length := by unfold childE; rw [hq]; simp only [List.length_set]
            have hle := capsG_le (childE es q n ⟨c, r, (q : Int)⟩) 0
            rw [e1] at hle
            rw [List.length_cons] at hlen
            have hll := rl.caps.length_eq
            have e0 := rl.cnt0 c.Obj
            have hcl := cnt_le es c.Obj
            refine t_Cput a1 (t := ⟨c, r, (q : Int)⟩) hlook (by omega) (by rw [rl.tl]; exact hlt) (by rw [List.length_map]; exact hlt) (by dsimp only; rw [e0]; omega) fun h2 a2 k2 => ?_
            have k3 := k1.trans k2
            rw [Int.toNat_natCast] at y wf
            have a4 := a2
            rw [← e1, ← nds_child (t := ⟨c, r, (q : Int)⟩) rfl hq, ← isSome_child (t := ⟨c, r, (q : Int)⟩) hq hn] at a4
            refine y (CFoot p (L.withF F1)) h2 ⟨⟨L.withF F1, _, _, _, _, a4, fun _ => Iff.rfl, ?_⟩, wf⟩ ⟨k3.but.mono fun c f => (b c).2 f, fun c f => (k3.foot c f).imp (b c).2 id, k3.dom⟩
            · have H := fun {i v vs} => has_child (t := ⟨c, r, (q : Int)⟩) (i := i) (v := v) (vs := vs) hq hn
              have neN : ∀ {i t ks}, Has es i t ks → i ≠ n := fun h e => by subst e; unfold Has at h; rw [hn] at h; cases h
              refine ⟨by rw [e1, List.length_set]; exact rl.tl, fun i t ks hi => ?_, ?_, rl.oc.set _ _, fun o => ?_, rl.or, fun o v => ?_⟩
              · rw [List.getElem?_set]
                rcases H.1 hi with ⟨rfl, rfl, _⟩ | ⟨rfl, rfl, _⟩ | ⟨z, _, hi⟩
                · rw [if_pos rfl, if_pos (by rw [rl.tl]; exact hlt)]
                · rw [if_neg (fun z => neN hq z.symm)]; exact rl.tok _ _ _ hq
                · rw [if_neg (fun w => z w.symm)]; exact rl.tok i t ks hi
              · exact (List.perm_append_comm (l₂ := [(c, (n : Int))])).trans ((rl.caps.cons _).trans hnew.symm)
              · rw [alook_set, cnt_cons hnew]
                dsimp only
                rw [e0, rl.count o]
                by_cases z : o = c.Obj
                · subst z; rw [if_pos rfl, if_pos rfl, if_neg (by omega)]; rfl
                · have z' : ¬ c.Obj = o := fun w => z w.symm
                  simp only [if_neg z, if_neg z', Nat.add_zero]
              · rw [rl.roots]
                constructor
                · rintro ⟨i, t, ks, rfl, hi, e⟩
                  by_cases z : i = q
                  · subst z
                    obtain ⟨rfl, rfl⟩ := hq.uniq hi
                    exact ⟨i, _, _, rfl, H.2 (.inr (.inl ⟨rfl, rfl, rfl⟩)), e⟩
                  · exact ⟨i, t, ks, rfl, H.2 (.inr (.inr ⟨neN hi, z, hi⟩)), e⟩
                · rintro ⟨i, t, ks, rfl, hi, e⟩
                  rcases H.1 hi with ⟨rfl, rfl, _⟩ | ⟨rfl, rfl, _⟩ | ⟨_, _, hi⟩
                  · have := e.2; have : (q : Int) = -1 := this; omega
                  · exact ⟨i, _, _, rfl, hq, e⟩
                  · exact ⟨i, t, ks, rfl, hi, e⟩
    · rw [if_neg ho] at y
      exact w_ifT (by simp [ho]) (y _ _ x (.refl _ _))
end
theorem w_DownF {h0 h : H} {p : Nat} {s : Sl} {F : Nat → Prop} {ns : List Nd} (x : Tree h0 p s F ns) (kp : Keeps h0 h) {n : Nat} {l : List Int} (hl : PreL (chN ns) [(n : Int)] l) (live : LiveL ns l) (len : l.length ≤ 4096)
    {body : Int → ((H → Prop) → H → Prop) → (Nat → H → Prop) → H → Prop} {k : Nat → H → Prop} (b : Int → (Nat → H → Prop) → H → Prop) (hb : ∀ x mid kj, body x mid kj = mid (b x kj))
    (R : (Nat → Prop) → Nat → H → Prop) (has : ∀ G i h, R G i h → ∀ c, G c → h c ≠ none) (stab : ∀ G i h h' E, R G i h → But E h h' → (∀ c, E c → ¬ G c) → R G i h') {G0 : Nat → Prop} (r0 : R G0 0 h) (g0 : ∀ c, G0 c → h0 c = none)
    (step : ∀ (i : Nat) (z : Nat), l[i]? = some (z : Int) → ∀ G h' kj, R G i h' → Keeps h0 h' → (∀ c, G c → h0 c = none) → (∀ G' h'', R G' (i + 1) h'' → KChg G G' h' h'' → kj 0 h'') → b (z : Int) kj h')
    (y : ∀ G h', R G l.length h' → Keeps h0 h' → (∀ c, G c → h0 c = none) → k 0 h') :
    m_walk_Down (some ⟨p, 0, none⟩) (n : Int) (fun r => mRangeF (A := Int) Tryd.prog (fun x => [(Value.int .i64 x)]) r.1 body k) h := by
  refine w_Down (x.keep kp) hl live len b hb (fun D i h' => ∃ G, R G i h' ∧ Keeps h0 h' ∧ (∀ c, G c → h0 c = none) ∧ ∀ c, D c ↔ G c ∨ h0 c ≠ none) ?_ ?_ (G0 := fun c => G0 c ∨ h0 c ≠ none) ⟨G0, r0, kp, g0, fun _ => Iff.rfl⟩ ?_ ?_
  · rintro D i h' ⟨G, r, k', g, d⟩ c hc
    rcases (d c).1 hc with q | q
    · exact has _ _ _ r c q
    · intro e; exact q (k'.fresh e)
  · rintro D i h' h'' E ⟨G, r, k', g, d⟩ bE nE
    refine ⟨G, stab _ _ _ _ _ r bE (fun c q w => nE c q ((d c).2 (.inl w))), fun c o q => bE c o (k' c o q) fun w => nE c w ((d c).2 (.inr (by rw [q]; exact fun z => by cases z))), g, d⟩
  · rintro i z hz D h' kj ⟨G, r, k', g, d⟩ next
    refine step i z hz G h' kj r k' g fun G' h'' r' c' => ?_
    have g' : ∀ c, G' c → h0 c = none := fun c q => (c'.foot c q).elim (g c) fun e => k'.fresh e
    refine next (fun c => G' c ∨ h0 c ≠ none) h'' ⟨G', r', k'.but c'.but g, g', fun _ => Iff.rfl⟩ ⟨c'.but.mono fun c q => (d c).2 (.inl q), fun c q => ?_, c'.dom⟩
    rcases q with q | q
    · exact (c'.foot c q).imp (fun w => (d c).2 (.inl w)) id
    · exact .inl ((d c).2 (.inr q))
  · rintro D h' ⟨G, r, k', g, d⟩ _
    exact y G h' r k' g
structure NewSt (h : H) (t u : Option Sl) (ms : List Nat) (n : Nat) (h' : H) : Prop where
  keep : Keeps h h'
  tok : ∀ s, t = some s → Buf cTok 5 N_api_Token h' s (List.replicate n tok0) ∧ ∀ c, s.foot c → h c = none
  use : ∀ s, u = some s → Buf cBool 1 4 h' s (List.replicate n false) ∧ ∀ c, s.foot c → h c = none
  maps : ∀ m, m ∈ ms → MapOf (Value.int .i64) (Value.int .i64) h' m ([] : List (Int × Int)) ∧ h m = none
  nd : ms.Nodup
theorem NewSt.more {h h' h'' : H} {t u : Option Sl} {ms : List Nat} {n : Nat} (x : NewSt h t u ms n h') (k : Keeps h' h'') : NewSt h t u ms n h'' :=
  ⟨x.keep.trans k, fun s e => ⟨(x.tok s e).1.keep k, (x.tok s e).2⟩, fun s e => ⟨(x.use s e).1.keep k, (x.use s e).2⟩, fun m e => ⟨(x.maps m e).1.keep k, (x.maps m e).2⟩, x.nd⟩
theorem NewSt.doTok {h h' : H} {u : Option Sl} {ms : List Nat} {n : Nat} (x : NewSt h none u ms n h') (hn : n ≤ 256) {k : Sl → H → Prop} (y : ∀ s h'', NewSt h (some s) u ms n h'' → k s h'') : mMake N_api_Token 40 #[(Value.int .i64 0), (Value.int .u64 0), (Value.int .u64 0), (Value.int .i64 0), (Value.int .i64 0)] (n : Int) (n : Int) k h' := by
  refine w_make tok_len tok0 rfl rfl rfl (by omega) (by omega) fun s h2 bu k2 f2 _ => y s h2 ?_
  have z := x.more k2
  exact ⟨z.keep, fun s' e => by cases e; exact ⟨bu, fun c f => x.keep.fresh (f2 c f)⟩, z.use, z.maps, z.nd⟩
theorem NewSt.doUse {h h' : H} {t : Option Sl} {ms : List Nat} {n : Nat} (x : NewSt h t none ms n h') (hn : n ≤ 256) {k : Sl → H → Prop} (y : ∀ s h'', NewSt h t (some s) ms n h'' → k s h'') : mMake 4 1 #[(Value.bool false)] (n : Int) (n : Int) k h' := by
  refine w_make cb_len false rfl rfl rfl (by omega) (by omega) fun s h2 bu k2 f2 _ => y s h2 ?_
  have z := x.more k2
  exact ⟨z.keep, z.tok, fun s' e => by cases e; exact ⟨bu, fun c f => x.keep.fresh (f2 c f)⟩, z.maps, z.nd⟩
theorem NewSt.doMap {h h' : H} {t u : Option Sl} {ms : List Nat} {n : Nat} (x : NewSt h t u ms n h') {k : Option Nat → H → Prop} (y : ∀ m h'', NewSt h t u (m :: ms) n h'' → k (some m) h'') : mMakeMap k h' := by
  refine w_makeMap (Value.int .i64) (Value.int .i64) fun b h2 f2 mp k2 => y b h2 ?_
  have z := x.more k2
  refine ⟨z.keep, z.tok, z.use, fun m e => ?_, List.nodup_cons.2 ⟨fun e => ?_, x.nd⟩⟩
  · rcases List.mem_cons.1 e with q | q
    · subst q; exact ⟨mp, x.keep.fresh f2⟩
    · exact z.maps m q
  · obtain ⟨es, cl, q, _⟩ := (x.maps b e).1.ex
    rw [f2] at q; cases q
theorem cnt_none (n : Nat) (o : Int) : cnt (List.replicate n none) o = 0 := by
  cases e : cnt (List.replicate n none) o with
  | zero => rfl
  | succ k =>
    obtain ⟨i, t, ks, hi, _⟩ := cnt_pos.1 (by omega : 0 < cnt (List.replicate n none) o)
    have := List.eq_of_mem_replicate (List.mem_of_getElem? hi)
    cases this
theorem capsG_none : ∀ (n k : Nat), capsG k (List.replicate n none) = [] := by
  intro n
  induction n with
  | zero => exact fun _ => rfl
  | succ n ih => intro k; rw [List.replicate_succ, capsG, ih]
theorem t_CNew {h : H} {a0 a1 : Int} {K : Option Addr × Int → H → Prop} (bad : (a0 < 1 ∨ 256 < a0 ∨ a1 < 0 ∨ 64 < a1) → K (none, 16) h)
    (good : 0 ≤ a1 → a1 ≤ 64 → ∀ n : Nat, a0 = n → 1 ≤ n → n ≤ 256 → ∀ p G h', Cat h' p a1 G (List.replicate n none) → Keeps h h' → (∀ c, G c → h c = none) → K (some ⟨p, 0, none⟩, 0) h') : m_catalogue_New a0 a1 K h := by
  unfold m_catalogue_New
  refine w_if (fun c => bad ?_) fun c => ?_
  · simp only [Bool.or_eq_true, decide_eq_true_eq] at c; omega
  simp only [Bool.or_eq_false_iff, decide_eq_false_iff_not] at c
  obtain ⟨n, rfl⟩ : ∃ n : Nat, a0 = n := ⟨a0.toNat, by omega⟩
  refine t_TNew (fun q => by omega) fun _ _ _ _ tp ts h1 t1 k1 f1 f1' => w_ifF rfl ?_
  refine t_KNew (by omega) fun kp ks F h2 t2 k2 f2 => w_ifF rfl ?_
  have s0 : NewSt h2 none none [] n h2 := ⟨.refl _, fun s e => (by cases e), fun s e => (by cases e), fun m e => (by cases e), List.nodup_nil⟩
  refine w_joinP (fun s3 h' => ∃ tk us m1 m2, s3 = (tk, us, some m1, some m2) ∧ NewSt h2 (some tk) (some us) [m1, m2] n h') (fun j hj => ?_) ?_
  · have fin1 : ∀ {tk us m1 m2 h'}, NewSt h2 (some tk) (some us) [m1, m2] n h' → j (tk, us, some m1, some m2) h' := fun z => hj _ _ ⟨_, _, _, _, rfl, z⟩
    have fin2 : ∀ {tk us m1 m2 h'}, NewSt h2 (some tk) (some us) [m2, m1] n h' → j (tk, us, some m1, some m2) h' := fun z => hj _ _ ⟨_, _, _, _, rfl, z.keep, z.tok, z.use, fun m e => z.maps m (by simp only [List.mem_cons, List.not_mem_nil, or_false] at e ⊢; exact e.symm), (List.Perm.swap _ _ []).nodup_iff.1 z.nd⟩
    have hn : n ≤ 256 := by omega
    repeat' first
      | refine w_both ?_ ?_
      | refine NewSt.doTok (by assumption) hn fun _ _ _ => ?_
      | refine NewSt.doUse (by assumption) hn fun _ _ _ => ?_
      | refine NewSt.doMap (by assumption) fun _ _ _ => ?_
      | exact fin1 (by assumption)
      | exact fin2 (by assumption)
  · rintro s3 h3 ⟨tk, us, m1, m2, rfl, z⟩
    refine w_box fun p h4 f4 c4 k4 => ?_
    obtain ⟨bt, ft⟩ := z.tok _ rfl
    obtain ⟨bu, fu⟩ := z.use _ rfl
    obtain ⟨mp1, fm1⟩ := z.maps m1 (by simp)
    obtain ⟨mp2, fm2⟩ := z.maps m2 (by simp)
    have hne : m1 ≠ m2 := by have := z.nd; simpa using this
    have k02 := k1.trans k2
    refine good (by omega) (by omega) n rfl (by omega) (by omega) p (CFoot p ⟨tp, ts, kp, ks, F, tk, us, m1, m2⟩) h4 ⟨⟨⟨tp, ts, kp, ks, F, tk, us, m1, m2⟩, [], List.replicate n tok0, [], [], ⟨c4, ?_, ?_, bt.keep k4, ?_, mp1.keep k4, mp2.keep k4, hne⟩, fun _ => Iff.rfl, ?_⟩, CWF.empty (by omega) (by omega)⟩ ((k02.trans z.keep).trans k4) fun c f => ?_
    · have := ((t1.keep k2).keep z.keep).keep k4
      rw [List.length_replicate]
      exact this
    · have := (t2.keep z.keep).keep k4
      unfold nds
      rw [List.map_replicate]
      exact this
    · rw [List.map_replicate]; exact bu.keep k4
    · have no : ∀ {i t ks}, ¬ Has (List.replicate n none) i t ks := fun h => by
        have := List.eq_of_mem_replicate (List.mem_of_getElem? h)
        cases this
      refine ⟨by rw [List.length_replicate, List.length_replicate], fun i t ks h => (no h).elim, by rw [capsG_none], List.nodup_nil, fun o => by rw [cnt_none]; rfl, List.nodup_nil, fun o r => ⟨fun h => (by cases h), fun ⟨i, t, ks, _, h, _⟩ => (no h).elim⟩⟩
    · obtain ⟨i, hi, hc⟩ := f
      match i, hi, hc with
      | 0, _, hc => cases hc; exact k02.fresh (z.keep.fresh f4)
      | 1, _, hc =>
        rcases hc with q | q
        · cases q; exact f1
        · exact f1' c q
      | 2, _, hc => exact k1.fresh (f2 c hc)
      | 3, _, hc => exact k02.fresh (ft c hc)
      | 4, _, hc => exact k02.fresh (fu c hc)
      | 5, _, hc => cases hc; exact k02.fresh fm1
      | 6, _, hc => cases hc; exact k02.fresh fm2
theorem CWF.parObj {es : List En} (w : CWF es) {x z : Int} (d : Desc (chN (nds es)) x z) {i : Nat} {t ks} (hx : x = i) (hi : Has es i t ks) : ∀ {j : Nat} {u us}, z = j → Has es j u us → u.Cap.Obj = t.Cap.Obj := by
  induction d with
  | refl =>
    intro j u us e hj
    obtain rfl : i = j := by omega
    obtain ⟨rfl, _⟩ := hi.uniq hj
    rfl
  | snoc d hz ih =>
    intro j u us e hj
    obtain ⟨a, v, vs, rfl, ha, hk⟩ := chN_mem hz
    subst e
    obtain ⟨b, v', vs', e, hb, hp⟩ := w.down _ _ _ ha _ hk
    obtain rfl : j = b := by omega
    obtain ⟨rfl, _⟩ := hj.uniq hb
    rcases w.up _ _ _ hj with q | ⟨i', t', ks', q, hi', _, ho, _⟩
    · omega
    · obtain rfl : a = i' := by omega
      rw [← ho]; exact ih rfl hi'
theorem CWF.rootOf {es : List En} (w : CWF es) : ∀ {j u us}, Has es j u us → ∃ (r : Nat) (t : S_api_Token) (ks : List Int), Has es r t ks ∧ t.Parent = -1 ∧ t.Cap.Obj = u.Cap.Obj ∧ Desc (chN (nds es)) (r : Int) (j : Int) := by
  obtain ⟨wt, B, hw⟩ := w.rank
  have main : ∀ k, ∀ {j u us}, Has es j u us → wt j < k → ∃ (r : Nat) (t : S_api_Token) (ks : List Int), Has es r t ks ∧ t.Parent = -1 ∧ t.Cap.Obj = u.Cap.Obj ∧ Desc (chN (nds es)) (r : Int) (j : Int) := by
    intro k
    induction k with
    | zero => intro j u us _ q; omega
    | succ k ih =>
      intro j u us hj hk
      rcases w.up _ _ _ hj with q | ⟨i, t, ks, q, hi, hm, ho, _⟩
      · exact ⟨j, u, us, hj, q, rfl, .refl⟩
      · have := (hw _ _ _ hj).2 i q
        obtain ⟨r, v, vs, hr, p, o, d⟩ := ih hi (by omega)
        exact ⟨r, v, vs, hr, p, o.trans ho, d.snoc (by rw [chN_nds hi]; exact hm)⟩
  exact fun {j u us} hj => main _ hj (Nat.lt_succ_self _)
theorem Below.obj {es : List En} (w : CWF es) {n : Nat} {l : List Int} (b : Below es n l) {t ks} (hn : Has es n t ks) {i : Nat} {u us} (hm : (i : Int) ∈ l) (hi : Has es i u us) : u.Cap.Obj = t.Cap.Obj := by
  obtain ⟨r, hr, d⟩ := b.pre.mem.1 hm
  obtain rfl := List.mem_singleton.1 hr
  exact w.parObj d rfl hn rfl hi
theorem Below.down {es : List En} {n : Nat} {l : List Int} (b : Below es n l) {i j : Int} (hm : i ∈ l) (d : Desc (chN (nds es)) i j) : j ∈ l := by
  obtain ⟨r, hr, d'⟩ := b.pre.mem.1 hm
  exact b.pre.mem.2 ⟨r, hr, d'.trans d⟩
theorem idx_of {l : List Int} (nd : l.Nodup) {i : Nat} {z : Int} (h : l[i]? = some z) : l.idxOf z = i := by
  obtain ⟨hi, e⟩ := List.getElem?_eq_some_iff.1 h
  have := nd.idxOf_getElem i hi
  rwa [e] at this
def placeIn (l : List Int) (z : Int) : Int := if z = -1 then -1 else ((l.idxOf z : Nat) : Int)
def tokIn (es : List En) (l : List Int) (z : Int) : S_api_Token := match atE es z with
  | some (t, _) => ⟨t.Cap, t.Rights, placeIn l t.Parent⟩
  | none => tok0
def ofE (es : List En) (l : List Int) : List S_api_Token := l.map (tokIn es l)
theorem tokIn_has {es : List En} {l : List Int} {i : Nat} {t ks} (h : Has es i t ks) : tokIn es l (i : Int) = ⟨t.Cap, t.Rights, placeIn l t.Parent⟩ := by
  unfold tokIn
  rw [(atE_has (i := (i : Int))).2 ⟨i, rfl, h⟩]
theorem Below.ahead {es : List En} (w : CWF es) {n : Nat} {l : List Int} (b : Below es n l) {t ks} (hn : Has es n t ks) {i : Nat} {z : Nat} (hz : l[i]? = some (z : Int)) {u us} (hu : Has es z u us) : (z = n ∧ u = t) ∨ (0 ≤ u.Parent ∧ u.Parent ∈ l.take i) := by
  rcases b.pre.behind hz with q | ⟨y, hy, hm⟩
  · obtain rfl : z = n := by have := List.mem_singleton.1 q; omega
    exact .inl ⟨rfl, (hu.uniq hn).1⟩
  · obtain ⟨j, v, vs, rfl, hj, hk⟩ := chN_mem hm
    obtain ⟨a, v', vs', e, ha, p⟩ := w.down _ _ _ hj _ hk
    obtain rfl : z = a := by omega
    obtain ⟨rfl, _⟩ := hu.uniq ha
    rw [p]
    exact .inr ⟨by omega, hy⟩
section
variable {h : H} {p : Nat} {knob : Int} {G : Nat → Prop} {es : List En}
theorem t_COf (x : Cat h p knob G es) {o : Int} {K : Sl → H → Prop} (no : (∀ i t ks, Has es i t ks → t.Cap.Obj ≠ o) → ∀ h', Keeps h h' → K Sl.nil h')
    (y : ∀ n t ks l, Has es n t ks → t.Cap.Obj = o → t.Parent = -1 → Below es n l → ∀ s' h', Buf cTok 5 N_api_Token h' s' (ofE es l) → Keeps h h' → (∀ c, s'.foot c → h c = none) → K s' h') : m_catalogue_Catalogue_Of (some ⟨p, 0, none⟩) o K h := by
  have wf := x.wf
  obtain ⟨L, al, ts, lr, lc, a, b, rl⟩ := x.ex
  unfold m_catalogue_Catalogue_Of
  refine w_box fun b1 h1 f1 c1 k1 => w_load (v := some ⟨p, 0, none⟩) (cells := cPtr) (at_box c1) (w_deref (w_load (a.keep k1).fRoots (w_lookup keyNi (a.keep k1).roots ?_)))
  cases hr : alook lr o with
  | none =>
    refine w_ifT rfl (no (fun i t ks hi e => ?_) h1 k1)
    obtain ⟨r, v, vs, hr', p', o', _⟩ := wf.rootOf hi
    have := (rl.roots o (r : Int)).2 ⟨r, v, vs, rfl, hr', o'.trans e, p'⟩
    rw [hr] at this; cases this
  | some r =>
    obtain ⟨n, t, ks, rfl, hn, ho, hp⟩ := (rl.roots o r).1 hr
    obtain ⟨l, bl⟩ := wf.ex hn
    have wl := wf.len
    have ll := bl.len
    refine w_ifF rfl (w_box fun b6 h2 f2 c2 k2 => w_makeMap (Value.int .i64) (Value.int .i64) fun m7 h3 f3 mp3 k3 => w_mapSet keyNi mp3 rfl rfl fun h4 mp4 e4 d4 => w_box fun b8 h5 f5 c5 k5 => w_setBox c5 rfl fun h6 c6 e6 d6 => ?_)
    have k03 : Keeps h h3 := (k1.trans k2).trans k3
    have k04 : Keeps h h4 := k03.but e4 fun c q => by subst q; exact (k1.trans k2).fresh f3
    have k24 : Keeps h2 h4 := k3.but e4 fun c q => by subst q; exact f3
    have k05 := k04.trans k5
    have k06 : Keeps h h6 := k05.but e6 fun c q => by subst q; exact k04.fresh f5
    have k46 : Keeps h4 h6 := k5.but e6 fun c q => by subst q; exact f5
    have k26 := k24.trans k46
    refine w_load (v := some ⟨p, 0, none⟩) (cells := cPtr) (at_box (k26 _ _ (k2 _ _ c1))) (w_deref (w_load (a.keep k06).fTree ?_))
    refine w_DownF a.tree k06 bl.pre bl.live (by omega) _ (fun _ _ _ => rfl)
      (fun E i h' => ∃ s A, (∀ c, E c ↔ c = b1 ∨ c = b6 ∨ c = b8 ∨ c = m7 ∨ s.foot c) ∧ h' b1 = some (.cells [Value.pointer (some ⟨p, 0, none⟩)].toArray N_P_catalogue_Catalogue (0, 0)) ∧ h' b6 = some (.cells [Sl.val s].toArray N_Sl_api_Token (0, 0)) ∧ h' b8 = some (.cells [Value.map (some m7)].toArray N_M_i64_i64 (0, 0)) ∧ MapOf (Value.int .i64) (Value.int .i64) h' m7 A ∧ (∀ w, alook A w = if w = -1 then some (-1) else if w ∈ l.take i then some ((l.idxOf w : Nat) : Int) else none) ∧ Buf cTok 5 N_api_Token h' s ((l.take i).map (tokIn es l))) ?_ ?_ (G0 := fun c => c = b1 ∨ c = b6 ∨ c = b8 ∨ c = m7 ∨ Sl.nil.foot c)
      ⟨Sl.nil, _, fun _ => Iff.rfl, k26 _ _ (k2 _ _ c1), k26 _ _ c2, c6, mp4.keep k46, fun w => ?_, Buf.nil⟩ ?_ ?_ ?_
    · rintro E i h' ⟨s, A, hE, g1, g6, g8, gm, hA, bu⟩ c hc
      rcases (hE c).1 hc with rfl | rfl | rfl | rfl | q
      · rw [g1]; exact fun z => by cases z
      · rw [g6]; exact fun z => by cases z
      · rw [g8]; exact fun z => by cases z
      · obtain ⟨es', cl, e, _⟩ := gm.ex
        rw [e]; exact fun z => by cases z
      · exact bu.has q
    · rintro E i h' h'' E' ⟨s, A, hE, g1, g6, g8, gm, hA, bu⟩ bE nE
      exact ⟨s, A, hE, bE _ _ g1 fun q => nE _ q ((hE _).2 (.inl rfl)), bE _ _ g6 fun q => nE _ q ((hE _).2 (.inr (.inl rfl))), bE _ _ g8 fun q => nE _ q ((hE _).2 (.inr (.inr (.inl rfl)))), gm.but bE fun q => nE _ q ((hE _).2 (.inr (.inr (.inr (.inl rfl))))), hA, bu.but bE fun a ha q => nE _ q ((hE _).2 (.inr (.inr (.inr (.inr ⟨a, ha, rfl⟩)))))⟩
    · rw [alook_set]
      by_cases q : w = -1
      · rw [if_pos q, if_pos q]
      · rw [if_neg q, if_neg q, List.take_zero, if_neg (by simp)]; rfl
    · rintro c (rfl | rfl | rfl | rfl | ⟨_, q, _⟩)
      · exact f1
      · exact k1.fresh f2
      · exact k04.fresh f5
      · exact (k1.trans k2).fresh f3
      · cases q
    · -- a round
      rintro i z hz E h' kj ⟨s, A, hE, g1, g6, g8, gm, hA, bu⟩ kp fr next
      obtain ⟨z', u, us, e, hu⟩ := hasN_nds.1 (bl.live _ (List.mem_of_getElem? hz))
      obtain rfl : z = z' := by omega
      have hil := lt_of_get hz
      have a' := a.keep kp
      refine w_load (v := some ⟨p, 0, none⟩) (cells := cPtr) (at_box g1) (w_deref (w_load a'.fTok (w_get tok_len a'.tok.arr (rl.tok _ _ _ hu) rfl (v' := u) rfl ?_)))
      refine w_box fun b22 h7 f7 c7 k7 => w_setBox c7 rfl fun h8 c8 e8 d8 => ?_
      have k8 : Keeps h' h8 := k7.but e8 fun c q => by subst q; exact f7
      have c8 : h8 b22 = some (.cells (cTok u).toArray N_api_Token (0, 0)) := c8
      refine w_load (v := some m7) (cells := cMap) (at_box (k8 _ _ g8)) (w_load (v := s) (cells := cSl) (at_box (k8 _ _ g6)) ?_)
      have ls := bu.len
      rw [List.length_map, List.length_take] at ls
      have e0 : (s.len : Int) = (i : Int) := by omega
      rw [e0]
      refine w_mapSet keyNi (gm.keep k8) rfl rfl fun h9 m9 e9 d9 => ?_
      have nm : ∀ {bb : Nat} {cs : Array Value} {e : TypeId}, h8 bb = some (.cells cs e (0, 0)) → ¬ bb = m7 := fun q r => (gm.keep k8).untyped (Typed.of q) r
      have g8' := e9 _ _ (k8 _ _ g8) (nm (k8 _ _ g8))
      have c8' := e9 _ _ c8 (nm c8)
      have g6' := e9 _ _ (k8 _ _ g6) (nm (k8 _ _ g6))
      refine w_load (v := some m7) (cells := cMap) (at_box g8') (w_load (v := u.Parent) (cells := cInt .i64) ?_ (w_lookup keyNi m9 ?_))
      · rw [pt_add]
        exact At.own (l1 := (cTok u).take 4) (l3 := []) c8' rfl
      have hp' : (alook (aset A (z : Int) (i : Int)) u.Parent).getD 0 = placeIn l u.Parent := by
        rw [alook_set]
        rcases bl.ahead wf hn hz hu with ⟨_, rfl⟩ | ⟨q1, q2⟩
        · rw [hp, if_neg (by omega), hA, if_pos rfl]; rfl
        · have hne : u.Parent ≠ -1 := by omega
          unfold placeIn
          rw [if_neg hne]
          split
          · rename_i e; rw [e, idx_of bl.nd hz]; rfl
          · rw [hA, if_neg hne, if_pos q2]; rfl
      rw [hp']
      refine w_store (b := b22) (i := 4) (l1 := (cTok u).take 4) (l2 := [Value.int .i64 u.Parent]) (l3 := []) (t := N_api_Token) (pt_add b22 4) c8' rfl rfl ?_
      generalize eh10 : upd h9 b22 _ = h10
      have c10 : h10 b22 = some (.cells (cTok ⟨u.Cap, u.Rights, placeIn l u.Parent⟩).toArray N_api_Token (0, 0)) := by rw [← eh10]; exact upd_same _ _ _
      have e10 : But (· = b22) h9 h10 := eh10 ▸ .upd rfl
      have d10 : ∀ c, h10 c = none → h9 c = none := fun c q => by rw [← eh10] at q; exact (upd_none.1 q).2
      have n6 : ¬ b6 = b22 := (Typed.of g6').ne (Typed.of c8') (by decide)
      refine w_load (v := s) (cells := cSl) (at_box (e10 _ _ g6' n6)) (w_load (v := ⟨u.Cap, u.Rights, placeIn l u.Parent⟩) (cells := S_api_Token.cells) (at_box c10) ?_)
      refine w_box fun b30 h11 f11 c11 k11 => ?_
      have bu8 := bu.keep k8
      have bu9 := bu8.but e9 fun a ha q => (gm.keep k8).untyped (bu8.typed ⟨a, ha, rfl⟩) q
      have bu10 := bu9.but e10 fun a ha q => bu.has ⟨a, ha, rfl⟩ (by rw [q]; exact f7)
      refine w_append (by_ := 40) tok_len tok_plain rfl (bu10.keep k11) (Buf.one tok_len c11).arr (.inl ?_) fun s12 h12 bu12 e12 fo12 d12 => ?_
      · simp only [List.length_map, List.length_take, List.length_singleton]; omega
      have kA : But (fun c => c = m7) h' h9 := (But.of k8).trans e9 fun _ q => .inl q
      have kB : But (fun c => c = m7) h' h10 := kA.trans e10 fun c q => .inr (by rw [q]; exact f7)
      have kC : But (fun c => c = m7) h' h11 := kB.trans (.of k11 : But (fun c => c = m7) h10 h11) fun _ q => .inl q
      have kD : But (fun c => c = m7 ∨ s.foot c) h' h12 := (kC.mono fun _ q => .inl q).trans (e12.mono fun _ q => .inr q) fun _ q => .inl q
      have dD : ∀ c, h12 c = none → h' c = none := fun c q => k8.fresh (d9 c (d10 c (k11.fresh (d12 c q))))
      have nfoot : ∀ {bb : Nat} {e : TypeId} {cs : Array Value}, h' bb = some (.cells cs e (0, 0)) → e ≠ N_api_Token → ¬ s.foot bb := fun q ne f => (bu.typed f).ne (Typed.of q) (fun z => ne z.symm) rfl
      have nmm : ∀ {bb : Nat} {e : TypeId} {cs : Array Value}, h' bb = some (.cells cs e (0, 0)) → ¬ bb = m7 := fun q r => gm.untyped (Typed.of q) r
      have still : ∀ {bb : Nat} {e : TypeId} {cs : Array Value}, h' bb = some (.cells cs e (0, 0)) → e ≠ N_api_Token → h12 bb = some (.cells cs e (0, 0)) := fun q ne => kD _ _ q fun w => w.elim (nmm q) (nfoot q ne)
      have g6'' := still g6 (by decide)
      refine w_setBox g6'' rfl fun h13 c13 e13 d13 => ?_
      have kE : But (fun c => c = m7 ∨ s.foot c ∨ c = b6) h' h13 := (kD.mono fun _ q => q.imp id .inl).trans (e13.mono fun _ q => .inr (.inr q)) fun _ q => .inl q
      have fo : ∀ c, s12.foot c → s.foot c ∨ h' c = none := fun c q => (fo12 c q).imp id fun w => k8.fresh (d9 c (d10 c (k11.fresh w)))
      have n16 : b1 ≠ b6 := (Typed.of g1).ne (Typed.of g6) (by decide)
      have n86 : b8 ≠ b6 := (Typed.of g8).ne (Typed.of g6) (by decide)
      refine next (fun c => c = b1 ∨ c = b6 ∨ c = b8 ∨ c = m7 ∨ s12.foot c) h13 ⟨s12, aset A (z : Int) (i : Int), fun _ => Iff.rfl, kE _ _ g1 ?_, c13, kE _ _ g8 ?_, ?_, fun w => ?_, ?_⟩ ⟨kE.mono fun c q => (hE c).2 ?_, fun c q => ?_, fun c q => dD c (d13 c q)⟩
      · rintro (q | q | q)
        · exact nmm g1 q
        · exact nfoot g1 (by decide) q
        · exact n16 q
      · rintro (q | q | q)
        · exact nmm g8 q
        · exact nfoot g8 (by decide) q
        · exact n86 q
      · have q10 := m9.but e10 fun q => by rw [q] at gm; obtain ⟨es', cl, e, _⟩ := gm.ex; rw [f7] at e; cases e
        have q12 := (q10.keep k11).but e12 fun q => gm.untyped (bu.typed q) rfl
        exact q12.but e13 fun q => q12.untyped (Typed.of g6'') q.symm
      · rw [alook_set, hA]
        have ht : l.take (i + 1) = l.take i ++ [(z : Int)] := by rw [List.take_add_one, hz]; rfl
        by_cases q : w = (z : Int)
        · subst q
          rw [if_pos rfl, if_neg (by omega), ht, if_pos (by simp), idx_of bl.nd hz]
        · rw [if_neg q, ht]
          simp only [List.mem_append, List.mem_singleton, q, or_false]
      · have := bu12.but e13 fun a ha q => (bu12.typed ⟨a, ha, rfl⟩).ne (Typed.of g6'') (by decide) q
        have e1 : (l.take (i + 1)).map (tokIn es l) = (l.take i).map (tokIn es l) ++ [⟨u.Cap, u.Rights, placeIn l u.Parent⟩] := by
          rw [List.take_add_one, hz, List.map_append, ← tokIn_has hu]; rfl
        rw [e1]; exact this
      · rcases q with q | q | q
        · exact .inr (.inr (.inr (.inl q)))
        · exact .inr (.inr (.inr (.inr q)))
        · exact .inr (.inl q)
      · rcases q with q | q | q | q | q
        · exact .inl ((hE c).2 (.inl q))
        · exact .inl ((hE c).2 (.inr (.inl q)))
        · exact .inl ((hE c).2 (.inr (.inr (.inl q))))
        · exact .inl ((hE c).2 (.inr (.inr (.inr (.inl q)))))
        · exact (fo c q).imp (fun w => (hE c).2 (.inr (.inr (.inr (.inr w))))) id
    · rintro E h7 ⟨s, A, hE, g1, g6, g8, gm, hA, bu⟩ k07 fr
      rw [List.take_length] at bu
      refine w_ifT rfl (w_load (v := s) (cells := cSl) (at_box g6) ?_)
      exact y n t ks l hn ho hp bl s h7 bu k07 fun c q => fr c ((hE c).2 (.inr (.inr (.inr (.inr q)))))
end
end Go.Proofs.YtdleanjofhghnaaDoor.K
namespace Go.Proofs.YtdleanjofhghnaaDoor.K
open Go Go.Proofs
def m_ref11_New (a0 : Int) (a1 : Int) (K : (Option Addr × Int) → H → Prop) : H → Prop :=
 mIf ((((decide (a0 < 1)) || (decide (256 < a0))) || (decide (a1 < 0))) || (decide (64 < a1))) (
 K (none, 16)
 ) (
 mMake 207 56 #[(Value.bool false), (Value.int .i64 0), (Value.int .u64 0), (Value.int .u64 0), (Value.int .i64 0), (Value.int .i64 0), (Value.int .i64 0)] a0 a0 fun s1 =>
 mNew 108 #[(Sl.val s1), (Value.int .i64 0)] fun ad2 =>
 K ((some ad2), 0)
 )
def x_ref11_New : Cx Tryd.prog := ⟨tys, [], [], [], mixed⟩
def h_ref11_New : Hint := (.seq .d (.seq (.seq (.reg (.run [3, 7, 11] (.sel 8 11 3584 (.run [15, 19, 23] .nil) (.run [15, 19, 23] .nil) (.run [27] (.sel 12 15 57344 (.run [31, 35, 39] .nil) (.run [31, 35, 39] .nil) (.run [43] (.sel 16 19 917504 (.run [47, 51, 55] .nil) (.run [47, 51, 55] .nil) .nil))))))) .d) .d))
def s_ref11_New : Spec Tryd.prog := mkSpec x_ref11_New 21 Tryd.f21 [(tInt .i64), (tInt .i64)] [tPtr, (tInt .i64)] false h_ref11_New (fun a => m_ref11_New a.1 a.2) (fun a K h => by kernel_rfl) callee21 rfl
end Go.Proofs.YtdleanjofhghnaaDoor.K
namespace Go.Proofs.YtdleanjofhghnaaDoor.K
open Go
abbrev cPl := S_ref11_Place.cells
theorem rp_len : ∀ x, (cPl x).length = 7 := fun _ => rfl
def PlOk (q : S_ref11_Place) : En → Prop
  | none => q.Live = false
  | some (t, _) => q.Live = true ∧ q.Cap = t.Cap ∧ q.Rights = t.Rights ∧ q.Parent = t.Parent
def whenP (pl : List S_ref11_Place) (z : Int) : Int := ((pl[z.toNat]?).map S_ref11_Place.When).getD 0
structure RefRel (es : List En) (pl : List S_ref11_Place) (ev : Nat) : Prop where
  len : pl.length = es.length
  ent : ∀ (i : Nat) q e, pl[i]? = some q → es[i]? = some e → PlOk q e
  when : ∀ i t ks, Has es i t ks → 0 ≤ whenP pl (i : Int) ∧ whenP pl (i : Int) < ev
  kids : ∀ i t ks, Has es i t ks → ks.Pairwise fun a b => whenP pl a < whenP pl b
structure RefAt (h : H) (p : Nat) (s : Sl) (pl : List S_ref11_Place) (ev : Nat) : Prop where
  cell : h p = some (.cells (S_ref11_Catalogue.cells ⟨s, ev⟩).toArray N_ref11_Catalogue (0, 0))
  buf : Buf cPl 7 N_ref11_Place h s pl
structure Ref (h : H) (p : Nat) (ev : Nat) (G : Nat → Prop) (es : List En) : Prop where
  ex : ∃ s pl, RefAt h p s pl ev ∧ RefRel es pl ev ∧ ∀ c, G c ↔ c = p ∨ s.foot c
  wf : CWF es
section
variable {h : H} {p : Nat} {s : Sl} {pl : List S_ref11_Place} {ev : Nat} {es : List En}
theorem RefAt.but {h' : H} {E : Nat → Prop} (x : RefAt h p s pl ev) (k : But E h h') (f : ∀ c, E c → c ≠ p ∧ ¬ s.foot c) : RefAt h' p s pl ev := ⟨k _ _ x.cell fun q => (f _ q).1 rfl, x.buf.but k fun a ha q => (f _ q).2 ⟨a, ha, rfl⟩⟩
end
section
variable {h : H} {p : Nat} {ev : Nat} {G : Nat → Prop} {es : List En}
theorem Ref.but {h' : H} {E : Nat → Prop} (x : Ref h p ev G es) (k : But E h h') (f : ∀ c, E c → ¬ G c) : Ref h' p ev G es := by
  obtain ⟨s, pl, a, b, c⟩ := x.ex
  exact ⟨⟨s, pl, a.but k fun z e => ⟨fun q => f z e ((c z).2 (.inl q)), fun q => f z e ((c z).2 (.inr q))⟩, b, c⟩, x.wf⟩
theorem Ref.has (x : Ref h p ev G es) {c : Nat} (f : G c) : h c ≠ none := by
  obtain ⟨s, pl, a, b, d⟩ := x.ex
  rcases (d c).1 f with q | q
  · rw [q, a.cell]; exact fun z => by cases z
  · exact a.buf.has q
theorem t_RNew {a0 a1 : Int} {K : Option Addr × Int → H → Prop} (bad : (a0 < 1 ∨ 256 < a0 ∨ a1 < 0 ∨ 64 < a1) → K (none, 16) h)
    (good : 0 ≤ a1 → a1 ≤ 64 → ∀ n : Nat, a0 = n → 1 ≤ n → n ≤ 256 → ∀ p G h', Ref h' p 0 G (List.replicate n none) → Keeps h h' → (∀ c, G c → h c = none) → K (some ⟨p, 0, none⟩, 0) h') : m_ref11_New a0 a1 K h := by
  unfold m_ref11_New
  refine w_if (fun c => bad ?_) fun c => ?_
  · simp only [Bool.or_eq_true, decide_eq_true_eq] at c; omega
  simp only [Bool.or_eq_false_iff, decide_eq_false_iff_not] at c
  obtain ⟨n, rfl⟩ : ∃ n : Nat, a0 = n := ⟨a0.toNat, by omega⟩
  refine w_make rp_len ⟨false, ⟨0, ⟨0, 0⟩⟩, 0, 0, 0⟩ rfl rfl rfl (by omega) (by omega) fun s h1 bu k1 f1 _ => w_box fun p h2 f2 c2 k2 => ?_
  have no : ∀ {i t ks}, ¬ Has (List.replicate n none) i t ks := fun h => by
    have := List.eq_of_mem_replicate (List.mem_of_getElem? h)
    cases this
  refine good (by omega) (by omega) n rfl (by omega) (by omega) p _ h2 ⟨⟨s, _, ⟨c2, bu.keep k2⟩, ⟨by simp, fun i q e h1 h2 => ?_, fun i t ks h => (no h).elim, fun i t ks h => (no h).elim⟩, fun _ => Iff.rfl⟩, CWF.empty (by omega) (by omega)⟩ (k1.trans k2) fun c f => ?_
  · obtain rfl := List.eq_of_mem_replicate (List.mem_of_getElem? h1)
    obtain rfl := List.eq_of_mem_replicate (List.mem_of_getElem? h2)
    rfl
  · rcases f with rfl | f
    · exact k1.fresh f2
    · exact f1 c f
end
theorem PreL.one {ch : Int → List Int} {n : Int} {l : List Int} (x : PreL ch [n] l) : ∃ l1, l = n :: l1 ∧ PreL ch (ch n) l1 := by
  cases x with
  | cons a b => cases b; exact ⟨_, by rw [List.append_nil], a⟩
deriving instance DecidableEq for S_api_Token
section
variable {h : H}
theorem tok_eqB (x y : S_api_Token) : (((decide (x.Cap.Obj = y.Cap.Obj)) && (((decide (x.Cap.Pass.Hi = y.Cap.Pass.Hi)) && ((decide (x.Cap.Pass.Lo = y.Cap.Pass.Lo)) && true)) && true)) && ((decide (x.Rights = y.Rights)) && ((decide (x.Parent = y.Parent)) && true))) = decide (x = y) := by
  rw [cap_eqB]
  obtain ⟨c, r, p⟩ := x
  obtain ⟨c', r', p'⟩ := y
  rw [Bool.eq_iff_iff]
  simp only [Bool.and_eq_true, Bool.and_true, decide_eq_true_eq, S_api_Token.mk.injEq]
end
def intoV (a b : Int) : Int := if a.tmod b < 0 then a.tmod b + b else a.tmod b
theorem intoV_rng (a : Int) {b : Int} (h : 0 < b) : 0 ≤ intoV a b ∧ intoV a b < b := by
  unfold intoV
  have h1 := Int.tmod_lt_of_pos a h
  have h2 := Int.lt_tmod_of_pos a h
  split <;> omega
theorem Below.uniq {es : List En} {n : Nat} {l l' : List Int} (a : Below es n l) (b : Below es n l') : l = l' := a.pre.inj b.pre
open Classical in
noncomputable def belowOf (es : List En) (n : Nat) : List Int := if h : ∃ l, Below es n l then h.choose else []
theorem Below.eq {es : List En} {n : Nat} {l : List Int} (b : Below es n l) : belowOf es n = l := by
  unfold belowOf
  rw [dif_pos ⟨l, b⟩]
  exact (Exists.choose_spec (⟨l, b⟩ : ∃ l, Below es n l)).uniq b
theorem Below.cnt {es : List En} (w : CWF es) {n : Nat} {t ks} (hn : Has es n t ks) {l : List Int} (bl : Below es n l) : (∀ o, cnt es o = cnt (cutE l es) o + if o = t.Cap.Obj then l.length else 0) ∧ (capsG 0 es).length = (capsG 0 (cutE l es)).length + l.length := by
  obtain ⟨m, hm, hpost, hperm⟩ := bl.pre.post w.forest
  have hmem : ∀ z, z ∈ m.reverse ↔ z ∈ l := fun z => hperm.mem_iff
  have hmlen := hperm.length_eq
  have hmnd : m.reverse.Nodup := hperm.nodup_iff.2 bl.nd
  have main : ∀ j, j ≤ m.reverse.length → (∀ o, K.cnt es o = K.cnt (cutE (m.reverse.take j) es) o + if o = t.Cap.Obj then j else 0) ∧ (capsG 0 es).length = (capsG 0 (cutE (m.reverse.take j) es)).length + j := by
    intro j
    induction j with
    | zero => intro _; rw [List.take_zero, cutE_nil]; exact ⟨fun o => by simp, rfl⟩
    | succ j ih =>
      intro hj
      have hjl : j < m.reverse.length := by omega
      obtain ⟨i1, i2⟩ := ih (by omega)
      have hz := List.getElem?_eq_getElem hjl
      generalize hzz : m.reverse[j] = zm at hz
      obtain ⟨q, u, us, rfl, hu⟩ := hasN_nds.1 (bl.live _ ((hmem _).1 (List.mem_of_getElem? hz)))
      have take1 : m.reverse.take (j + 1) = m.reverse.take j ++ [(q : Int)] := by rw [List.take_add_one, hz]; rfl
      have hqS : (q : Int) ∉ m.reverse.take j := fun w => by
        have nd := hmnd
        rw [← List.take_append_drop (j + 1) m.reverse, take1] at nd
        have nd := (List.nodup_append.1 nd).1
        rw [List.nodup_append] at nd
        exact nd.2.2 _ w _ (List.mem_singleton_self _) rfl
      have hkS : ∀ k ∈ us, k ∈ m.reverse.take j := fun k hk => hpost.behind hz k (by rw [chN_nds hu]; exact hk)
      have hpS : ∀ q' : Nat, u.Parent = q' → (q' : Int) ∉ m.reverse.take j := fun q' e w' => by
        rcases w.up _ _ _ hu with z | ⟨i', v, vs, z, hi', hm', _⟩
        · omega
        · obtain rfl : q' = i' := by omega
          obtain ⟨j', hj', w''⟩ := List.mem_take_iff_getElem.1 w'
          have w3 : m.reverse[j']? = some (q' : Int) := by rw [List.getElem?_eq_getElem (by omega), w'']
          have := hpost.behind w3 (q : Int) (by rw [chN_nds hi']; exact hm')
          exact hqS (List.take_subset_take_left _ (by omega) this)
      have st := w.cutStep hu hqS hkS hpS
      have sc := st.caps
      have hob := bl.obj w hn ((hmem _).1 (List.mem_of_getElem? hz)) hu
      rw [take1]
      refine ⟨fun o => ?_, ?_⟩
      · rw [i1 o, cnt_cons sc o, hob]
        by_cases z : o = t.Cap.Obj
        · subst z; simp only [if_pos]; omega
        · have z' : ¬ t.Cap.Obj = o := fun w => z w.symm
          simp only [if_neg z, if_neg z']
      · have := sc.length_eq
        rw [List.length_cons] at this
        omega
  have := main m.reverse.length (Nat.le_refl _)
  rw [List.take_length, cutE_congr hmem es, hmlen] at this
  exact this
theorem CWF.cntObj {es : List En} (w : CWF es) {n : Nat} {t ks} (hn : Has es n t ks) (hp : t.Parent = -1) {l : List Int} (bl : Below es n l) : K.cnt es t.Cap.Obj = l.length := by
  have h1 := (bl.cnt w hn).1 t.Cap.Obj
  rw [if_pos rfl] at h1
  have h0 : K.cnt (cutE l es) t.Cap.Obj = 0 := by
    cases e : K.cnt (cutE l es) t.Cap.Obj with
    | zero => rfl
    | succ k =>
      obtain ⟨j, u, us, hj, eo⟩ := cnt_pos.1 (by omega : 0 < K.cnt (cutE l es) t.Cap.Obj)
      obtain ⟨hjl, vs, hj', _⟩ := has_cut.1 hj
      obtain ⟨r, v, ws, hr, pr, orr, d⟩ := w.rootOf hj'
      obtain rfl := w.one _ _ _ _ _ _ hn hr hp pr (orr.trans eo).symm
      exact absurd (bl.pre.mem.2 ⟨_, by simp, d⟩) hjl
  omega
theorem Below.tell {es : List En} (w : CWF es) {n : Nat} {t ks} (hn : Has es n t ks) (hp : t.Parent = -1) {l : List Int} (bl : Below es n l) {i q : Nat} {u us} (hz : l[i]? = some (q : Int)) (hu : Has es q u us) :
    (i = 0 ∧ u.Parent = -1 ∧ placeIn l u.Parent = -1) ∨ (0 < i ∧ ∃ (m a : Nat) (v : S_api_Token) (vs : List Int), m < i ∧ l[m]? = some (a : Int) ∧ Has es a v vs ∧ u.Parent = a ∧ placeIn l u.Parent = m) := by
  rcases bl.ahead w hn hz hu with ⟨rfl, rfl⟩ | ⟨h0, hm⟩
  · refine .inl ⟨?_, hp, by rw [hp]; rfl⟩
    obtain ⟨l1, e, _⟩ := bl.pre.one
    have h1 := idx_of bl.nd hz
    have h2 := idx_of bl.nd (show l[0]? = some (q : Int) by rw [e]; rfl)
    omega
  · obtain ⟨m, hm', e⟩ := List.mem_take_iff_getElem.1 hm
    have hml : l[m]? = some u.Parent := by rw [List.getElem?_eq_getElem (by omega), e]
    obtain ⟨a, v, vs, ea, ha⟩ := hasN_nds.1 (bl.live _ (List.mem_of_getElem? hml))
    refine .inr ⟨by omega, m, a, v, vs, by omega, ea ▸ hml, ha, ea, ?_⟩
    unfold placeIn
    rw [if_neg (by omega), idx_of bl.nd hml]
theorem atOut_has {es : List En} {i : Nat} {t ks} (h : Has es i t ks) : atOut es (i : Int) = (t, true) := by
  unfold atOut
  rw [(atE_has (i := (i : Int))).2 ⟨i, rfl, h⟩]
open Classical in
noncomputable def ofO (es : List En) (o : Int) : List S_api_Token := if h : ∃ n t ks, Has es n t ks ∧ t.Cap.Obj = o ∧ t.Parent = -1 then ofE es (belowOf es h.choose) else []
theorem ofO_some {es : List En} (w : CWF es) {o : Int} {n t ks l} (hn : Has es n t ks) (ho : t.Cap.Obj = o) (hp : t.Parent = -1) (bl : Below es n l) : ofO es o = ofE es l := by
  have hex : ∃ n t ks, Has es n t ks ∧ t.Cap.Obj = o ∧ t.Parent = -1 := ⟨n, t, ks, hn, ho, hp⟩
  unfold ofO
  rw [dif_pos hex]
  obtain ⟨t', ks', h1, h2, h3⟩ := hex.choose_spec
  have : hex.choose = n := w.one _ _ _ _ _ _ h1 hn h3 hp (h2.trans ho.symm)
  rw [this, bl.eq]
theorem ofO_none {es : List En} {o : Int} (hno : ∀ i t ks, Has es i t ks → t.Cap.Obj ≠ o) : ofO es o = [] := by
  unfold ofO
  rw [dif_neg]
  rintro ⟨n, t, ks, h1, h2, _⟩
  exact hno n t ks h1 h2
theorem ofO_len {es : List En} (w : CWF es) (o : Int) : (ofO es o).length ≤ es.length := by
  unfold ofO
  split
  · rename_i hex
    obtain ⟨t, ks, h1, _⟩ := hex.choose_spec
    obtain ⟨l, bl⟩ := w.ex h1
    rw [bl.eq]
    unfold ofE
    rw [List.length_map]
    exact bl.len
  · exact Nat.zero_le _
section
variable {h : H} {p : Nat} {knob : Int} {G : Nat → Prop} {es : List En}
theorem t_COfU (x : Cat h p knob G es) {o : Int} {K : Sl → H → Prop} (y : ∀ s' h', Buf cTok 5 N_api_Token h' s' (ofO es o) → Keeps h h' → (∀ c, s'.foot c → h c = none) → K s' h') : m_catalogue_Catalogue_Of (some ⟨p, 0, none⟩) o K h :=
  t_COf x (fun hno h' k => y _ h' (by rw [ofO_none hno]; exact Buf.nil) k fun c ⟨_, q, _⟩ => by cases q) fun n t ks l hn ho hp bl s' h' bu k f => y s' h' (by rw [ofO_some x.wf hn ho hp bl]; exact bu) k f
end
end Go.Proofs.YtdleanjofhghnaaDoor.K
namespace Go.Proofs.YtdleanjofhghnaaDoor.K
open Go Go.Proofs
def m_quota_New (a0 : Int) (a1 : Int) (K : (Option Addr × Int) → H → Prop) : H → Prop :=
 mIf ((((decide (a0 < 1)) || (decide (256 < a0))) || (decide (a1 < 1))) || (decide (256 < a1))) (
 K (none, 16)
 ) (
 mMakeMap fun m1 =>
 mNew 86 #[(Value.int .i64 a0), (Value.int .i64 a1), (Value.map m1)] fun ad2 =>
 K ((some ad2), 0)
 )
def x_quota_New : Cx Tryd.prog := ⟨tys, [], [], [], mixed⟩
def h_quota_New : Hint := (.seq .d (.seq (.seq (.reg (.run [3, 7, 11] (.sel 8 11 3584 (.run [15, 19, 23] .nil) (.run [15, 19, 23] .nil) (.run [27] (.sel 12 15 57344 (.run [31, 35, 39] .nil) (.run [31, 35, 39] .nil) (.run [43] (.sel 16 19 917504 (.run [47, 51, 55] .nil) (.run [47, 51, 55] .nil) .nil))))))) .d) .d))
def s_quota_New : Spec Tryd.prog := mkSpec x_quota_New 19 Tryd.f19 [(tInt .i64), (tInt .i64)] [tPtr, (tInt .i64)] false h_quota_New (fun a => m_quota_New a.1 a.2) (fun a K h => by kernel_rfl) callee19 rfl
def m_quota_Quota_Of (a0 : Option Addr) (a1 : Int) (K : (Int) → H → Prop) : H → Prop :=
 mDeref a0 fun ad1 =>
 mLoad cMap (ad1.add 2) fun x2 =>
 mLookup (eqV Tryd.prog 40 3) (Value.int .i64) 0 x2 (Value.int .i64 a1) fun r3 =>
 K r3.1
def x_quota_Quota_Of : Cx Tryd.prog := ⟨tys, [], [], [], mixed⟩
def h_quota_Quota_Of : Hint := .d
def s_quota_Quota_Of : Spec Tryd.prog := mkSpec x_quota_Quota_Of 12 Tryd.f12 [tPtr, (tInt .i64)] [(tInt .i64)] false h_quota_Quota_Of (fun a => m_quota_Quota_Of a.1 a.2) (fun a K h => by kernel_rfl) callee12 rfl
def m_quota_Quota_All (a0 : Option Addr) (K : (Int) → H → Prop) : H → Prop :=
 mDeref a0 fun ad1 =>
 mLoad cMap (ad1.add 2) fun x2 =>
 mRange x2 fun it3 =>
 mLoop (fun (rec5 : Int → H → Prop) (s4 : Int) =>
 mNext it3 fun n6 =>
 mIf n6.1 (
 mEntry (Value.int .i64) (Value.int .i64) it3 fun e7 =>
 rec5 (iAdd .i64 s4 e7.2)
 ) (
 K s4
 )
 ) 0
def x_quota_Quota_All : Cx Tryd.prog := ⟨tys, [], [], [(13, 3, 3)], mixed⟩
def h_quota_Quota_All : Hint := (.seq .d (.seq .d (.seq (.seq .d (.blk (.loop [.slot 3 (tInt .i64)] 260136 [] .d))) .d)))
def s_quota_Quota_All : Spec Tryd.prog := mkSpec x_quota_Quota_All 14 Tryd.f14 [tPtr] [(tInt .i64)] false h_quota_Quota_All (fun a => m_quota_Quota_All a) (fun a K h => by kernel_rfl) callee14 rfl
def m_quota_Quota_May (a0 : Option Addr) (a1 : Int) (K : (Int) → H → Prop) : H → Prop :=
 mDeref a0 fun ad1 =>
 mJoin (fun (s2 : Int × Int) =>
 mIf (decide (s2.2 ≤ s2.1)) (
 K 9
 ) (
 mDeref a0 fun ad8 =>
 mJoin (fun (s9 : Int × Int) =>
 mIf (decide (s9.2 ≤ s9.1)) (
 K 10
 ) (
 K 0
 )
 ) (fun j10 =>
 mBoth (
 m_quota_Quota_All a0 fun r11 =>
 mLoad (cInt .i64) (ad8.add 1) fun x12 =>
 j10 (r11, x12)
 ) (
 mLoad (cInt .i64) (ad8.add 1) fun x13 =>
 m_quota_Quota_All a0 fun r14 =>
 j10 (r14, x13)
 ))
 )
 ) (fun j3 =>
 mBoth (
 m_quota_Quota_Of a0 a1 fun r4 =>
 mLoad (cInt .i64) (ad1.add 0) fun x5 =>
 j3 (r4, x5)
 ) (
 mLoad (cInt .i64) (ad1.add 0) fun x6 =>
 m_quota_Quota_Of a0 a1 fun r7 =>
 j3 (r7, x6)
 ))
def x_quota_Quota_May : Cx Tryd.prog := ⟨tys, [s_quota_Quota_Of, s_quota_Quota_All], [], [], mixed⟩
def h_quota_Quota_May : Hint := (.seq .d (.seq (.blk (.seq (.reg (.run [0, 4, 12, 16, 20] (.join [.slot 8 (tInt .i64), .slot 12 (tInt .i64)] 4352 [] (.both 2 6 (.run [26] .nil) (.run [11] .nil)) (.run [28, 32] .nil)))) (.cond .d (.seq (.reg (.run [0, 8, 12, 16] (.join [.slot 16 (tInt .i64), .slot 20 (tInt .i64)] 1114112 [] (.both 1 5 (.run [22] .nil) (.run [7] .nil)) (.run [24, 28] .nil)))) .d)))) .d))
def s_quota_Quota_May : Spec Tryd.prog := mkSpec x_quota_Quota_May 34 Tryd.f34 [tPtr, (tInt .i64)] [(tInt .i64)] false h_quota_Quota_May (fun a => m_quota_Quota_May a.1 a.2) (fun a K h => by kernel_rfl) callee34 rfl
def m_quota_Quota_Add (a0 : Option Addr) (a1 : Int) (K : (Int) → H → Prop) : H → Prop :=
 m_quota_Quota_May a0 a1 fun r1 =>
 mIf (decide (r1 = 0)) (
 mDeref a0 fun ad2 =>
 mLoad cMap (ad2.add 2) fun x3 =>
 mLookup (eqV Tryd.prog 40 3) (Value.int .i64) 0 x3 (Value.int .i64 a1) fun r4 =>
 mMapSet (eqV Tryd.prog 40 3) x3 (Value.int .i64 a1) (Value.int .i64 (iAdd .i64 r4.1 1)) <|
 K r1
 ) (
 K r1
 )
def x_quota_Quota_Add : Cx Tryd.prog := ⟨tys, [s_quota_Quota_May], [], [], mixed⟩
def h_quota_Quota_Add : Hint := .d
def s_quota_Quota_Add : Spec Tryd.prog := mkSpec x_quota_Quota_Add 37 Tryd.f37 [tPtr, (tInt .i64)] [(tInt .i64)] false h_quota_Quota_Add (fun a => m_quota_Quota_Add a.1 a.2) (fun a K h => by kernel_rfl) callee37 rfl
end Go.Proofs.YtdleanjofhghnaaDoor.K
namespace Go.Proofs.YtdleanjofhghnaaDoor.K
open Go
theorem keyI {t : TypeId} (hu : Tryd.prog.underlying t = some (.int .i64)) : KeyEq (eqV Tryd.prog 40 t) (Value.int .i64) := fun a b => by
  show eqV Tryd.prog (39 + 1) t _ _ = _
  rw [eqV.eq_2, hu]
  rfl
structure QuotaAt (h : H) (p b : Nat) (each all : Int) (l : List (Int × Int)) : Prop where
  cell : h p = some (.cells (S_quota_Quota.cells ⟨each, all, some b⟩).toArray N_quota_Quota (0, 0))
  map : MapOf (Value.int .i64) (Value.int .i64) h b l
  ne : p ≠ b
  once : Once l
  pos : ∀ q ∈ l, 1 ≤ q.2
  bnd : asum l ≤ 256
theorem QuotaAt.keep {h h' : H} {p b : Nat} {each all : Int} {l : List (Int × Int)} (x : QuotaAt h p b each all l) (k : Keeps h h') : QuotaAt h' p b each all l := ⟨k _ _ x.cell, x.map.keep k, x.ne, x.once, x.pos, x.bnd⟩
theorem QuotaAt.but {h h' : H} {F : Nat → Prop} {p b : Nat} {each all : Int} {l : List (Int × Int)} (x : QuotaAt h p b each all l) (k : But F h h') (f1 : ¬ F p) (f2 : ¬ F b) : QuotaAt h' p b each all l := ⟨k _ _ x.cell f1, x.map.but k f2, x.ne, x.once, x.pos, x.bnd⟩
def qcnt (l : List (Int × Int)) (k : Int) : Int := (alook l k).getD 0
section
variable {h : H} {p b : Nat} {each all : Int} {l : List (Int × Int)}
theorem QuotaAt.f0 (x : QuotaAt h p b each all l) : At h ((⟨p, 0, none⟩ : Addr).add 0) (cInt .i64 each) := At.own (l1 := []) (l3 := (S_quota_Quota.cells ⟨each, all, some b⟩).drop 1) x.cell rfl
theorem QuotaAt.f1 (x : QuotaAt h p b each all l) : At h ((⟨p, 0, none⟩ : Addr).add 1) (cInt .i64 all) := At.own (l1 := (S_quota_Quota.cells ⟨each, all, some b⟩).take 1) (l3 := (S_quota_Quota.cells ⟨each, all, some b⟩).drop 2) x.cell rfl
theorem QuotaAt.f2 (x : QuotaAt h p b each all l) : At h ((⟨p, 0, none⟩ : Addr).add 2) (cMap (some b)) := At.own (l1 := (S_quota_Quota.cells ⟨each, all, some b⟩).take 2) (l3 := []) x.cell rfl
theorem qcnt_nonneg (x : ∀ q ∈ l, 1 ≤ q.2) (k : Int) : 0 ≤ qcnt l k := by
  unfold qcnt
  cases e : alook l k with
  | none => exact Int.le_refl _
  | some v => have h : (1 : Int) ≤ v := x _ (alook_mem e); show (0 : Int) ≤ v; omega
theorem qcnt_le (x : ∀ q ∈ l, 1 ≤ q.2) (k : Int) : qcnt l k ≤ asum l := by
  have := asum_del k l
  have h2 := asum_nonneg (l := adel l k) fun q hq => x q (adel_sub k l q hq)
  unfold qcnt
  omega
theorem t_QNew {each all : Int} {K : Option Addr × Int → H → Prop} (bad : (each < 1 ∨ 256 < each ∨ all < 1 ∨ 256 < all) → K (none, 16) h)
    (good : 1 ≤ each → each ≤ 256 → 1 ≤ all → all ≤ 256 → ∀ p b h', QuotaAt h' p b each all [] → Keeps h h' → h p = none → h b = none → K (some ⟨p, 0, none⟩, 0) h') : m_quota_New each all K h := by
  unfold m_quota_New
  refine w_if (fun c => bad ?_) fun c => ?_
  · simp only [Bool.or_eq_true, decide_eq_true_eq] at c; omega
  · simp only [Bool.or_eq_false_iff, decide_eq_false_iff_not] at c
    refine w_makeMap (Value.int .i64) (Value.int .i64) fun b h1 f1 x1 k1 => w_new fun p fp => ?_
    have hb : ∃ o, h1 b = some o := by obtain ⟨_, _, e, _⟩ := x1.ex; exact ⟨_, e⟩
    refine good (by omega) (by omega) (by omega) (by omega) p b _ ⟨upd_same _ _ _, x1.keep (.new fp), fun e => ?_, List.nodup_nil, fun q hq => (by cases hq), by decide⟩ (k1.trans (.new fp)) (k1.fresh fp) f1
    subst e; obtain ⟨o, e⟩ := hb; rw [fp] at e; cases e
theorem t_QOf (x : QuotaAt h p b each all l) {k : Int} {K : Int → H → Prop} (y : K (qcnt l k) h) : m_quota_Quota_Of (some ⟨p, 0, none⟩) k K h := by
  unfold m_quota_Quota_Of
  exact w_deref (w_load x.f2 (w_lookup (keyI (by kernel_rfl)) x.map y))
theorem t_QAll (x : QuotaAt h p b each all l) {K : Int → H → Prop} (y : ∀ h', Keeps h h' → K (asum l) h') : m_quota_Quota_All (some ⟨p, 0, none⟩) K h := by
  unfold m_quota_Quota_All
  refine w_deref (w_load x.f2 (w_range x.map fun it h1 f1 it1 k1 => ?_))
  have hne : it.block ≠ b := fun e => by
    obtain ⟨_, _, z, _⟩ := x.map.ex
    rw [e, z] at f1; cases f1
  refine w_for l.length (fun j s h' => ∃ rest at_, IterOf (Value.int .i64) (Value.int .i64) h' it b l rest at_ ∧ rest.length + j = l.length ∧ s + asum rest = asum l ∧ 0 ≤ s ∧ (∀ q ∈ rest, 1 ≤ q.2) ∧ But (· = it.block) h1 h') ?_ ⟨l, none, it1, rfl, by omega, Int.le_refl _, x.pos, .refl _ _⟩
  rintro rec j s h2 hj ⟨rest, at_, it2, hl, hs, hs0, hp, b2⟩ more
  refine w_next it2 hne (fun e => w_ifF rfl ?_) fun q rest' h3 pm it3 b3 d3 => w_ifT rfl (w_entry it3 ?_)
  · subst e
    have : s = asum l := by simpa [asum] using hs
    subst this
    exact y h2 (k1.but b2 fun n e => by subst e; exact f1)
  · have e1 := asum_perm pm
    have e2 := pm.length_eq
    have hp' : ∀ z ∈ q :: rest', 1 ≤ z.2 := fun z hz => hp z (pm.symm.subset hz)
    have h0 := asum_nonneg fun z hz => hp' z (List.mem_cons_of_mem _ hz)
    have h1q := hp' q (List.mem_cons_self ..)
    have hb := x.bnd
    simp only [asum, List.length_cons] at e1 e2
    refine more _ _ (by omega) ⟨rest', some q, it3, by omega, ?_, ?_, fun z hz => hp' z (List.mem_cons_of_mem _ hz), b2.trans b3 fun _ f => .inl f⟩
    · rw [iAdd_eq (by omega) (by omega)]; omega
    · rw [iAdd_eq (by omega) (by omega)]; omega
def mayOf (each all : Int) (l : List (Int × Int)) (k : Int) : Int := if each ≤ qcnt l k then 9 else if all ≤ asum l then 10 else 0
theorem t_QMay (x : QuotaAt h p b each all l) {k : Int} {K : Int → H → Prop} (y : ∀ h', Keeps h h' → K (mayOf each all l k) h') : m_quota_Quota_May (some ⟨p, 0, none⟩) k K h := by
  unfold m_quota_Quota_May
  unfold mayOf at y
  refine w_deref (w_joinV (qcnt l k, each) (fun j hj => w_both (t_QOf x (w_load x.f0 hj)) (w_load x.f0 (t_QOf x hj))) ?_)
  refine w_if' (fun c => ?_) fun c => ?_
  · have c : each ≤ qcnt l k := c
    simp only [if_pos c] at y
    exact y h (.refl _)
  have c : ¬ each ≤ qcnt l k := c
  simp only [if_neg c] at y
  refine w_deref (w_joinP (fun z h' => z = (asum l, all) ∧ Keeps h h') (fun j hj => w_both (t_QAll x fun h' k' => w_load (x.keep k').f1 (hj _ _ ⟨rfl, k'⟩)) (w_load x.f1 (t_QAll x fun h' k' => hj _ _ ⟨rfl, k'⟩))) ?_)
  rintro _ h' ⟨rfl, k'⟩
  refine w_if' (fun c2 => ?_) fun c2 => ?_
  · have c2 : all ≤ asum l := c2
    simp only [if_pos c2] at y
    exact y h' k'
  · have c2 : ¬ all ≤ asum l := c2
    simp only [if_neg c2] at y
    exact y h' k'
def addL (each all : Int) (l : List (Int × Int)) (k : Int) : List (Int × Int) := if mayOf each all l k = 0 then aset l k (qcnt l k + 1) else l
theorem may_zero {each all : Int} {l : List (Int × Int)} {k : Int} (h : mayOf each all l k = 0) : qcnt l k < each ∧ asum l < all := by
  unfold mayOf at h
  split at h
  · cases h
  · split at h
    · cases h
    · omega
structure Chg (b : Nat) (h h' : H) : Prop where
  but : But (· = b) h h'
  dom : ∀ c, h' c = none → h c = none
theorem Chg.keeps {b : Nat} {h h' : H} (k : Keeps h h') : Chg b h h' := ⟨.of k, fun _ e => k.fresh e⟩
theorem Chg.trans {b : Nat} {h h1 h2 : H} (x : Chg b h h1) (y : Chg b h1 h2) : Chg b h h2 := ⟨x.but.trans y.but fun _ f => .inl f, fun c e => x.dom c (y.dom c e)⟩
theorem QuotaAt.set (x : QuotaAt h p b each all l) {h' : H} {k v : Int} (m : MapOf (Value.int .i64) (Value.int .i64) h' b (aset l k v)) (bt : But (· = b) h h') (hv : 1 ≤ v) (hs : asum l - qcnt l k + v ≤ 256) : QuotaAt h' p b each all (aset l k v) :=
  ⟨bt _ _ x.cell x.ne, m, x.ne, x.once.set _ _, fun q hq => (aset_mem k v l q hq).elim (fun e => by rw [e]; exact hv) (x.pos q), by rw [asum_set]; exact hs⟩
theorem t_QAdd (x : QuotaAt h p b each all l) (ha : all ≤ 256) {k : Int} {K : Int → H → Prop} (y : ∀ h', QuotaAt h' p b each all (addL each all l k) → Chg b h h' → K (mayOf each all l k) h') : m_quota_Quota_Add (some ⟨p, 0, none⟩) k K h := by
  unfold m_quota_Quota_Add
  refine t_QMay x fun h1 k1 => ?_
  have x1 := x.keep k1
  unfold addL at y
  refine w_if' (fun c => ?_) fun c => ?_
  · simp only [if_pos c] at y
    obtain ⟨m1, m2⟩ := may_zero c
    have c0 := qcnt_nonneg x.pos k
    have c1 := qcnt_le x.pos k
    have hb := x.bnd
    refine w_deref (w_load x1.f2 (w_lookup (keyI (by kernel_rfl)) x1.map ?_))
    show mMapSet _ _ _ (Value.int .i64 (iAdd .i64 (qcnt l k) 1)) _ h1
    rw [iAdd_eq (by omega) (by omega)]
    refine w_mapSet (keyI (by kernel_rfl)) x1.map rfl rfl fun h2 mp b2 d2 => ?_
    exact y h2 (x1.set mp b2 (by omega) (by omega)) ((Chg.keeps k1).trans ⟨b2, d2⟩)
  · simp only [if_neg c] at y
    exact y h1 x1 (.keeps k1)
end
section
variable {h : H} {p b : Nat} {each all : Int} {l : List (Int × Int)}
theorem cnt_set (k v k' : Int) (l : List (Int × Int)) : qcnt (aset l k v) k' = if k' = k then v else qcnt l k' := by
  unfold qcnt
  rw [alook_set]
  split <;> rfl
end
end Go.Proofs.YtdleanjofhghnaaDoor.K
namespace Go.Proofs.YtdleanjofhghnaaDoor.K
open Go Go.Proofs
def m_ref12_New (a0 : Int) (a1 : Int) (K : (Option Addr × Int) → H → Prop) : H → Prop :=
 mIf ((((decide (a0 < 1)) || (decide (256 < a0))) || (decide (a1 < 1))) || (decide (256 < a1))) (
 K (none, 16)
 ) (
 mNew 111 #[(Value.int .i64 a0), (Value.int .i64 a1), (Sl.val Sl.nil)] fun ad1 =>
 K ((some ad1), 0)
 )
def x_ref12_New : Cx Tryd.prog := ⟨tys, [], [], [], mixed⟩
def h_ref12_New : Hint := (.seq .d (.seq (.seq (.reg (.run [3, 7, 11] (.sel 8 11 3584 (.run [15, 19, 23] .nil) (.run [15, 19, 23] .nil) (.run [27] (.sel 12 15 57344 (.run [31, 35, 39] .nil) (.run [31, 35, 39] .nil) (.run [43] (.sel 16 19 917504 (.run [47, 51, 55] .nil) (.run [47, 51, 55] .nil) .nil))))))) .d) .d))
def s_ref12_New : Spec Tryd.prog := mkSpec x_ref12_New 22 Tryd.f22 [(tInt .i64), (tInt .i64)] [tPtr, (tInt .i64)] false h_ref12_New (fun a => m_ref12_New a.1 a.2) (fun a K h => by kernel_rfl) callee22 rfl
end Go.Proofs.YtdleanjofhghnaaDoor.K
namespace Go.Proofs.YtdleanjofhghnaaDoor.K
open Go
structure RefQ (h : H) (r : Nat) (each most : Int) (s : Sl) (L : List Int) : Prop where
  cell : h r = some (.cells (S_ref12_Quota.cells ⟨each, most, s⟩).toArray N_ref12_Quota (0, 0))
  buf : Buf (cInt .i64) 1 N_int h s L
  ne : ¬ s.foot r
  len : L.length ≤ 256
def rmayOf (each most : Int) (L : List Int) (k : Int) : Int := if each ≤ (L.count k : Int) then 9 else if most ≤ (L.length : Int) then 10 else 0
section
variable {h : H} {r : Nat} {each most : Int} {s : Sl} {L : List Int}
theorem RefQ.but {h' : H} {F : Nat → Prop} (x : RefQ h r each most s L) (k : But F h h') (f1 : ¬ F r) (f2 : ∀ c, s.foot c → ¬ F c) : RefQ h' r each most s L :=
  ⟨k _ _ x.cell f1, x.buf.but k fun a ha => f2 _ ⟨a, ha, rfl⟩, x.ne, x.len⟩
theorem t_QRNew {each most : Int} {K : Option Addr × Int → H → Prop} (bad : (each < 1 ∨ 256 < each ∨ most < 1 ∨ 256 < most) → K (none, 16) h)
    (good : 1 ≤ each → each ≤ 256 → 1 ≤ most → most ≤ 256 → ∀ r h', RefQ h' r each most Sl.nil [] → Keeps h h' → h r = none → K (some ⟨r, 0, none⟩, 0) h') : m_ref12_New each most K h := by
  unfold m_ref12_New
  refine w_if (fun c => bad ?_) fun c => ?_
  · simp only [Bool.or_eq_true, decide_eq_true_eq] at c; omega
  · simp only [Bool.or_eq_false_iff, decide_eq_false_iff_not] at c
    exact w_new fun r fr => good (by omega) (by omega) (by omega) (by omega) r _ ⟨upd_same _ _ _, Buf.nil, (fun ⟨a, ha, _⟩ => by cases ha), by decide⟩ (.new fr) fr
end
def RelQ (l : List (Int × Int)) (L : List Int) : Prop := (∀ k, qcnt l k = (L.count k : Int)) ∧ asum l = (L.length : Int)
theorem RelQ.code {each all : Int} {l : List (Int × Int)} {L : List Int} (x : RelQ l L) (k : Int) : mayOf each all l k = rmayOf each all L k := by
  unfold mayOf rmayOf
  rw [x.1 k, x.2]
theorem RelQ.add {each all : Int} {l : List (Int × Int)} {L : List Int} (x : RelQ l L) (k : Int) : RelQ (addL each all l k) (if rmayOf each all L k = 0 then L ++ [k] else L) := by
  unfold addL
  rw [x.code k]
  split
  · refine ⟨fun k' => ?_, ?_⟩
    · rw [cnt_set, List.count_append, x.1 k, List.count_singleton]
      by_cases e : k' = k
      · subst e; simp
      · rw [if_neg e, x.1 k', if_neg (by simpa using fun z => e z.symm)]; simp
    · rw [asum_set, List.length_append, x.2]
      show (L.length : Int) - qcnt l k + (qcnt l k + 1) = _
      simp; omega
  · exact x
abbrev Owner := Nat → Option Nat
structure OC (i : Nat) (o o' : Owner) (h h' : H) : Prop where
  but : ∀ c x, h c = some x → o c ≠ some i → h' c = some x
  own : ∀ c t, o c = some t → o' c = some t
  new : ∀ c, o' c ≠ none → o c ≠ none ∨ h c = none
  dom : ∀ c, h' c = none → h c = none
structure OT (o o' : Owner) (h h' : H) : Prop where
  but : ∀ c x, h c = some x → o c = none → h' c = some x
  own : ∀ c t, o c = some t → o' c = some t
  new : ∀ c, o' c ≠ none → o c ≠ none ∨ h c = none
  dom : ∀ c, h' c = none → h c = none
def Owns (o : Owner) (h : H) : Prop := ∀ c, o c ≠ none → h c ≠ none
section
variable {i : Nat} {o o' o'' : Owner} {h h' h'' : H}
theorem OC.ot (k : OC i o o' h h') : OT o o' h h' := ⟨fun c x e n => k.but c x e (by rw [n]; simp), k.own, k.new, k.dom⟩
theorem OT.trans (x : OT o o' h h') (y : OT o' o'' h' h'') : OT o o'' h h'' := by
  refine ⟨fun c z e n => ?_, fun c t e => y.own c t (x.own c t e), fun c e => ?_, fun c e => x.dom c (y.dom c e)⟩
  · have h1 := x.but c z e n
    refine y.but c z h1 ?_
    cases q : o' c with
    | none => rfl
    | some t => exact (x.new c (by rw [q]; simp)).elim (fun q => (q n).elim) fun q => by rw [q] at e; cases e
  · rcases y.new c e with q | q
    · exact x.new c q
    · exact .inr (x.dom c q)
theorem OC.keeps (k : Keeps h h') : OC i o o h h' := ⟨fun c x e _ => k c x e, fun _ _ e => e, fun _ e => .inl e, fun _ e => k.fresh e⟩
theorem OC.bt (k : OC i o o' h h') : But (fun c => o c = some i) h h' := fun c x e n => k.but c x e n
open Classical in
/-- Part 'i' owns these blocks from now on. -/
noncomputable def give (o : Owner) (G : Nat → Prop) (i : Nat) : Owner := fun c => if o c = none ∧ G c then some i else o c
theorem give_old {G : Nat → Prop} {c t : Nat} (e : o c = some t) : give o G i c = some t := by
  unfold give; rw [if_neg (by rw [e]; simp)]; exact e
theorem give_new {G : Nat → Prop} {c : Nat} (g : G c) (e : o c = none ∨ o c = some i) : give o G i c = some i := by
  rcases e with e | e
  · unfold give; rw [if_pos ⟨e, g⟩]
  · exact give_old e
theorem give_ne {G : Nat → Prop} {c : Nat} (e : give o G i c ≠ none) : o c ≠ none ∨ G c := by
  by_cases q : o c = none ∧ G c
  · exact .inr q.2
  · unfold give at e; rw [if_neg q] at e; exact .inl e
theorem OC.of {G G' : Nat → Prop} (ow : Owns o h) (hG : ∀ c, G c → o c = some i) (k : KChg G G' h h') (has : ∀ c, G' c → h' c ≠ none) :
    OC i o (give o G' i) h h' ∧ Owns (give o G' i) h' ∧ ∀ c, G' c → give o G' i c = some i := by
  refine ⟨⟨fun c x e n => k.but c x e fun g => n (hG c g), fun c t e => give_old e, fun c e => ?_, k.dom⟩, fun c e => ?_, fun c g => give_new g ?_⟩
  · rcases give_ne e with q | q
    · exact .inl q
    · rcases k.foot c q with z | z
      · exact .inl (by rw [hG c z]; simp)
      · exact .inr z
  · rcases give_ne e with q | q
    · exact fun z => ow c q (k.dom c z)
    · exact has c q
  · rcases k.foot c g with z | z
    · exact .inr (hG c z)
    · cases q : o c with
      | none => exact .inl rfl
      | some t => exact absurd z (ow c (by rw [q]; simp))
theorem OC.fresh {G : Nat → Prop} (ow : Owns o h) (k : Keeps h h') (f : ∀ c, G c → h c = none) (has : ∀ c, G c → h' c ≠ none) :
    OC i o (give o G i) h h' ∧ Owns (give o G i) h' ∧ ∀ c, G c → give o G i c = some i :=
  OC.of (G := fun _ => False) ow (fun _ q => q.elim) ⟨.of k, fun c g => .inr (f c g), fun _ e => k.fresh e⟩ has
theorem Owns.keep (ow : Owns o h) (k : Keeps h h') : Owns o h' := fun c e z => ow c e (k.fresh z)
end
def CatO (h : H) (o : Owner) (i p : Nat) (es : List En) : Prop := ∃ knob G, Cat h p knob G es ∧ ∀ c, G c → o c = some i
def RefO (h : H) (o : Owner) (i p ev : Nat) (es : List En) : Prop := ∃ G, Ref h p ev G es ∧ ∀ c, G c → o c = some i
def QuoO (h : H) (o : Owner) (i p : Nat) (each all : Int) (l : List (Int × Int)) : Prop := ∃ b, QuotaAt h p b each all l ∧ o p = some i ∧ o b = some i
def RqO (h : H) (o : Owner) (i r : Nat) (each most : Int) (L : List Int) : Prop := ∃ s, RefQ h r each most s L ∧ o r = some i ∧ ∀ c, s.foot c → o c = some i
section
variable {i j : Nat} {o o' : Owner} {h h' : H} {p r s q ev : Nat} {es : List En} {each all most next : Int} {np : Nat} {l : List (Int × Int)} {L : List Int} {ob : List (Int × List UInt8)}
theorem CatO.oc (x : CatO h o i p es) (k : OC j o o' h h') (ne : i ≠ j) : CatO h' o' i p es := by
  obtain ⟨knob, G, a, b⟩ := x
  exact ⟨knob, G, a.but k.bt fun c e g => ne (by have := b c g; rw [e] at this; exact (Option.some.inj this).symm), fun c g => k.own _ _ (b c g)⟩
theorem RefO.oc (x : RefO h o i p ev es) (k : OC j o o' h h') (ne : i ≠ j) : RefO h' o' i p ev es := by
  obtain ⟨G, a, b⟩ := x
  exact ⟨G, a.but k.bt fun c e g => ne (by have := b c g; rw [e] at this; exact (Option.some.inj this).symm), fun c g => k.own _ _ (b c g)⟩
theorem QuoO.oc (x : QuoO h o i p each all l) (k : OC j o o' h h') (ne : i ≠ j) : QuoO h' o' i p each all l := by
  obtain ⟨b, a, b1, b2⟩ := x
  exact ⟨b, a.but k.bt (fun e => ne (by rw [b1] at e; exact Option.some.inj e)) (fun e => ne (by rw [b2] at e; exact Option.some.inj e)), k.own _ _ b1, k.own _ _ b2⟩
theorem RqO.oc (x : RqO h o i r each most L) (k : OC j o o' h h') (ne : i ≠ j) : RqO h' o' i r each most L := by
  obtain ⟨s, a, b1, b2⟩ := x
  exact ⟨s, a.but k.bt (fun e => ne (by rw [b1] at e; exact Option.some.inj e)) (fun c f e => ne (by rw [b2 c f] at e; exact Option.some.inj e)), k.own _ _ b1, fun c f => k.own _ _ (b2 c f)⟩
theorem o_find (x : CatO h o i p es) {c : S_api_Cap} {K : Int × Bool → H → Prop} (y : K (((findE es c).map fun n : Nat => (n : Int)).getD 0, (findE es c).isSome) h) : m_catalogue_Catalogue_Find (some ⟨p, 0, none⟩) c K h := by
  obtain ⟨_, _, a, _⟩ := x; exact t_CFind a y
theorem o_at (x : CatO h o i p es) {n : Int} {K : S_api_Token × Bool → H → Prop} (y : K (atOut es n) h) : m_catalogue_Catalogue_At (some ⟨p, 0, none⟩) n K h := by
  obtain ⟨_, _, a, _⟩ := x; exact t_CAt a y
theorem CatO.wf (x : CatO h o i p es) : CWF es := by obtain ⟨_, _, a, _⟩ := x; exact a.wf
theorem o_of (x : CatO h o i p es) {n : Int} {K : Sl → H → Prop} (y : ∀ s' h', Buf cTok 5 N_api_Token h' s' (ofO es n) → Keeps h h' → (∀ c, s'.foot c → h c = none) → K s' h') : m_catalogue_Catalogue_Of (some ⟨p, 0, none⟩) n K h := by
  obtain ⟨_, _, a, _⟩ := x; exact t_COfU a y
theorem o_root (x : CatO h o i p es) (ow : Owns o h) {c : S_api_Cap} {r : Int} {K : Int × Int → H → Prop} (y : ∀ o' h', CatO h' o' i p (rootOut es c r).2 → OC i o o' h h' → Owns o' h' → K (rootOut es c r).1 h') : m_catalogue_Catalogue_Root (some ⟨p, 0, none⟩) c r K h := by
  obtain ⟨knob, G, a, b⟩ := x
  refine t_CRoot a fun G' h' a' k => ?_
  obtain ⟨k1, k2, k3⟩ := OC.of ow b k fun c g => a'.has g
  exact y _ h' ⟨knob, G', a', k3⟩ k1 k2
theorem o_child (x : CatO h o i p es) (ow : Owns o h) {n : Int} {c : S_api_Cap} {r : Int} {K : Int × Int → H → Prop} (y : ∀ o' h', CatO h' o' i p (childOut es n c r).2 → OC i o o' h h' → Owns o' h' → K (childOut es n c r).1 h') : m_catalogue_Catalogue_Child (some ⟨p, 0, none⟩) n c r K h := by
  obtain ⟨knob, G, a, b⟩ := x
  refine t_CChild a fun G' h' a' k => ?_
  obtain ⟨k1, k2, k3⟩ := OC.of ow b k fun c g => a'.has g
  exact y _ h' ⟨knob, G', a', k3⟩ k1 k2
theorem Chg.oc {b : Nat} (ow : Owns o h) (k : Chg b h h') (e : o b = some i) : OC i o o h h' ∧ Owns o h' := ⟨⟨fun c x hc n => k.but c x hc fun q => n (by (have q : c = b := q); rw [q, e]), fun _ _ q => q, fun _ q => .inl q, k.dom⟩, fun c q z => ow c q (k.dom c z)⟩
theorem o_qadd (x : QuoO h o i p each all l) (ow : Owns o h) (ha : all ≤ 256) {n : Int} {K : Int → H → Prop} (y : ∀ h', QuoO h' o i p each all (addL each all l n) → OC i o o h h' → Owns o h' → K (mayOf each all l n) h') : m_quota_Quota_Add (some ⟨p, 0, none⟩) n K h := by
  obtain ⟨b, a, b1, b2⟩ := x
  refine t_QAdd a ha fun h' a' k => ?_
  obtain ⟨k1, k2⟩ := k.oc ow b2
  exact y h' ⟨b, a', b1, b2⟩ k1 k2
theorem o_qof (x : QuoO h o i p each all l) {n : Int} {K : Int → H → Prop} (y : K (qcnt l n) h) : m_quota_Quota_Of (some ⟨p, 0, none⟩) n K h := by
  obtain ⟨_, a, _⟩ := x; exact t_QOf a y
theorem o_qall (x : QuoO h o i p each all l) {K : Int → H → Prop} (y : ∀ h', Keeps h h' → K (asum l) h') : m_quota_Quota_All (some ⟨p, 0, none⟩) K h := by
  obtain ⟨_, a, _⟩ := x; exact t_QAll a y
end
end Go.Proofs.YtdleanjofhghnaaDoor.K
namespace Go.Proofs.YtdleanjofhghnaaDoor.K
open Go Go.Proofs
def m_wide_cut (a0 : Int) (a1 : Int) (K : (Int) → H → Prop) : H → Prop :=
 mIf (decide (a1 ≤ 0)) (
 K 0
 ) (
 mIf (decide (64 ≤ a1)) (
 K a0
 ) (
 mNN a1 <|
 K (iAnd .u64 a0 (iSub .u64 (iShl .u64 1 a1) 1))
 )
 )
def x_wide_cut : Cx Tryd.prog := ⟨tys, [], [], [], mixed⟩
def h_wide_cut : Hint := .d
def s_wide_cut : Spec Tryd.prog := mkSpec x_wide_cut 47 Tryd.f47 [(tInt .u64), (tInt .i64)] [(tInt .u64)] true h_wide_cut (fun a => m_wide_cut a.1 a.2) (fun a K h => by kernel_rfl) callee47 rfl
def m_wide_Cut (a0 : S_api_Word) (a1 : Int) (K : (S_api_Word) → H → Prop) : H → Prop :=
 mPure (m_wide_cut a0.Hi (iSub .i64 (iMin (iMax a1 0) 128) 64)) fun r1 =>
 mPure (m_wide_cut a0.Lo (iMin (iMax a1 0) 128)) fun r2 =>
 K (⟨r1, r2⟩ : S_api_Word)
def x_wide_Cut : Cx Tryd.prog := ⟨tys, [s_wide_cut], [2, 4], [], mixed⟩
def h_wide_Cut : Hint := (.seq .d (.seq .d (.seq (.reg (.run [0, 8, 12, 20, 28, 5, 16, 25, 32, 36, 43] .nil)) .d)))
def s_wide_Cut : Spec Tryd.prog := mkSpec x_wide_Cut 28 Tryd.f28 [S_api_Word.ty, (tInt .i64)] [S_api_Word.ty] true h_wide_Cut (fun a => m_wide_Cut a.1 a.2) (fun a K h => by kernel_rfl) callee28 rfl
end Go.Proofs.YtdleanjofhghnaaDoor.K
namespace Go.Proofs.YtdleanjofhghnaaDoor.K
open Go
theorem word_len : ∀ x : S_api_Word, (S_api_Word.cells x).length = 2 := fun _ => rfl
theorem word_plain : ∀ x : S_api_Word, (S_api_Word.cells x).all plainVal = true := fun _ => rfl
def wordOf (n : Nat) : S_api_Word := ⟨((n / 2 ^ 64 : Nat) : Int), ((n % 2 ^ 64 : Nat) : Int)⟩
def valW (hi lo : Nat) : Nat := 2 ^ 64 * hi + lo
theorem valW_lt {hi lo : Nat} (h1 : hi < 2 ^ 64) (h2 : lo < 2 ^ 64) : valW hi lo < 2 ^ 128 := by unfold valW; omega
theorem wordOf_val {hi lo : Nat} (h2 : lo < 2 ^ 64) : wordOf (valW hi lo) = ⟨(hi : Int), (lo : Int)⟩ := by
  unfold wordOf valW
  rw [show (2 ^ 64 * hi + lo) / 2 ^ 64 = hi by omega, show (2 ^ 64 * hi + lo) % 2 ^ 64 = lo by omega]
def wc (w : Int) : Nat := (min (max w 0) 128).toNat
theorem wc_le (w : Int) : wc w ≤ 128 := by unfold wc; omega
theorem wc_eq (w : Int) : iMin (iMax w 0) 128 = (wc w : Int) := by
  unfold iMin iMax wc
  split <;> split <;> omega
theorem two_le {a b : Nat} (h : a ≤ b) : 2 ^ a ≤ 2 ^ b := Nat.pow_le_pow_right (by decide) h
section
variable {h : H}
theorem p_cut {K : Int → H → Prop} {x : Nat} {b : Int} (hx : x < 2 ^ 64) (k : K ((x % 2 ^ (min b.toNat 64) : Nat) : Int) h) : m_wide_cut (x : Int) b K h := by
  unfold m_wide_cut
  refine w_if' (fun c => ?_) fun c => w_if' (fun c2 => ?_) fun c2 => ?_
  · rw [show min b.toNat 64 = 0 by omega, Nat.pow_zero, Nat.mod_one] at k; exact k
  · rw [show min b.toNat 64 = 64 by omega, Nat.mod_eq_of_lt hx] at k; exact k
  · refine w_nn (by omega) ?_
    obtain ⟨n, rfl⟩ := Int.eq_ofNat_of_zero_le (show 0 ≤ b by omega)
    rw [show min (n : Int).toNat 64 = n by omega] at k
    rw [u_low hx (by omega)]; exact k
theorem wordOf_mod (n c : Nat) (hc : c ≤ 128) : wordOf (n % 2 ^ c) = ⟨((n / 2 ^ 64 % 2 ^ (c - 64) : Nat) : Int), ((n % 2 ^ 64 % 2 ^ (min c 64) : Nat) : Int)⟩ := by
  unfold wordOf
  by_cases h : c ≤ 64
  · have h1 : n % 2 ^ c < 2 ^ 64 := Nat.lt_of_lt_of_le (Nat.mod_lt _ (Nat.two_pow_pos c)) (two_le h)
    rw [Nat.div_eq_of_lt h1, Nat.mod_eq_of_lt h1, show c - 64 = 0 by omega, Nat.min_eq_left h, Nat.mod_mod_of_dvd _ (Nat.pow_dvd_pow 2 h), Nat.pow_zero, Nat.mod_one]
  · have e : 2 ^ c = 2 ^ 64 * 2 ^ (c - 64) := by rw [← Nat.pow_add]; congr 1; omega
    rw [Nat.min_eq_right (by omega), Nat.mod_mod, e, Nat.mod_mul_right_div_self, Nat.mod_mul_right_mod]
theorem p_Cut {K : S_api_Word → H → Prop} {n : Nat} {w : Int} (hn : n < 2 ^ 128) (k : K (wordOf (n % 2 ^ wc w)) h) : m_wide_Cut (wordOf n) w K h := by
  unfold m_wide_Cut
  have hc := wc_le w
  rw [wc_eq, iSub_eq (by omega) (by omega)]
  refine w_pure _ (fun _ _ q => p_cut (by omega) q) (w_pure _ (fun _ _ q => p_cut (by omega) q) ?_)
  rw [wordOf_mod _ _ hc] at k
  rw [show min ((wc w : Int) - 64).toNat 64 = wc w - 64 by omega, show min (wc w : Int).toNat 64 = min (wc w) 64 by omega]
  exact k
end
abbrev cW := S_api_Word.cells
def GoodW (x : S_api_Word) : Prop := ∃ n : Nat, n < 2 ^ 128 ∧ x = wordOf n
def cutW (w : Int) (x : S_api_Word) : S_api_Word := wordOf (valW x.Hi.toNat x.Lo.toNat % 2 ^ wc w)
theorem valW_of (n : Nat) : valW (wordOf n).Hi.toNat (wordOf n).Lo.toNat = n := by
  unfold valW wordOf
  rw [Int.toNat_natCast, Int.toNat_natCast]
  omega
section
variable {h : H}
theorem w_WCut {x : S_api_Word} (g : GoodW x) {w : Int} {k : S_api_Word → H → Prop} (y : k (cutW w x) h) : mPure (m_wide_Cut x w) k h := by
  obtain ⟨n, hn, rfl⟩ := g
  refine w_pure _ (fun _ _ q => p_Cut hn q) ?_
  unfold cutW at y
  rwa [valW_of] at y
end
end Go.Proofs.YtdleanjofhghnaaDoor.K
namespace Go.Proofs.YtdleanjofhghnaaDoor.K
open Go Go.Proofs
def m_draws_New (a0 : Sl) (a1 : Int) (K : (Option Addr × Int) → H → Prop) : H → Prop :=
 mIf ((decide (a1 < 1)) || (decide (128 < a1))) (
 K (none, 18)
 ) (
 mIf (decide (4096 < (a0.len : Int))) (
 K (none, 23)
 ) (
 mNew 83 #[(Sl.val Sl.nil), (Value.int .i64 0)] fun ad1 =>
 mLoop (fun (rec3 : Int → H → Prop) (s2 : Int) =>
 mIf (decide (s2 < (a0.len : Int))) (
 mIdx a0 s2 2 fun ad4 =>
 mLoad S_api_Word.cells ad4 fun x5 =>
 mPure (m_wide_Cut x5 a1) fun r6 =>
 mLoad cSl (ad1.add 0) fun x7 =>
 mApp 30 2 16 #[(Value.int .u64 0), (Value.int .u64 0)] 1 [(Value.int .u64 r6.Hi), (Value.int .u64 r6.Lo)] x7 fun s8 =>
 mStore (ad1.add 0) [(Sl.val s8)] <|
 rec3 (iAdd .i64 s2 1)
 ) (
 K ((some ad1), 0)
 )
 ) 0
 )
 )
def x_draws_New : Cx Tryd.prog := ⟨tys, [s_wide_Cut], [8, 34], [], mixed⟩
def h_draws_New : Hint := (.seq .d (.seq (.seq (.reg (.run [3, 7, 11] (.sel 11 14 28672 (.run [15, 19, 23] .nil) (.run [15, 19, 23] .nil) .nil))) .d) (.seq .d (.seq .d (.seq (.seq .d (.blk (.loop [.slot 22 (tInt .i64)] 549751619840 [] (.seq .d (.seq .d (.seq (.blk (.seq .d (.reg (.run [0, 4, 8, 12, 24, 21, 28, 18, 34, 39, 40, 44, 51] .nil)))) .d)))))) .d)))))
def s_draws_New : Spec Tryd.prog := mkSpec x_draws_New 17 Tryd.f17 [tSl, (tInt .i64)] [tPtr, (tInt .i64)] false h_draws_New (fun a => m_draws_New a.1 a.2) (fun a K h => by kernel_rfl) callee17 rfl
def m_draws_words_from (a0 : Sl) (a1 : Int) (K : (Sl) → H → Prop) : H → Prop :=
 mCut a0 a1 (a0.len : Int) 2 fun s1 =>
 K s1
def x_draws_words_from : Cx Tryd.prog := ⟨tys, [], [], [], mixed⟩
def h_draws_words_from : Hint := .d
def s_draws_words_from : Spec Tryd.prog := mkSpec x_draws_words_from 27 Tryd.f27 [tSl, (tInt .i64)] [tSl] true h_draws_words_from (fun a => m_draws_words_from a.1 a.2) (fun a K h => by kernel_rfl) callee27 rfl
def m_draws_Draws_Draw (a0 : Option Addr) (K : (S_api_Word × Int) → H → Prop) : H → Prop :=
 mDeref a0 fun ad1 =>
 mDeref a0 fun ad2 =>
 mLoad cSl (ad1.add 0) fun x3 =>
 mLoad (cInt .i64) (ad2.add 1) fun x4 =>
 mPure (m_draws_words_from x3 x4) fun r5 =>
 mIf (decide ((r5.len : Int) = 0)) (
 K ((⟨0, 0⟩ : S_api_Word), 11)
 ) (
 mDeref a0 fun ad6 =>
 mLoad (cInt .i64) (ad6.add 1) fun x7 =>
 mDeref a0 fun ad8 =>
 mStore (ad8.add 1) [(Value.int .i64 (iAdd .i64 x7 1))] <|
 mIdx r5 0 2 fun ad9 =>
 mLoad S_api_Word.cells ad9 fun x10 =>
 K (x10, 0)
 )
def x_draws_Draws_Draw : Cx Tryd.prog := ⟨tys, [s_draws_words_from], [2], [], mixed⟩
def h_draws_Draws_Draw : Hint := (.seq .d (.seq (.reg (.run [0, 4, 8, 16, 20, 24, 14, 30, 32, 36] .nil)) .d))
def s_draws_Draws_Draw : Spec Tryd.prog := mkSpec x_draws_Draws_Draw 35 Tryd.f35 [tPtr] [S_api_Word.ty, (tInt .i64)] false h_draws_Draws_Draw (fun a => m_draws_Draws_Draw a) (fun a K h => by kernel_rfl) callee35 rfl
def m_draws_Draws_Taken (a0 : Option Addr) (K : (Int) → H → Prop) : H → Prop :=
 mDeref a0 fun ad1 =>
 mLoad (cInt .i64) (ad1.add 1) fun x2 =>
 K x2
def x_draws_Draws_Taken : Cx Tryd.prog := ⟨tys, [], [], [], mixed⟩
def h_draws_Draws_Taken : Hint := .d
def s_draws_Draws_Taken : Spec Tryd.prog := mkSpec x_draws_Draws_Taken 11 Tryd.f11 [tPtr] [(tInt .i64)] false h_draws_Draws_Taken (fun a => m_draws_Draws_Taken a) (fun a K h => by kernel_rfl) callee11 rfl
def m_draws_Draws_Left (a0 : Option Addr) (K : (Int) → H → Prop) : H → Prop :=
 mDeref a0 fun ad1 =>
 mDeref a0 fun ad2 =>
 mLoad cSl (ad1.add 0) fun x3 =>
 mLoad (cInt .i64) (ad2.add 1) fun x4 =>
 mPure (m_draws_words_from x3 x4) fun r5 =>
 K (r5.len : Int)
def x_draws_Draws_Left : Cx Tryd.prog := ⟨tys, [s_draws_words_from], [], [], mixed⟩
def h_draws_Draws_Left : Hint := (.seq .d (.seq (.reg (.run [0, 4, 8, 16, 20, 24, 14, 30, 32, 36, 40] .nil)) .d))
def s_draws_Draws_Left : Spec Tryd.prog := mkSpec x_draws_Draws_Left 16 Tryd.f16 [tPtr] [(tInt .i64)] false h_draws_Draws_Left (fun a => m_draws_Draws_Left a) (fun a K h => by kernel_rfl) callee16 rfl
def m_ref04_New (a0 : Sl) (a1 : Int) (K : (Option Addr × Int) → H → Prop) : H → Prop :=
 mIf ((decide (a1 < 1)) || (decide (128 < a1))) (
 K (none, 18)
 ) (
 mIf (decide (4096 < (a0.len : Int))) (
 K (none, 23)
 ) (
 mAppend 30 2 16 #[(Value.int .u64 0), (Value.int .u64 0)] Sl.nil a0 fun s1 =>
 mNew 105 #[(Sl.val s1), (Value.int .i64 a1), (Value.int .i64 0)] fun ad2 =>
 K ((some ad2), 0)
 )
 )
def x_ref04_New : Cx Tryd.prog := ⟨tys, [], [], [], mixed⟩
def h_ref04_New : Hint := (.seq .d (.seq (.seq (.reg (.run [3, 7, 11] (.sel 9 12 7168 (.run [15, 19, 23] .nil) (.run [15, 19, 23] .nil) .nil))) .d) .d))
def s_ref04_New : Spec Tryd.prog := mkSpec x_ref04_New 20 Tryd.f20 [tSl, (tInt .i64)] [tPtr, (tInt .i64)] false h_ref04_New (fun a => m_ref04_New a.1 a.2) (fun a K h => by kernel_rfl) callee20 rfl
def m_issue_draw (a0 : Option Addr) (a1 : PV) (K : (S_api_Word × Int) → H → Prop) : H → Prop :=
 mLoop (fun (rec2 : Int → H → Prop) (s1 : Int) =>
 mIf (decide (s1 < 9)) (
 m_draws_Draws_Draw a0 fun r3 =>
 mIf (!decide (r3.2 = 0)) (
 K ((⟨0, 0⟩ : S_api_Word), r3.2)
 ) (
 mCallV (T := Bool) Tryd.prog (fun r => (Value.bool r)) a1.1 [(S_api_Word.val r3.1)] fun r4 =>
 mIf (!r4) (
 K (r3.1, 0)
 ) (
 rec2 (iAdd .i64 s1 1)
 )
 )
 ) (
 K ((⟨0, 0⟩ : S_api_Word), 12)
 )
 ) 0
def x_issue_draw : Cx Tryd.prog := ⟨tys, [s_draws_Draws_Draw], [4, 6], [], mixed⟩
def h_issue_draw : Hint := (.seq .d (.seq (.seq .d (.blk (.loop [.slot 8 (tInt .i64)] 33554400 [] .d))) .d))
def s_issue_draw : Spec Tryd.prog := mkSpec x_issue_draw 57 Tryd.f57 [tPtr, tPV] [S_api_Word.ty, (tInt .i64)] false h_issue_draw (fun a => m_issue_draw a.1 a.2) (fun a K h => by kernel_rfl) callee57 rfl
def m_issue_Of_1 (a0 : S_api_Word) (a1 : Addr) (a2 : Addr) (K : (Bool) → H → Prop) : H → Prop :=
 mLoad cPtr a1 fun x1 =>
 mLoad (cInt .i64) a2 fun x2 =>
 m_catalogue_Catalogue_Find x1 (⟨x2, ⟨a0.Hi, a0.Lo⟩⟩ : S_api_Cap) fun r3 =>
 K r3.2
def x_issue_Of_1 : Cx Tryd.prog := ⟨tys, [s_catalogue_Catalogue_Find], [3], [], mixed⟩
def h_issue_Of_1 : Hint := .d
def s_issue_Of_1 : Spec Tryd.prog := mkSpec x_issue_Of_1 58 Tryd.f58 [S_api_Word.ty, tAdr, tAdr] [tBool] false h_issue_Of_1 (fun a => m_issue_Of_1 a.1 a.2.1 a.2.2) (fun a K h => by kernel_rfl) callee58 rfl
def m_issue_Of (a0 : Option Addr) (a1 : Option Addr) (a2 : Int) (K : (S_api_Word × Int) → H → Prop) : H → Prop :=
 mNew 41 #[(Value.pointer a1)] fun ad1 =>
 mNew 3 #[(Value.int .i64 a2)] fun ad2 =>
 m_issue_draw a0 (⟨Value.func (.func 58) #[] #[(Value.pointer (some ad1)), (Value.pointer (some ad2))], rfl, rfl⟩ : PV) fun r3 =>
 K (r3.1, r3.2)
def x_issue_Of : Cx Tryd.prog := ⟨tys, [s_issue_draw], [6], [], mixed⟩
def h_issue_Of : Hint := .d
def s_issue_Of : Spec Tryd.prog := mkSpec x_issue_Of 42 Tryd.f42 [tPtr, tPtr, (tInt .i64)] [S_api_Word.ty, (tInt .i64)] false h_issue_Of (fun a => m_issue_Of a.1 a.2.1 a.2.2) (fun a K h => by kernel_rfl) callee42 rfl
end Go.Proofs.YtdleanjofhghnaaDoor.K
namespace Go.Proofs.YtdleanjofhghnaaDoor.K
open Go
section
variable {h : H}
structure DAt (h : H) (d : Nat) (ws : Sl) (cs : List S_api_Word) (tk : Nat) : Prop where
  cell : h d = some (.cells (S_draws_Draws.cells ⟨ws, tk⟩).toArray N_draws_Draws (0, 0))
  buf : Buf cW 2 N_api_Word h ws cs
  le : tk ≤ cs.length ∧ cs.length ≤ 4096
structure RAt (h : H) (r : Nat) (s : Sl) (xs : List S_api_Word) (w : Int) (tk : Nat) : Prop where
  cell : h r = some (.cells (S_ref04_Draws.cells ⟨s, w, tk⟩).toArray N_ref04_Draws (0, 0))
  buf : Buf cW 2 N_api_Word h s xs
  le : tk ≤ xs.length ∧ xs.length ≤ 4096
variable {d r : Nat} {ws s : Sl} {cs xs : List S_api_Word} {w : Int} {tk : Nat}
theorem DAt.keep {h' : H} (x : DAt h d ws cs tk) (k : Keeps h h') : DAt h' d ws cs tk := ⟨k _ _ x.cell, x.buf.keep k, x.le⟩
theorem DAt.but {h' : H} {E : Nat → Prop} (x : DAt h d ws cs tk) (k : But E h h') (f : ∀ c, E c → c ≠ d ∧ ¬ ws.foot c) : DAt h' d ws cs tk := ⟨k _ _ x.cell fun q => (f _ q).1 rfl, x.buf.but k fun a ha q => (f _ q).2 ⟨a, ha, rfl⟩, x.le⟩
theorem RAt.but {h' : H} {E : Nat → Prop} (x : RAt h r s xs w tk) (k : But E h h') (f : ∀ c, E c → c ≠ r ∧ ¬ s.foot c) : RAt h' r s xs w tk := ⟨k _ _ x.cell fun q => (f _ q).1 rfl, x.buf.but k fun a ha q => (f _ q).2 ⟨a, ha, rfl⟩, x.le⟩
theorem DAt.apart (x : DAt h d ws cs tk) : ¬ ws.foot d := fun f => (x.buf.typed f).ne (Typed.of x.cell) (by decide) rfl
theorem DAt.f0 (x : DAt h d ws cs tk) : At h ((⟨d, 0, none⟩ : Addr).add 0) (cSl ws) := by
  rw [pt_add]; exact At.own (l1 := []) (l3 := [Value.int .i64 tk]) x.cell rfl
theorem DAt.f1 (x : DAt h d ws cs tk) : At h ((⟨d, 0, none⟩ : Addr).add 1) (cInt .i64 (tk : Int)) := by
  rw [pt_add]; exact At.own (l1 := [Sl.val ws]) (l3 := []) x.cell rfl
theorem t_DTaken (x : DAt h d ws cs tk) {K : Int → H → Prop} (y : K (tk : Int) h) : m_draws_Draws_Taken (some ⟨d, 0, none⟩) K h := by
  unfold m_draws_Draws_Taken
  exact w_deref (w_load x.f1 y)
theorem t_DNew {a : Sl} (ar : Arr cW h a xs) (hx : ∀ x ∈ xs, GoodW x) {K : Option Addr × Int → H → Prop} (bad1 : (w < 1 ∨ 128 < w) → K (none, 18) h) (bad2 : 1 ≤ w → w ≤ 128 → 4096 < xs.length → K (none, 23) h)
    (y : 1 ≤ w → w ≤ 128 → xs.length ≤ 4096 → ∀ d ws h', DAt h' d ws (xs.map (cutW w)) 0 → Keeps h h' → h d = none → (∀ c, ws.foot c → h c = none) → K (some ⟨d, 0, none⟩, 0) h') : m_draws_New a w K h := by
  unfold m_draws_New
  have hl := ar.len
  refine w_if (fun c => bad1 ?_) fun c => w_if' (fun c2 => ?_) fun c2 => ?_
  · simp only [Bool.or_eq_true, decide_eq_true_eq] at c; omega
  · simp only [Bool.or_eq_false_iff, decide_eq_false_iff_not] at c
    exact bad2 (by omega) (by omega) (by omega)
  simp only [Bool.or_eq_false_iff, decide_eq_false_iff_not] at c
  refine w_box fun d h1 f1 c1 k1 => ?_
  refine w_for xs.length (fun i (z : Int) h' => z = (i : Int) ∧ Keeps h h' ∧ ∃ ws, h' d = some (.cells (S_draws_Draws.cells ⟨ws, (0 : Nat)⟩).toArray N_draws_Draws (0, 0)) ∧ Buf cW 2 N_api_Word h' ws ((xs.take i).map (cutW w)) ∧ ∀ c, ws.foot c → h c = none) ?_ ⟨rfl, k1, Sl.nil, c1, Buf.nil, fun c ⟨_, q, _⟩ => by cases q⟩
  rintro rec i z h' hi ⟨rfl, kp, ws, cd, bu, fw⟩ more
  refine w_if' (fun c3 => ?_) fun c3 => ?_
  · have c3 : (i : Int) < (a.len : Int) := c3
    have hil : i < xs.length := by omega
    have hz := List.getElem?_eq_getElem hil
    refine w_get word_len (ar.keep kp) hz rfl (v' := xs[i]) rfl (w_WCut (hx _ (List.getElem_mem hil)) (w_load (v := ws) (cells := cSl) ?_ ?_))
    · rw [pt_add]; exact At.own (l1 := []) (l3 := [Value.int .i64 (0 : Nat)]) cd rfl
    refine w_app (by_ := 16) word_len rfl bu [cutW w xs[i]] rfl rfl (.inl (by simp only [List.length_map, List.length_take, List.length_singleton]; omega)) fun s8 h2 bu2 b2 f2 d2 => ?_
    have ap : ¬ ws.foot d := fun f => (bu.typed f).ne (Typed.of cd) (by decide) rfl
    have cd2 := b2 _ _ cd ap
    refine w_store (b := d) (i := 0) (l1 := []) (l2 := [Sl.val ws]) (l3 := [Value.int .i64 (0 : Nat)]) (t := N_draws_Draws) (pt_add d 0) cd2 rfl rfl ?_
    refine more _ _ hil ⟨ia1 i (by omega), (kp.but b2 fw).but (But.upd (F := (· = d)) rfl) fun c q => q ▸ f1, s8, upd_same _ _ _, ?_, fun c q => (f2 c q).elim (fw c) fun z => kp.fresh z⟩
    have := bu2.but (But.upd (F := (· = d)) (o := (.cells ([] ++ [Sl.val s8] ++ [Value.int .i64 (0 : Nat)]).toArray N_draws_Draws (0, 0))) rfl) fun ad ha q => (bu2.typed ⟨ad, ha, rfl⟩).ne (Typed.of cd2) (by decide) q
    rw [List.take_add_one, hz, List.map_append]
    exact this
  · have c3 : ¬ (i : Int) < (a.len : Int) := c3
    obtain rfl : i = xs.length := by omega
    rw [List.take_length] at bu
    exact y (by omega) (by omega) (by omega) d ws h' ⟨cd, bu, by rw [List.length_map]; omega⟩ kp f1 fw
theorem t_RDNew {a : Sl} (ar : Arr cW h a xs) {K : Option Addr × Int → H → Prop} (bad1 : (w < 1 ∨ 128 < w) → K (none, 18) h) (bad2 : 1 ≤ w → w ≤ 128 → 4096 < xs.length → K (none, 23) h)
    (y : 1 ≤ w → w ≤ 128 → xs.length ≤ 4096 → ∀ r s h', RAt h' r s xs w 0 → Keeps h h' → h r = none → (∀ c, s.foot c → h c = none) → K (some ⟨r, 0, none⟩, 0) h') : m_ref04_New a w K h := by
  unfold m_ref04_New
  have hl := ar.len
  refine w_if (fun c => bad1 ?_) fun c => w_if' (fun c2 => ?_) fun c2 => ?_
  · simp only [Bool.or_eq_true, decide_eq_true_eq] at c; omega
  · simp only [Bool.or_eq_false_iff, decide_eq_false_iff_not] at c
    exact bad2 (by omega) (by omega) (by omega)
  simp only [Bool.or_eq_false_iff, decide_eq_false_iff_not] at c
  refine w_append (by_ := 16) word_len word_plain rfl (Buf.nil (e := N_api_Word)) ar (.inr ⟨rfl, by omega⟩) fun s1 h1 bu b1 f1 d1 => w_box fun r h2 f2 c2 k2 => ?_
  have k1 : Keeps h h1 := b1.keeps fun b ⟨_, q, _⟩ => by cases q
  rw [List.nil_append] at bu
  exact y (by omega) (by omega) (by omega) r s1 h2 ⟨c2, bu.keep k2, by omega⟩ (k1.trans k2) (k1.fresh f2) fun c q => (f1 c q).elim (fun ⟨_, q, _⟩ => by cases q) id
theorem t_DDraw (x : DAt h d ws cs tk) {K : S_api_Word × Int → H → Prop} (y0 : cs[tk]? = none → K (⟨0, 0⟩, 11) h) (y1 : ∀ c, cs[tk]? = some c → ∀ h', DAt h' d ws cs (tk + 1) → But (· = d) h h' → (∀ z, h' z = none → h z = none) → K (c, 0) h') : m_draws_Draws_Draw (some ⟨d, 0, none⟩) K h := by
  unfold m_draws_Draws_Draw
  have hl := x.buf.len
  have hc := x.buf.cap
  obtain ⟨le1, le2⟩ := x.le
  refine w_deref (w_deref (w_load x.f0 (w_load x.f1 ?_)))
  have mid : mCut ws (tk : Int) (ws.len : Int) 2 (fun s' h' => Arr cW h s' (cs.drop tk) ∧ s'.len = cs.length - tk) h := by
    refine w_mid word_len x.buf.arr (lo := tk) (hi := cs.length) le1 (Nat.le_refl _) rfl (by rw [hl]) fun s3 a3 _ _ _ => ?_
    have e3 : (cs.drop tk).take (cs.length - tk) = cs.drop tk := by rw [List.take_of_length_le]; rw [List.length_drop]; omega
    rw [e3] at a3
    exact ⟨a3, by have := a3.len; rw [List.length_drop] at this; exact this⟩
  obtain ⟨r5, cond, ar5, l5⟩ := mid
  refine w_pure r5 (fun h' k' q => ⟨r5, cond, q⟩) (w_if' (fun c => y0 ?_) fun c => ?_)
  · have c : (r5.len : Int) = 0 := c
    exact List.getElem?_eq_none (by omega)
  have c : ¬ (r5.len : Int) = 0 := c
  have hlt : tk < cs.length := by omega
  have hz := List.getElem?_eq_getElem hlt
  refine w_deref (w_load x.f1 (w_deref ?_))
  rw [ia1 tk (by omega)]
  refine w_store (b := d) (i := 1) (l1 := [Sl.val ws]) (l2 := [Value.int .i64 tk]) (l3 := []) (t := N_draws_Draws) (pt_add d 1) x.cell rfl rfl ?_
  generalize eh : upd h d _ = h2
  have c2 : h2 d = some (.cells (S_draws_Draws.cells ⟨ws, ((tk + 1 : Nat) : Int)⟩).toArray N_draws_Draws (0, 0)) := by rw [← eh]; exact upd_same _ _ _
  have b2 : But (· = d) h h2 := eh ▸ .upd rfl
  have d2 : ∀ z, h2 z = none → h z = none := fun z q => by rw [← eh] at q; exact (upd_none.1 q).2
  have bu2 := x.buf.but b2 fun ad ha q => x.apart ⟨ad, ha, q⟩
  have hz5 : (cs.drop tk)[0]? = some cs[tk] := by rw [List.getElem?_drop, Nat.add_zero]; exact hz
  have ar5' : Arr cW h2 r5 (cs.drop tk) := ar5.but b2 fun _ ad ha q => by
    obtain ⟨ad', ha', at'⟩ := ar5.at_ (fun e => by rw [e] at hz5; cases hz5)
    rw [ha] at ha'; cases ha'
    have q : ad.block = d := q
    obtain ⟨_, cc, ee, fz, q1, q2⟩ := at_iff.1 at'
    rw [q, x.cell] at q1
    cases q1
    have := q2 0 (Value.int .u64 (cs[tk]).Hi) (by
      have e1 : cs.drop tk = cs[tk] :: cs.drop (tk + 1) := List.drop_eq_getElem_cons hlt
      rw [e1, flat_cons]; rfl)
    rw [Nat.add_zero] at this
    rcases Nat.lt_or_ge ad.off 2 with z | z
    · rcases (by omega : ad.off = 0 ∨ ad.off = 1) with z | z
      · rw [z] at this; cases this
      · rw [z] at this; cases this
    · have : ad.off < 2 := by
        have := (Array.getElem?_eq_some_iff.1 this).1
        simpa [S_draws_Draws.cells] using this
      omega
  refine w_get word_len ar5' hz5 rfl (v' := cs[tk]) rfl ?_
  exact y1 _ hz h2 ⟨c2, bu2, by omega⟩ b2 d2
end
def issueO (f : S_api_Word → Bool) (cs : List S_api_Word) : Nat → Nat → (S_api_Word × Int) × Nat
  | tk, 0 => ((⟨0, 0⟩, 12), tk)
  | tk, n + 1 => match cs[tk]? with
    | none => ((⟨0, 0⟩, 11), tk)
    | some c => if f c = true then issueO f cs (tk + 1) n else ((c, 0), tk + 1)
theorem issueO_none {f : S_api_Word → Bool} {cs : List S_api_Word} {tk n : Nat} (h : cs[tk]? = none) : issueO f cs tk (n + 1) = ((⟨0, 0⟩, 11), tk) := by
  unfold issueO; rw [h]
theorem issueO_some {f : S_api_Word → Bool} {cs : List S_api_Word} {tk n : Nat} {c : S_api_Word} (h : cs[tk]? = some c) : issueO f cs tk (n + 1) = if f c = true then issueO f cs (tk + 1) n else ((c, 0), tk + 1) := by
  rw [issueO, h]
section
variable {h : H} {d r : Nat} {ws s : Sl} {cs xs : List S_api_Word} {w : Int} {tk : Nat}
theorem t_idraw {fv : PV} {f : S_api_Word → Bool} {P : H → Prop} (hP : ∀ h1 h2, P h1 → But (· = d) h1 h2 → (∀ z, h2 z = none → h1 z = none) → P h2) (hcall : ∀ h' c k, P h' → k (f c) h' → mCallV (T := Bool) Tryd.prog (fun r => (Value.bool r)) fv.1 [(S_api_Word.val c)] k h') (p0 : P h) (x : DAt h d ws cs tk)
    {K : S_api_Word × Int → H → Prop} (y : ∀ h', DAt h' d ws cs (issueO f cs tk 9).2 → P h' → But (· = d) h h' → (∀ z, h' z = none → h z = none) → K (issueO f cs tk 9).1 h') : m_issue_draw (some ⟨d, 0, none⟩) fv K h := by
  unfold m_issue_draw
  refine w_for 9 (fun i (z : Int) h' => z = (i : Int) ∧ ∃ tk', issueO f cs tk 9 = issueO f cs tk' (9 - i) ∧ DAt h' d ws cs tk' ∧ P h' ∧ But (· = d) h h' ∧ ∀ z, h' z = none → h z = none) ?_ ⟨rfl, tk, rfl, x, p0, .refl _ _, fun _ q => q⟩
  rintro rec i z h' hi ⟨rfl, tk', e, x', p', b', d'⟩ more
  refine w_if' (fun c => ?_) fun c => ?_
  · have c : (i : Int) < 9 := c
    obtain ⟨m, hm⟩ : ∃ m, 9 - i = m + 1 := ⟨8 - i, by omega⟩
    rw [hm] at e
    refine t_DDraw x' (fun hno => ?_) fun cc hc h2 x2 b2 d2 => ?_
    · rw [issueO_none hno] at e
      rw [e] at y
      exact w_ifT rfl (y _ x' p' b' d')
    · rw [issueO_some hc] at e
      have p2 := hP _ _ p' b2 d2
      refine w_ifF rfl (hcall _ _ _ p2 ?_)
      cases ef : f cc with
      | true =>
        rw [ef, if_pos rfl] at e
        exact w_ifF rfl (more _ _ (by omega) ⟨ia1 i (by omega), tk' + 1, by rw [e]; congr 1; omega, x2, p2, b'.trans b2 fun _ q => .inl q, fun z q => d' z (d2 z q)⟩)
      | false =>
        rw [ef, if_neg (by decide)] at e
        rw [e] at y
        exact w_ifT rfl (y _ x2 p2 (b'.trans b2 fun _ q => .inl q) fun z q => d' z (d2 z q))
  · have c : ¬ (i : Int) < 9 := c
    obtain rfl : i = 9 := by omega
    have e : issueO f cs tk 9 = ((⟨0, 0⟩, 12), tk') := e
    rw [e] at y
    exact y _ x' p' b' d'
end
section
variable {h : H}
variable {d r : Nat} {ws s : Sl} {cs xs : List S_api_Word} {w : Int} {tk : Nat}
theorem t_issueOf (x : DAt h d ws cs tk) {p : Nat} {knob : Int} {G : Nat → Prop} {es : List En} (ct : Cat h p knob G es) (hd : ¬ G d) {o : Int} {K : S_api_Word × Int → H → Prop}
    (y : ∀ h', DAt h' d ws cs (issueO (fun c => (findE es ⟨o, c⟩).isSome) cs tk 9).2 → But (· = d) h h' → (∀ z, h' z = none → h z = none) → K (issueO (fun c => (findE es ⟨o, c⟩).isSome) cs tk 9).1 h') : m_issue_Of (some ⟨d, 0, none⟩) (some ⟨p, 0, none⟩) o K h := by
  unfold m_issue_Of
  refine w_box fun b1 h1 f1 c1 k1 => w_box fun b2 h2 f2 c2 k2 => ?_
  have k12 := k1.trans k2
  have hdb1 : b1 ≠ d := fun e => by rw [e, x.cell] at f1; cases f1
  have hdb2 : b2 ≠ d := fun e => by have := k1 _ _ x.cell; rw [← e, f2] at this; cases this
  refine t_idraw (f := fun c => (findE es ⟨o, c⟩).isSome) (P := fun h' => Cat h' p knob G es ∧ h' b1 = some (.cells [Value.pointer (some ⟨p, 0, none⟩)].toArray 41 (0, 0)) ∧ h' b2 = some (.cells [Value.int .i64 o].toArray 3 (0, 0))) (fun h1 h2 ⟨p1, p2, p3⟩ bb _ => ⟨p1.but bb fun c q g => by (have q : c = d := q); exact hd (q ▸ g), bb _ _ p2 hdb1, bb _ _ p3 hdb2⟩) (fun h' c k ⟨p1, p2, p3⟩ hk => ?_) ⟨ct.keep k12, k2 _ _ c1, c2⟩ (x.keep k12) fun h' x' _ b' d' => y h' x' ((But.of k12).trans b' fun _ q => .inl q) fun z q => k12.fresh (d' z q)
  have hm : m_issue_Of_1 c (⟨b1, 0, none⟩ : Addr) (⟨b2, 0, none⟩ : Addr) k h' := by
    unfold m_issue_Of_1
    exact w_load (v := some ⟨p, 0, none⟩) (cells := cPtr) (at_box p2) (w_load (v := o) (cells := cInt .i64) (at_box p3) (t_CFind p1 hk))
  exact callV_of s_issue_Of_1 (first := #[]) (cap := #[(Value.pointer (some ⟨b1, 0, none⟩)), (Value.pointer (some ⟨b2, 0, none⟩))]) (args := [S_api_Word.val c]) (c, (⟨b1, 0, none⟩ : Addr), (⟨b2, 0, none⟩ : Addr)) rfl hm
end
theorem goodW_of {x : S_api_Word} (h1 : IntKind.u64.min ≤ x.Hi ∧ x.Hi ≤ IntKind.u64.max) (h2 : IntKind.u64.min ≤ x.Lo ∧ x.Lo ≤ IntKind.u64.max) : GoodW x := by
  have a1 : (0 : Int) ≤ x.Hi ∧ x.Hi ≤ 18446744073709551615 := h1
  have a2 : (0 : Int) ≤ x.Lo ∧ x.Lo ≤ 18446744073709551615 := h2
  refine ⟨valW x.Hi.toNat x.Lo.toNat, valW_lt (by omega) (by omega), ?_⟩
  rw [wordOf_val (by omega), Int.toNat_of_nonneg a1.1, Int.toNat_of_nonneg a2.1]
end Go.Proofs.YtdleanjofhghnaaDoor.K
namespace Go.Proofs.YtdleanjofhghnaaDoor.K
open Go Go.Proofs Go.RowKit Go.Extern.Stop Go.Stop Go.Extern
theorem as_nil (t : Value) (w : World) : Calls Tryd.prog 31 #[.nilIface, t] w fun e w' => e = .returned (.bool false) ∧ w' = w := by
  go_enter Tryd.func31, Tryd.ntmps31
  go_wp2
  go_ret
  exact ⟨rfl, rfl⟩
theorem a_valueOfP (t : Addr) (w : World) : (ReflectliteValue.unpack (.iface 114 (.pointer (some t)))).run Tryd.prog w = .ok (.agg #[.pointer (some ⟨1, 114, none⟩), .pointer (some ⟨w.heap.size, 0, none⟩), .int .u64 150]) (w.alloc (.cells #[.pointer (some t)] 114)) := by kernel_rfl
theorem a_typeP (a : Addr) (w : World) : (ReflectliteValue.methodAny (ReflectliteValue.valueError "reflectlite.Value.Type" 0) (fun t _ _ _ => ReflectliteType.toType t) #[.agg #[.pointer (some ⟨1, 114, none⟩), .pointer (some a), .int .u64 150]]).run Tryd.prog w = .ok (.iface 162 (.agg #[.pointer (some ⟨1, 114, none⟩)])) w := by kernel_rfl
theorem a_methodKind (h : Value) (w : World) : (Go.method 322 162 (.agg #[h]) "Kind").run Tryd.prog w = .ok (90, h) w := by kernel_rfl
theorem a_kindP (w : World) : ((ReflectliteType.abiMethod fun t => (fun a : Nat => Value.int IntKind.u8 (a : Int)) <$> Rtype.kind t) #[.pointer (some ⟨1, 114, none⟩)]).run Tryd.prog w = .ok (.int .u8 22) w := by kernel_rfl
theorem a_kindR (w : World) : ((ReflectliteType.abiMethod fun t => (fun a : Nat => Value.int IntKind.u8 (a : Int)) <$> Rtype.kind t) #[.pointer (some ⟨1, 112, none⟩)]).run Tryd.prog w = .ok (.int .u8 22) w := by kernel_rfl
theorem a_rlm (z : Sem Value) (f : TypeId → Addr → Nat → Nat → Sem Value) (v : Value) :
    ReflectliteValue.method z f #[v] = (do match ← ReflectliteValue.parts v with | none => z | some (t, a, fl) => f t a fl (fl % 32)) := rfl
theorem a_partsP (a : Addr) (w : World) : (ReflectliteValue.parts (.agg #[.pointer (some ⟨1, 114, none⟩), .pointer (some a), .int .u64 150])).run Tryd.prog w = .ok (some (114, a, 150)) w := by kernel_rfl
theorem a_isNilP (a p : Addr) (W : World) (ha : W.cell? a = some (.pointer (some p))) :
    (ReflectliteValue.method (ReflectliteValue.valueError "reflectlite.Value.IsNil" 0) ReflectliteValue.isNil #[.agg #[.pointer (some ⟨1, 114, none⟩), .pointer (some a), .int .u64 150]]).run Tryd.prog W = .ok (.bool false) W := by
  rw [a_rlm]
  simp only [Sem.run_bind, a_partsP, Result.andThen]
  simp [ReflectliteValue.isNil, loadVar, isAgg, underlying, Tryd.underlying114, ha, Result.andThen]
theorem a_methodElem (h : Value) (w : World) : (Go.method 322 162 (.agg #[h]) "Elem").run Tryd.prog w = .ok (107, .agg #[h]) w := by kernel_rfl
theorem a_methodImplements (h : Value) (w : World) : (Go.method 322 162 (.agg #[h]) "Implements").run Tryd.prog w = .ok (108, .agg #[h]) w := by kernel_rfl
theorem a_methodAssignableTo (h : Value) (w : World) : (Go.method 322 162 (.agg #[h]) "AssignableTo").run Tryd.prog w = .ok (105, .agg #[h]) w := by kernel_rfl
theorem a_methodUnwrap (h : Value) (w : World) : (Go.method 322 151 h "Unwrap").run Tryd.prog w = .ok (103, h) w := by kernel_rfl
theorem a_elemP (w : World) : (ReflectliteType.method ReflectliteType.elem #[.agg #[.pointer (some ⟨1, 114, none⟩)]]).run Tryd.prog w = .ok (.iface 162 (.agg #[.pointer (some ⟨1, 112, none⟩)])) w := by kernel_rfl
theorem a_implementsR (w : World) : (ReflectliteType.relation "Implements" ReflectliteType.implements_ #[.agg #[.pointer (some ⟨1, 112, none⟩)], .iface 162 (.agg #[.pointer (some ⟨1, 77, none⟩)])]).run Tryd.prog w = .ok (.bool true) w := by kernel_rfl
theorem a_typeOfR (v : Value) (w : World) : (ReflectliteType.typeOf #[.iface 112 v]).run Tryd.prog w = .ok (.iface 162 (.agg #[.pointer (some ⟨1, 112, none⟩)])) w := by kernel_rfl
theorem a_typeOfM (v : Value) (w : World) : (ReflectliteType.typeOf #[.iface 151 v]).run Tryd.prog w = .ok (.iface 162 (.agg #[.pointer (some ⟨1, 151, none⟩)])) w := by kernel_rfl
theorem a_assignableR (w : World) : (ReflectliteType.relation "AssignableTo" ReflectliteType.assignableTo #[.agg #[.pointer (some ⟨1, 112, none⟩)], .iface 162 (.agg #[.pointer (some ⟨1, 112, none⟩)])]).run Tryd.prog w = .ok (.bool true) w := by kernel_rfl
theorem a_assignableM (w : World) : (ReflectliteType.relation "AssignableTo" ReflectliteType.assignableTo #[.agg #[.pointer (some ⟨1, 151, none⟩)], .iface 162 (.agg #[.pointer (some ⟨1, 112, none⟩)])]).run Tryd.prog w = .ok (.bool false) w := by kernel_rfl
theorem a_valueOfR (e : Addr) (w : World) : (ReflectliteValue.unpack (.iface 112 (.pointer (some e)))).run Tryd.prog w = .ok (.agg #[.pointer (some ⟨1, 112, none⟩), .pointer (some ⟨w.heap.size, 0, none⟩), .int .u64 150]) (w.alloc (.cells #[.pointer (some e)] 112)) := by kernel_rfl
theorem a_elemOfP (w : World) : (Rtype.elem? 114).run Tryd.prog w = .ok (some 112) w := by kernel_rfl
theorem a_mkR (p : Addr) (w : World) : (ReflectliteValue.mk 112 p ReflectliteValue.flagAddr).run Tryd.prog w = .ok (.agg #[.pointer (some ⟨1, 112, none⟩), .pointer (some p), .int .u64 406]) w := by kernel_rfl
theorem a_elemVP (a p : Addr) (W : World) (ha : W.cell? a = some (.pointer (some p))) :
    (ReflectliteValue.method (ReflectliteValue.valueError "reflectlite.Value.Elem" 0) ReflectliteValue.elem #[.agg #[.pointer (some ⟨1, 114, none⟩), .pointer (some a), .int .u64 150]]).run Tryd.prog W = .ok (.agg #[.pointer (some ⟨1, 112, none⟩), .pointer (some p), .int .u64 406]) W := by
  rw [a_rlm]
  simp only [Sem.run_bind, a_partsP, Result.andThen]
  simp [ReflectliteValue.elem, loadVar, isAgg, underlying, Tryd.underlying114, ha, Result.andThen, a_elemOfP, a_mkR]
theorem a_rls (v x : Value) : ReflectliteValue.set #[v, x] = (do
    let (some (dst, a, fl), some (src, b, _)) := (← ReflectliteValue.parts v, ← ReflectliteValue.parts x)
      | unsupported (.noEntry "extern/(internal/reflectlite.Value).Set.zeroValue")
    if fl / ReflectliteValue.flagAddr % 2 == 0 then unsupported (.noEntry "extern/(internal/reflectlite.Value).Set.unaddressable")
    let val ← loadVar src b
    if ← Rtype.directlyAssignable dst src then storeVar dst a val
    else if ← Rtype.implements dst src then
      if (← Rtype.kind src) == 20 then
        match val with
        | .nilIface => unsupported (.noEntry "extern/reflectlite: a nil value of one interface type handed on as a value of another")
        | _ => storeVar dst a val
      else storeVar dst a (.iface src val)
    else panicString ("reflectlite.Set: value of type " ++ (← Rtype.spelt src) ++ " is not assignable to type " ++ (← Rtype.spelt dst))
    pure (.tuple #[])) := rfl
theorem a_partsA (a : Addr) (w : World) : (ReflectliteValue.parts (.agg #[.pointer (some ⟨1, 112, none⟩), .pointer (some a), .int .u64 406])).run Tryd.prog w = .ok (some (112, a, 406)) w := by kernel_rfl
theorem a_partsR (a : Addr) (w : World) : (ReflectliteValue.parts (.agg #[.pointer (some ⟨1, 112, none⟩), .pointer (some a), .int .u64 150])).run Tryd.prog w = .ok (some (112, a, 150)) w := by kernel_rfl
theorem a_directR (w : World) : (Rtype.directlyAssignable 112 112).run Tryd.prog w = .ok true w := by kernel_rfl
theorem a_setR (ta b e : Addr) (old : Value) (W : World) (hb : W.cell? b = some (.pointer (some e))) (ht : W.cell? ta = some old) (hf : W.frozen? ta = false) :
    (ReflectliteValue.set #[.agg #[.pointer (some ⟨1, 112, none⟩), .pointer (some ta), .int .u64 406], .agg #[.pointer (some ⟨1, 112, none⟩), .pointer (some b), .int .u64 150]]).run Tryd.prog W = .ok (.tuple #[]) (W.setCell ta (.pointer (some e))) := by
  rw [a_rls]
  simp only [Sem.run_bind, a_partsA, a_partsR, Result.andThen]
  simp [ReflectliteValue.flagAddr, loadVar, isAgg, underlying, Tryd.underlying112, hb, Result.andThen, a_directR, storeVar, Value.cells, storeCells, Addr.add]
  rw [run_store Tryd.prog W ta _ _ (by rfl)]
  simp [ht, hf]
theorem a_noAs (v : Value) (w : World) : (Instr.typeAssert (.iface 151 v) 77 167 true).run Tryd.prog w = .ok (.tuple #[.nilIface, .bool false]) w := run_typeAssert_lacksB Tryd.underlying167 (by kernel_rfl) (by kernel_rfl) v 77 w
theorem a_unwraps (v : Value) (w : World) : (Instr.typeAssert (.iface 151 v) 77 170 true).run Tryd.prog w = .ok (.tuple #[.iface 151 v, .bool true]) w := run_typeAssert_hasB Tryd.underlying170 (by kernel_rfl) v 77 w
def asWorld (w : World) (t e : Addr) : World := ((((w.alloc (.cells #[.pointer (some t)] 114)).alloc (.cells #[.pointer (some ⟨1, 114, none⟩), .pointer (some ⟨w.heap.size, 0, none⟩), .int .u64 150] 142)).alloc (.cells #[.pointer (some ⟨1, 114, none⟩), .pointer (some ⟨w.heap.size, 0, none⟩), .int .u64 150] 142)).alloc (.cells #[.pointer (some e)] 112)).setCell t (.pointer (some e))
set_option maxHeartbeats 8000000 in
set_option maxRecDepth 100000 in
theorem as_hit2 (m e t : Addr) (old : Value) (w : World) (hg : w.cell? ⟨0, 0, none⟩ = some (.iface 162 (.agg #[.pointer (some ⟨1, 77, none⟩)]))) (ht0 : w.cell? t = some old) (hf0 : w.frozen? t = false)
    (hm : w.cell? ⟨m.block, m.off + 1, none⟩ = some (.iface 112 (.pointer (some e)))) :
    Calls Tryd.prog 31 #[.iface 151 (.pointer (some m)), .iface 114 (.pointer (some t))] w fun ev w' => ev = .returned (.bool true) ∧ w' = asWorld w t e := by
  have h6 := @run_callFunc_extern Tryd.prog 48 _ (fun args => ReflectliteValue.unpack (args.getD 0 (.tuple #[]))) Tryd.func48 (by kernel_rfl) (by kernel_rfl) (by kernel_rfl) (by kernel_rfl)
  have h7 := @run_callFunc_extern Tryd.prog 49 _ (ReflectliteValue.methodAny (ReflectliteValue.valueError "reflectlite.Value.Type" 0) (fun t _ _ _ => ReflectliteType.toType t)) Tryd.func49 (by kernel_rfl) (by kernel_rfl) (by kernel_rfl) (by kernel_rfl)
  have h8 := @run_callFunc_extern Tryd.prog 50 _ (ReflectliteValue.method (ReflectliteValue.valueError "reflectlite.Value.IsNil" 0) ReflectliteValue.isNil) Tryd.func50 (by kernel_rfl) (by kernel_rfl) (by kernel_rfl) (by kernel_rfl)
  have h27 := @run_callFunc_extern Tryd.prog 90 _ (ReflectliteType.abiMethod fun t => do pure (.int .u8 (← Rtype.kind t))) Tryd.func90 (by kernel_rfl) (by kernel_rfl) (by kernel_rfl) (by kernel_rfl)
  have h37 := @run_callFunc_extern Tryd.prog 107 _ (ReflectliteType.method ReflectliteType.elem) Tryd.func107 (by kernel_rfl) (by kernel_rfl) (by kernel_rfl) (by kernel_rfl)
  have h38 := @run_callFunc_extern Tryd.prog 108 _ (ReflectliteType.relation "Implements" ReflectliteType.implements_) Tryd.func108 (by kernel_rfl) (by kernel_rfl) (by kernel_rfl) (by kernel_rfl)
  have h10 := @run_callFunc_extern Tryd.prog 64 _ ReflectliteType.typeOf Tryd.func64 (by kernel_rfl) (by kernel_rfl) (by kernel_rfl) (by kernel_rfl)
  have h35 := @run_callFunc_extern Tryd.prog 105 _ (ReflectliteType.relation "AssignableTo" ReflectliteType.assignableTo) Tryd.func105 (by kernel_rfl) (by kernel_rfl) (by kernel_rfl) (by kernel_rfl)
  have h11 := @run_callFunc_extern Tryd.prog 65 _ (ReflectliteValue.method (ReflectliteValue.valueError "reflectlite.Value.Elem" 0) ReflectliteValue.elem) Tryd.func65 (by kernel_rfl) (by kernel_rfl) (by kernel_rfl) (by kernel_rfl)
  have h12 := @run_callFunc_extern Tryd.prog 66 _ ReflectliteValue.set Tryd.func66 (by kernel_rfl) (by kernel_rfl) (by kernel_rfl) (by kernel_rfl)
  have tO := a_typeOfR
  have tM := a_typeOfM
  have mA := a_methodAssignableTo
  have a25 := a_assignableR
  have aM := a_assignableM
  have nA := a_noAs
  have uW := a_unwraps
  have mU := a_methodUnwrap
  have v25 := a_valueOfR
  have f6 := a_valueOfP
  have f7 := a_typeP
  have mK := a_methodKind
  have mE := a_methodElem
  have mI := a_methodImplements
  have k27 := a_kindP
  have k25 := a_kindR
  have e27 := a_elemP
  have i25 := a_implementsR
  have n8 := a_isNilP ⟨w.heap.size, 0, none⟩ t ((w.alloc (.cells #[.pointer (some t)] 114)).alloc (.cells #[.pointer (some ⟨1, 114, none⟩), .pointer (some ⟨w.heap.size, 0, none⟩), .int .u64 150] 142)) (by simp)
  have hlt : 0 < w.heap.size := by
    rcases Nat.lt_or_ge 0 w.heap.size with h | h
    · exact h
    · simp [World.cell?, Array.getElem?_eq_none h] at hg
  have hml : m.block < w.heap.size := by
    rcases Nat.lt_or_ge m.block w.heap.size with h | h
    · exact h
    · simp [World.cell?, Array.getElem?_eq_none h] at hm
  have hg2 : ((w.alloc (.cells #[.pointer (some t)] 114)).alloc (.cells #[.pointer (some ⟨1, 114, none⟩), .pointer (some ⟨w.heap.size, 0, none⟩), .int .u64 150] 142)).cell? ⟨0, 0, none⟩ = some (.iface 162 (.agg #[.pointer (some ⟨1, 77, none⟩)])) := by
    rw [World.cell?_alloc_lt _ _ ⟨0, 0, none⟩ (by simp), World.cell?_alloc_lt _ _ ⟨0, 0, none⟩ hlt]; exact hg
  have htl : t.block < w.heap.size := by
    rcases Nat.lt_or_ge t.block w.heap.size with h | h
    · exact h
    · simp [World.cell?, Array.getElem?_eq_none h] at ht0
  have hm3 : ((((w.alloc (.cells #[.pointer (some t)] 114)).alloc (.cells #[.pointer (some ⟨1, 114, none⟩), .pointer (some ⟨w.heap.size, 0, none⟩), .int .u64 150] 142)).alloc (.cells #[.pointer (some ⟨1, 114, none⟩), .pointer (some ⟨w.heap.size, 0, none⟩), .int .u64 150] 142))).cell? ⟨m.block, m.off + 1, none⟩ = some (.iface 112 (.pointer (some e))) := by rw [World.cell?_alloc_lt _ _ ⟨m.block, m.off + 1, none⟩ (by simp; omega), World.cell?_alloc_lt _ _ ⟨m.block, m.off + 1, none⟩ (by simp; omega), World.cell?_alloc_lt _ _ ⟨m.block, m.off + 1, none⟩ hml]; exact hm
  have el := a_elemVP ⟨w.heap.size, 0, none⟩ t (((w.alloc (.cells #[.pointer (some t)] 114)).alloc (.cells #[.pointer (some ⟨1, 114, none⟩), .pointer (some ⟨w.heap.size, 0, none⟩), .int .u64 150] 142)).alloc (.cells #[.pointer (some ⟨1, 114, none⟩), .pointer (some ⟨w.heap.size, 0, none⟩), .int .u64 150] 142)) (by rw [World.cell?_alloc_lt _ _ ⟨w.heap.size, 0, none⟩ (by simp; omega)]; simp)
  have st := a_setR t ⟨w.heap.size + 1 + 1 + 1, 0, none⟩ e old ((((w.alloc (.cells #[.pointer (some t)] 114)).alloc (.cells #[.pointer (some ⟨1, 114, none⟩), .pointer (some ⟨w.heap.size, 0, none⟩), .int .u64 150] 142)).alloc (.cells #[.pointer (some ⟨1, 114, none⟩), .pointer (some ⟨w.heap.size, 0, none⟩), .int .u64 150] 142)).alloc (.cells #[.pointer (some e)] 112))
    (by rw [World.cell?_alloc_at _ _ _ _ (by simp)]; rfl)
    (by rw [World.cell?_alloc_lt _ _ t (by simp; omega), World.cell?_alloc_lt _ _ t (by simp; omega), World.cell?_alloc_lt _ _ t (by simp; omega), World.cell?_alloc_lt _ _ t htl]; exact ht0)
    (by rw [World.frozen?_alloc_old _ _ t (by simp; omega), World.frozen?_alloc_old _ _ t (by simp; omega), World.frozen?_alloc_old _ _ t (by simp; omega), World.frozen?_alloc_old _ _ t (Nat.ne_of_lt htl)]; exact hf0)
  go_enter Tryd.func31, Tryd.ntmps31
  go_wp2
  refine wp_loop_rounds 2 ?_
  rw [rounds_succ]
  go_wp2
  rw [rounds_succ]
  go_wp2
  go_ret
  exact ⟨rfl, rfl⟩
end Go.Proofs.YtdleanjofhghnaaDoor.K
namespace Go.Proofs.YtdleanjofhghnaaDoor.K
open Go Go.Proofs Go.RowKit
def errG : Nat := 0
def ErrAt (h : H) : Prop := At h ⟨errG, 0, none⟩ [.iface 162 (.agg #[.pointer (some ⟨1, 77, none⟩)])]
def asks (h : H) (e : Int) (v : Value) : Prop := (e = 0 ∧ v = .nilIface) ∨ (e ≠ 0 ∧ ∃ m r : Nat, v = .iface 151 (.pointer (some ⟨m, 0, none⟩)) ∧ At h ⟨m, 1, none⟩ [.iface 112 (.pointer (some ⟨r, 0, none⟩))] ∧ At h ⟨r, 0, none⟩ (cInt .i64 e))
def m_errors_As (a0 a1 : PV) (K : Bool → H → Prop) : H → Prop := fun h =>
 (a0.1 = .nilIface ∧ K false h) ∨
 (∃ m e t : Addr, a0.1 = .iface 151 (.pointer (some m)) ∧ a1.1 = .iface 114 (.pointer (some t)) ∧ At h ⟨0, 0, none⟩ [.iface 162 (.agg #[.pointer (some ⟨1, 77, none⟩)])] ∧
 At h ⟨m.block, m.off + 1, none⟩ [.iface 112 (.pointer (some e))] ∧ mStore t [.pointer (some e)] (K true) h)
theorem w_As0 {a0 a1 : PV} {K : Bool → H → Prop} {h : H} (e : a0.1 = .nilIface) (y : K false h) : m_errors_As a0 a1 K h := .inl ⟨e, y⟩
theorem w_As1 {a0 : PV} {t : Nat} {v : Value} {K : Bool → H → Prop} {h : H} {e : Int} (x : asks h e a0.1) (ne : e ≠ 0) (g : ErrAt h) {ct : TypeId} (hb : h t = some (.cells [v].toArray ct (0, 0)))
    (y : ∀ r : Nat, At h ⟨r, 0, none⟩ (cInt .i64 e) → K true (upd h t (.cells [.pointer (some ⟨r, 0, none⟩)].toArray ct (0, 0)))) : m_errors_As a0 ⟨.iface 114 (.pointer (some ⟨t, 0, none⟩)), rfl, rfl⟩ K h := by
  rcases x with ⟨e0, _⟩ | ⟨_, m, r, e1, hm, hr⟩
  · exact absurd e0 ne
  · refine .inr ⟨⟨m, 0, none⟩, ⟨r, 0, none⟩, ⟨t, 0, none⟩, e1, rfl, g, hm, rfl, _, ct, (0, 0), hb, by simp, fun i _ => by simp [frozenIn], ?_⟩
    exact y r hr
theorem a_cell {w : World} {h : H} (s : Sat w h) {a : Addr} {v : Value} (x : At h a [v]) : w.cell? a = some v := by
  obtain ⟨h1, c, e, fz, h2, h3⟩ := x
  exact cell_of s h1 h2 (grab_one h3)
theorem a_alloc {w : World} {h g : H} (s : Sat2 w h g) (o : Obj) : Sat2 (w.alloc o) h g := ⟨s.hs.keep o, s.gs.keep o, s.ap⟩
theorem errors_As_ok (a : Den [tPV, tPV]) (K : Den [tBool] → HP) (h : H) (x : m_errors_As a.1 a.2 K h) :
    ACall Tryd.prog 31 (valsD [tPV, tPV] a).toArray h (fun v h' => ∃ r, v = outV (valsD [tBool] r) ∧ K r h') noP := by
  intro w g s
  show Calls _ _ #[a.1.1, a.2.1] _ _
  rcases x with ⟨h0, k⟩ | ⟨m, e, t, h0, h1, hg, hm, ts, c, ct, fz, hb, hl, hf, k⟩
  · rw [h0]
    refine (as_nil a.2.1 w).mono fun ev w' r => ?_
    obtain ⟨rfl, rfl⟩ := r
    exact ⟨h, s, .refl _, false, rfl, k⟩
  · rw [h0, h1]
    have hsz : t.off < c.size := by simp at hl; omega
    refine (as_hit2 m e t c[t.off] w (a_cell s.hs hg) (cell_of s.hs ts hb (by simp [hsz])) (by rw [frozen_of s.hs hb]; exact hf 0 (by simp)) (a_cell s.hs hm)).mono fun ev w' r => ?_
    obtain ⟨rfl, rfl⟩ := r
    refine ⟨upd h t.block (.cells (lay c t.off [.pointer (some e)]) ct fz), ?_, ?_, true, rfl, k⟩
    · have s4 := a_alloc (a_alloc (a_alloc (a_alloc s (.cells #[.pointer (some t)] 114)) (.cells #[.pointer (some ⟨1, 114, none⟩), .pointer (some ⟨w.heap.size, 0, none⟩), .int .u64 150] 142)) (.cells #[.pointer (some ⟨1, 114, none⟩), .pointer (some ⟨w.heap.size, 0, none⟩), .int .u64 150] 142)) (.cells #[.pointer (some e)] 112)
      refine s4.put hb (fun b hb' => ?_) ?_
      · simp only [asWorld, World.setCell, Array.getElem?_modify, if_neg (Ne.symm hb')]
      · simp [asWorld, World.setCell, Array.getElem?_modify, s4.hs _ _ hb, ts, lay]
    · exact ⟨rfl, rfl, rfl, by simp [asWorld, World.setCell]; omega⟩
def s_errors_As : Spec Tryd.prog := ⟨31, [tPV, tPV], [tBool], false, fun a K => m_errors_As a.1 a.2 K, errors_As_ok, ⟨_, Tryd.func31, by kernel_rfl, by kernel_rfl⟩⟩
end Go.Proofs.YtdleanjofhghnaaDoor.K
