/- Forests, plainly: who stands below whom; parents ahead of their children, and the other way round. -/
import Derived.Test.YtiajjcboddaenaaL8
namespace Go.Proofs.Ytiajjcboddaenaa.K
theorem nodup_rev {l : List Int} (h : l.Nodup) : l.reverse.Nodup := (List.Perm.nodup_iff (List.reverse_perm l)).2 h
inductive PreL (ch : Int → List Int) : List Int → List Int → Prop
  | nil : PreL ch [] []
  | cons {x : Int} {ys l L : List Int} : PreL ch (ch x) l → PreL ch ys L → PreL ch (x :: ys) (x :: (l ++ L))
inductive PostL (ch : Int → List Int) : List Int → List Int → Prop
  | nil : PostL ch [] []
  | cons {x : Int} {ys l L : List Int} : PostL ch (ch x) l → PostL ch ys L → PostL ch (x :: ys) (l ++ x :: L)
inductive Desc (ch : Int → List Int) (x : Int) : Int → Prop
  | refl : Desc ch x x
  | snoc {y z : Int} : Desc ch x y → z ∈ ch y → Desc ch x z
section
variable {ch : Int → List Int}
theorem PreL.append {a la b lb : List Int} (x : PreL ch a la) (y : PreL ch b lb) : PreL ch (a ++ b) (la ++ lb) := by
  induction x with
  | nil => exact y
  | cons p q ih1 ih2 => rw [List.cons_append, List.cons_append, List.append_assoc]; exact .cons p ih2
theorem PostL.append {a la b lb : List Int} (x : PostL ch a la) (y : PostL ch b lb) : PostL ch (a ++ b) (la ++ lb) := by
  induction x with
  | nil => exact y
  | cons p q ih1 ih2 => rw [List.cons_append, List.append_assoc, List.cons_append]; exact .cons p ih2
theorem PreL.inj {a l : List Int} (x : PreL ch a l) : ∀ {m : List Int}, PreL ch a m → l = m := by
  induction x with
  | nil => intro m y; cases y; rfl
  | cons p q ih1 ih2 =>
    intro m y
    cases y with
    | cons p' q' => rw [ih1 p', ih2 q']
theorem PreL.le {a l : List Int} (x : PreL ch a l) : a.length ≤ l.length := by
  induction x with
  | nil => exact Nat.le_refl _
  | cons p q ih1 ih2 => simp only [List.length_cons, List.length_append]; omega
theorem PreL.mirror {a l : List Int} (x : PreL (fun z => (ch z).reverse) a l) : PostL ch a.reverse l.reverse := by
  induction x with
  | nil => exact .nil
  | @cons z ys l L p q ih1 ih2 =>
    rw [List.reverse_cons, List.reverse_cons, List.reverse_append, List.append_assoc]
    refine ih2.append ?_
    rw [List.reverse_reverse] at ih1
    exact .cons ih1 .nil
theorem Desc.cons {x y z : Int} (hy : y ∈ ch x) (d : Desc ch y z) : Desc ch x z := by
  induction d with
  | refl => exact .snoc .refl hy
  | snoc _ h ih => exact .snoc ih h
theorem Desc.head {x z : Int} (d : Desc ch x z) : z = x ∨ ∃ y, y ∈ ch x ∧ Desc ch y z := by
  induction d with
  | refl => exact .inl rfl
  | snoc d h ih =>
    rcases ih with rfl | ⟨y, hy, e⟩
    · exact .inr ⟨_, h, .refl⟩
    · exact .inr ⟨y, hy, .snoc e h⟩
theorem Desc.trans {x y z : Int} (a : Desc ch x y) (b : Desc ch y z) : Desc ch x z := by
  induction b with
  | refl => exact a
  | snoc _ h ih => exact .snoc ih h
theorem PreL.mem {a l : List Int} (x : PreL ch a l) {z : Int} : z ∈ l ↔ ∃ r, r ∈ a ∧ Desc ch r z := by
  induction x with
  | nil => simp
  | @cons y ys l L p q ih1 ih2 =>
    rw [List.mem_cons, List.mem_append, ih1, ih2]
    constructor
    · rintro (rfl | ⟨r, hr, d⟩ | ⟨r, hr, d⟩)
      · exact ⟨z, List.mem_cons_self .., .refl⟩
      · exact ⟨y, List.mem_cons_self .., d.cons hr⟩
      · exact ⟨r, List.mem_cons_of_mem _ hr, d⟩
    · rintro ⟨r, hr, d⟩
      rcases List.mem_cons.1 hr with rfl | hr
      · rcases d.head with e | ⟨w, hw, e⟩
        · exact .inl e
        · exact .inr (.inl ⟨w, hw, e⟩)
      · exact .inr (.inr ⟨r, hr, d⟩)
theorem PostL.mem {a l : List Int} (x : PostL ch a l) {z : Int} : z ∈ l ↔ ∃ r, r ∈ a ∧ Desc ch r z := by
  induction x with
  | nil => simp
  | @cons y ys l L p q ih1 ih2 =>
    rw [List.mem_append, List.mem_cons, ih1, ih2]
    constructor
    · rintro (⟨r, hr, d⟩ | rfl | ⟨r, hr, d⟩)
      · exact ⟨y, List.mem_cons_self .., d.cons hr⟩
      · exact ⟨z, List.mem_cons_self .., .refl⟩
      · exact ⟨r, List.mem_cons_of_mem _ hr, d⟩
    · rintro ⟨r, hr, d⟩
      rcases List.mem_cons.1 hr with rfl | hr
      · rcases d.head with e | ⟨w, hw, e⟩
        · exact .inr (.inl e)
        · exact .inl ⟨w, hw, e⟩
      · exact .inr (.inr ⟨r, hr, d⟩)
/-- Each node behind its parent. -/
theorem PreL.behind {a l : List Int} (x : PreL ch a l) : ∀ {i : Nat} {z : Int}, l[i]? = some z → z ∈ a ∨ ∃ y, y ∈ l.take i ∧ z ∈ ch y := by
  induction x with
  | nil => intro i z e; simp at e
  | @cons y ys l L p q ih1 ih2 =>
    intro i z e
    cases i with
    | zero => simp at e; subst e; exact .inl (List.mem_cons_self ..)
    | succ i =>
      rw [List.getElem?_cons_succ, List.getElem?_append] at e
      rw [List.take_succ_cons]
      split at e
      · rename_i hi
        rcases ih1 e with r | ⟨w, hw, hz⟩
        · exact .inr ⟨y, List.mem_cons_self .., r⟩
        · refine .inr ⟨w, List.mem_cons_of_mem _ ?_, hz⟩
          rw [List.take_append]
          exact List.mem_append_left _ hw
      · rename_i hi
        rcases ih2 e with r | ⟨w, hw, hz⟩
        · exact .inl (List.mem_cons_of_mem _ r)
        · refine .inr ⟨w, List.mem_cons_of_mem _ ?_, hz⟩
          rw [List.take_append]
          exact List.mem_append_right _ hw
/-- Each node behind all its children. -/
theorem PostL.behind {a l : List Int} (x : PostL ch a l) : ∀ {i : Nat} {z : Int}, l[i]? = some z → ∀ y, y ∈ ch z → y ∈ l.take i := by
  induction x with
  | nil => intro i z e; simp at e
  | @cons w ys l L p q ih1 ih2 =>
    intro i z e y hy
    rw [List.getElem?_append] at e
    rw [List.take_append]
    split at e
    · exact List.mem_append_left _ (ih1 e y hy)
    · rename_i hi
      have hl : l.length ≤ i := by omega
      cases hk : i - l.length with
      | zero =>
        rw [hk] at e; simp at e; subst e
        rw [List.take_of_length_le hl]
        exact List.mem_append_left _ (p.mem.2 ⟨y, hy, .refl⟩)
      | succ k =>
        rw [hk, List.getElem?_cons_succ] at e
        rw [List.take_succ_cons]
        exact List.mem_append_right _ (List.mem_cons_of_mem _ (ih2 e y hy))
/-- Each node has one parent, and none stands below itself. -/
structure Forest (ch : Int → List Int) : Prop where
  uniq : ∀ x y z, z ∈ ch x → z ∈ ch y → x = y
  nd : ∀ x, (ch x).Nodup
  rank : ∃ (w : Int → Nat) (B : Nat), ∀ x y, y ∈ ch x → w x < w y ∧ w y ≤ B
theorem Forest.mirror (f : Forest ch) : Forest (fun z => (ch z).reverse) :=
  ⟨fun x y z a b => f.uniq x y z (List.mem_reverse.1 a) (List.mem_reverse.1 b), fun x => nodup_rev (f.nd x), by obtain ⟨w, B, h⟩ := f.rank; exact ⟨w, B, fun x y e => h x y (List.mem_reverse.1 e)⟩⟩
theorem Forest.comp (f : Forest ch) {a z : Int} (x : Desc ch a z) : ∀ {b : Int}, Desc ch b z → Desc ch a b ∨ Desc ch b a := by
  induction x with
  | refl => exact fun y => .inr y
  | @snoc y z d h ih =>
    intro b e
    cases e with
    | refl => exact .inl (.snoc d h)
    | snoc d' h' =>
      obtain rfl := f.uniq _ _ _ h h'
      exact ih d'
theorem Forest.acyc (f : Forest ch) {x y : Int} (hy : y ∈ ch x) (d : Desc ch y x) : False := by
  obtain ⟨w, B, hw⟩ := f.rank
  have le : ∀ {a b}, Desc ch a b → w a ≤ w b := fun d => by
    induction d with
    | refl => exact Nat.le_refl _
    | snoc _ h ih => have := (hw _ _ h).1; omega
  have := le d
  have := (hw _ _ hy).1
  omega
theorem Forest.kids (f : Forest ch) {x a b : Int} (ha : a ∈ ch x) (hb : b ∈ ch x) (d : Desc ch a b) : a = b := by
  cases d with
  | refl => rfl
  | snoc d h =>
    obtain rfl := f.uniq _ _ _ h hb
    exact (f.acyc ha d).elim
theorem PreL.nodup (f : Forest ch) {a l : List Int} (x : PreL ch a l) (hn : a.Nodup) (ha : ∀ p q, p ∈ a → q ∈ a → Desc ch p q → p = q) : l.Nodup := by
  induction x with
  | nil => exact List.nodup_nil
  | @cons y ys l L p q ih1 ih2 =>
    rw [List.nodup_cons] at hn
    have h1 := ih1 (f.nd y) fun a b ha hb d => f.kids ha hb d
    have h2 := ih2 hn.2 fun a b pa pb d => ha a b (List.mem_cons_of_mem _ pa) (List.mem_cons_of_mem _ pb) d
    rw [List.nodup_cons, List.mem_append, List.nodup_append]
    refine ⟨fun e => ?_, h1, h2, fun z hz z' hz' e => ?_⟩
    · rcases e with e | e
      · obtain ⟨r, hr, d⟩ := p.mem.1 e
        exact f.acyc hr d
      · obtain ⟨r, hr, d⟩ := q.mem.1 e
        have := ha r y (List.mem_cons_of_mem _ hr) (List.mem_cons_self ..) d
        exact hn.1 (this ▸ hr)
    · subst e
      obtain ⟨r, hr, d⟩ := p.mem.1 hz
      obtain ⟨r', hr', d'⟩ := q.mem.1 hz'
      have dy : Desc ch y z := d.cons hr
      rcases f.comp (b := r') dy d' with c | c
      · have := ha y r' (List.mem_cons_self ..) (List.mem_cons_of_mem _ hr') c
        exact hn.1 (this ▸ hr')
      · have := ha r' y (List.mem_cons_of_mem _ hr') (List.mem_cons_self ..) c
        exact hn.1 (this ▸ hr')
theorem PreL.nodup1 (f : Forest ch) {n : Int} {l : List Int} (x : PreL ch [n] l) : l.Nodup := x.nodup f (by simp) fun p q hp hq _ => (List.mem_singleton.1 hp).trans (List.mem_singleton.1 hq).symm
theorem PreL.ex (f : Forest ch) : ∀ a, ∃ l, PreL ch a l := by
  obtain ⟨w, B, hw⟩ := f.rank
  have main : ∀ k, ∀ a : List Int, (∀ x ∈ a, B + 1 - w x < k) → ∃ l, PreL ch a l := by
    intro k
    induction k with
    | zero =>
      intro a ha
      cases a with
      | nil => exact ⟨[], .nil⟩
      | cons x r => exact absurd (ha x (List.mem_cons_self ..)) (Nat.not_lt_zero _)
    | succ k ih =>
      intro a
      induction a with
      | nil => exact fun _ => ⟨[], .nil⟩
      | cons x r ihr =>
        intro ha
        obtain ⟨L, hL⟩ := ihr fun y hy => ha y (List.mem_cons_of_mem _ hy)
        obtain ⟨l, hl⟩ := ih (ch x) fun y hy => by
          obtain ⟨h1, h2⟩ := hw x y hy
          have := ha x (List.mem_cons_self ..)
          omega
        exact ⟨_, .cons hl hL⟩
  exact fun a => main (B + 2) a fun x _ => by omega
/-- The list of those below a node, itself first, and the list the other way round. -/
theorem PreL.post (f : Forest ch) {n : Int} {l : List Int} (x : PreL ch [n] l) : ∃ m, PreL (fun z => (ch z).reverse) [n] m ∧ PostL ch [n] m.reverse ∧ m.reverse.Perm l := by
  obtain ⟨m, hm⟩ := PreL.ex f.mirror [n]
  refine ⟨m, hm, hm.mirror, ?_⟩
  refine (List.perm_ext_iff_of_nodup (nodup_rev (hm.nodup1 f.mirror)) (x.nodup1 f)).2 fun z => ?_
  rw [hm.mirror.mem, x.mem]
  exact Iff.rfl
end
end Go.Proofs.Ytiajjcboddaenaa.K
