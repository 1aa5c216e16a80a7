/- Plain laws of memory for the printed functions: what lies where, what is kept, the words' rules. -/
import Derived.Test.YtiajjcboddaenaaK12
namespace Go.Proofs.Ytiajjcboddaenaa.K
open Go
/-- Cells that are there again and again. -/
def zrep (n : Nat) (l : List Value) : List Value := (List.replicate n l).flatten

/-! Memory that is kept. -/
def Keeps (h h' : H) : Prop := ∀ b o, h b = some o → h' b = some o
theorem Keeps.refl (h : H) : Keeps h h := fun _ _ e => e
theorem Keeps.trans {a b c : H} (x : Keeps a b) (y : Keeps b c) : Keeps a c := fun _ _ e => y _ _ (x _ _ e)
theorem Keeps.new {h : H} {b : Nat} {o : Obj} (e : h b = none) : Keeps h (upd h b o) := fun x o' e' => by
  rw [upd_ne]; exact e'
  intro q; subst q; rw [e] at e'; cases e'
/-- Kept but for the blocks of 'F'. -/
def But (F : Nat → Prop) (h h' : H) : Prop := ∀ b o, h b = some o → ¬ F b → h' b = some o
theorem But.refl (F : Nat → Prop) (h : H) : But F h h := fun _ _ e _ => e
theorem But.of {F : Nat → Prop} {h h' : H} (k : Keeps h h') : But F h h' := fun b o e _ => k b o e
theorem But.keeps {F : Nat → Prop} {h h' : H} (k : But F h h') (e : ∀ b, ¬ F b) : Keeps h h' := fun b o q => k b o q (e b)
theorem But.trans {F G : Nat → Prop} {a b c : H} (x : But F a b) (y : But G b c) (e : ∀ n, G n → F n ∨ a n = none) : But F a c := fun n o q hf =>
  y n o (x n o q hf) fun g => (e n g).elim hf fun k => by rw [k] at q; cases q
theorem But.mono {F G : Nat → Prop} {a b : H} (x : But F a b) (e : ∀ n, F n → G n) : But G a b := fun n o q hg => x n o q fun f => hg (e n f)
theorem But.upd {F : Nat → Prop} {h : H} {b : Nat} {o : Obj} (f : F b) : But F h (upd h b o) := fun x o' e hf => by
  rw [upd_ne]; exact e
  intro q; subst q; exact hf f
theorem But.fresh {F : Nat → Prop} {h h' : H} (x : But F h h') {n : Nat} (e : h' n = none) (f : ¬ F n) : h n = none := by
  cases q : h n with
  | none => rfl
  | some o => rw [x n o q f] at e; cases e

theorem Keeps.but {F : Nat → Prop} {a b c : H} (k : Keeps a b) (x : But F b c) (e : ∀ n, F n → a n = none) : Keeps a c := fun n o q =>
  x n o (k n o q) fun f => by rw [e n f] at q; cases q
theorem Keeps.fresh {a b : H} (k : Keeps a b) {n : Nat} (e : b n = none) : a n = none := by
  cases q : a n with
  | none => rfl
  | some o => rw [k n o q] at e; cases e

/-! Rows of cells. -/
theorem grab_iff : ∀ {l : List Value} {c : Array Value} {off : Nat}, grab c off l.length = some l ↔ ∀ i v, l[i]? = some v → c[off + i]? = some v := by
  intro l
  induction l with
  | nil => intro c off; simp [grab]
  | cons x r ih =>
    intro c off
    simp only [List.length_cons, grab]
    constructor
    · intro hg i v hi
      cases h1 : c[off]? with
      | none => rw [h1] at hg; simp at hg
      | some y =>
        cases h2 : grab c (off + 1) r.length with
        | none => rw [h1, h2] at hg; simp at hg
        | some r' =>
          rw [h1, h2] at hg
          simp only [Option.some.injEq, List.cons.injEq] at hg
          obtain ⟨rfl, rfl⟩ := hg
          cases i with
          | zero => simp at hi; subst hi; exact h1
          | succ i =>
            have := (ih (c := c) (off := off + 1)).1 h2 i v (by simpa using hi)
            rw [← this]; congr 1; omega
    · intro hh
      have h1 := hh 0 x rfl
      have h2 := (ih (c := c) (off := off + 1)).2 fun i v hi => by
        have := hh (i + 1) v (by simpa using hi)
        rw [← this]; congr 1; omega
      rw [Nat.add_zero] at h1
      rw [h1, h2]
theorem add_block (a : Addr) (i : Nat) : (a.add i).block = a.block := by unfold Addr.add; split <;> rfl
theorem add_off (a : Addr) (i : Nat) : (a.add i).off = a.off + i := by
  unfold Addr.add; split
  · rename_i e; simp_all
  · rfl
theorem add_spot {a : Addr} (e : a.spot = none) (i : Nat) : (a.add i).spot = none := by unfold Addr.add; split <;> first | exact e | rfl
theorem at_iff {h : H} {a : Addr} {l : List Value} : At h a l ↔ a.spot = none ∧ ∃ c e fz, h a.block = some (.cells c e fz) ∧ ∀ i v, l[i]? = some v → c[a.off + i]? = some v := by
  unfold At; simp only [grab_iff]
theorem At.sub {h : H} {a : Addr} {l1 l2 l3 : List Value} (x : At h a (l1 ++ l2 ++ l3)) {n : Nat} (e : l1.length = n) : At h (a.add n) l2 := by
  subst e
  obtain ⟨hs, c, e, fz, hb, hg⟩ := at_iff.1 x
  refine at_iff.2 ⟨add_spot hs _, c, e, fz, by rw [add_block]; exact hb, fun i v hi => ?_⟩
  rw [add_off, Nat.add_assoc]
  refine hg _ _ ?_
  have hlt : i < l2.length := by
    rcases Nat.lt_or_ge i l2.length with q | q
    · exact q
    · rw [List.getElem?_eq_none q] at hi; cases hi
  rw [List.append_assoc, List.getElem?_append_right (by omega), List.getElem?_append_left (by omega)]
  rw [← hi]; congr 1; omega
theorem At.head {h : H} {a : Addr} {l1 l2 : List Value} (x : At h a (l1 ++ l2)) : At h a l1 := by
  obtain ⟨hs, c, e, fz, hb, hg⟩ := at_iff.1 x
  refine at_iff.2 ⟨hs, c, e, fz, hb, fun i v hi => hg i v ?_⟩
  have hlt : i < l1.length := by
    rcases Nat.lt_or_ge i l1.length with q | q
    · exact q
    · rw [List.getElem?_eq_none q] at hi; cases hi
  rw [List.getElem?_append_left hlt]; exact hi
theorem At.frame {h h' : H} {a : Addr} {l : List Value} (x : At h a l) (e : h' a.block = h a.block) : At h' a l := by
  obtain ⟨hs, c, t, fz, hb, hg⟩ := x
  exact ⟨hs, c, t, fz, e.trans hb, hg⟩
theorem At.keep {h h' : H} {a : Addr} {l : List Value} (x : At h a l) (k : Keeps h h') : At h' a l := by
  obtain ⟨hs, c, t, fz, hb, hg⟩ := x
  exact ⟨hs, c, t, fz, k _ _ hb, hg⟩
theorem At.but {F : Nat → Prop} {h h' : H} {a : Addr} {l : List Value} (x : At h a l) (k : But F h h') (f : ¬ F a.block) : At h' a l := by
  obtain ⟨hs, c, t, fz, hb, hg⟩ := x
  exact ⟨hs, c, t, fz, k _ _ hb f, hg⟩
theorem At.ex {h : H} {a : Addr} {l : List Value} (x : At h a l) : ∃ o, h a.block = some o := by
  obtain ⟨_, c, t, fz, hb, _⟩ := x; exact ⟨_, hb⟩
theorem At.eq {h : H} {a : Addr} {l l' : List Value} (x : At h a l) (y : At h a l') (e : l.length = l'.length) : l = l' := by
  obtain ⟨_, c, t, fz, hb, hg⟩ := x
  obtain ⟨_, c', t', fz', hb', hg'⟩ := y
  obtain ⟨rfl, _, _⟩ := cells_inj (hb.symm.trans hb')
  rw [e] at hg
  exact Option.some.inj (hg.symm.trans hg')
/-- Elements side by side. -/
def flat {T : Type} (cells : T → List Value) (xs : List T) : List Value := xs.flatMap cells
theorem flat_nil {T : Type} (cells : T → List Value) : flat cells [] = [] := rfl
theorem flat_cons {T : Type} (cells : T → List Value) (x : T) (xs : List T) : flat cells (x :: xs) = cells x ++ flat cells xs := rfl
theorem flat_append {T : Type} (cells : T → List Value) (xs ys : List T) : flat cells (xs ++ ys) = flat cells xs ++ flat cells ys := by simp [flat]
theorem flat_len {T : Type} {cells : T → List Value} {sz : Nat} (hs : ∀ x, (cells x).length = sz) : ∀ xs : List T, (flat cells xs).length = xs.length * sz := by
  intro xs
  induction xs with
  | nil => simp [flat]
  | cons x r ih => rw [flat_cons, List.length_append, hs, ih, List.length_cons, Nat.add_mul]; omega
theorem split_at {T : Type} {xs : List T} {i : Nat} {x : T} (e : xs[i]? = some x) : xs = xs.take i ++ x :: xs.drop (i + 1) := by
  have hlt : i < xs.length := by
    rcases Nat.lt_or_ge i xs.length with q | q
    · exact q
    · rw [List.getElem?_eq_none q] at e; cases e
  have hx : xs[i] = x := by rw [List.getElem?_eq_getElem hlt] at e; exact Option.some.inj e
  rw [← hx, List.getElem_cons_drop, List.take_append_drop]
theorem lt_of_get {T : Type} {xs : List T} {i : Nat} {x : T} (e : xs[i]? = some x) : i < xs.length := by
  rcases Nat.lt_or_ge i xs.length with q | q
  · exact q
  · rw [List.getElem?_eq_none q] at e; cases e
theorem At.elem {T : Type} {cells : T → List Value} {sz : Nat} (hs : ∀ x, (cells x).length = sz) {h : H} {a : Addr} {xs : List T} (x : At h a (flat cells xs)) {i : Nat} {v : T} (e : xs[i]? = some v) : At h (a.add (i * sz)) (cells v) := by
  have hlt := lt_of_get e
  rw [split_at e, flat_append, flat_cons, ← List.append_assoc] at x
  exact x.sub (by rw [flat_len hs, List.length_take]; congr 1; omega)

/-! A slice and its elements. -/
structure Arr {T : Type} (cells : T → List Value) (h : H) (s : Sl) (xs : List T) : Prop where
  len : s.len = xs.length
  cap : s.len ≤ s.cap
  at_ : xs ≠ [] → ∃ a, s.a = some a ∧ At h a (flat cells xs)
theorem Arr.keep {T : Type} {cells : T → List Value} {h h' : H} {s : Sl} {xs : List T} (x : Arr cells h s xs) (k : Keeps h h') : Arr cells h' s xs :=
  ⟨x.len, x.cap, fun e => by obtain ⟨a, ha, q⟩ := x.at_ e; exact ⟨a, ha, q.keep k⟩⟩
theorem Arr.but {T : Type} {cells : T → List Value} {F : Nat → Prop} {h h' : H} {s : Sl} {xs : List T} (x : Arr cells h s xs) (k : But F h h') (f : xs ≠ [] → ∀ a, s.a = some a → ¬ F a.block) : Arr cells h' s xs :=
  ⟨x.len, x.cap, fun e => by obtain ⟨a, ha, q⟩ := x.at_ e; exact ⟨a, ha, q.but k (f e a ha)⟩⟩
theorem Arr.row {T : Type} {cells : T → List Value} {h : H} {s : Sl} {xs : List T} (x : Arr cells h s xs) : Row h s.a (flat cells xs) := by
  unfold Row
  by_cases e : xs = []
  · subst e; split <;> first | rfl | exact .inl rfl
  · obtain ⟨a, ha, q⟩ := x.at_ e; rw [ha]; exact .inr q
/-- An element's place, and what lies there. -/
theorem Arr.idx {T : Type} {cells : T → List Value} {sz : Nat} (hs : ∀ x, (cells x).length = sz) {h : H} {s : Sl} {xs : List T} (x : Arr cells h s xs) {i : Nat} {v : T} (e : xs[i]? = some v) : ∃ a, isIdx s i sz a ∧ At h a (cells v) := by
  have hlt := lt_of_get e
  obtain ⟨a, ha, q⟩ := x.at_ (fun k => by rw [k] at hlt; cases hlt)
  exact ⟨a.add (i * sz), ⟨a, ha, by omega, by have := x.len; omega, by rw [Int.toNat_natCast]⟩, q.elem hs e⟩

/-! The words' rules. -/
section rules
variable {h : H}
theorem w_if {c : Bool} {A B : H → Prop} (x : c = true → A h) (y : c = false → B h) : mIf c A B h := ⟨x, y⟩
theorem w_ifT {c : Bool} {A B : H → Prop} (e : c = true) (x : A h) : mIf c A B h := ⟨fun _ => x, fun k => by rw [e] at k; cases k⟩
theorem w_ifF {c : Bool} {A B : H → Prop} (e : c = false) (x : B h) : mIf c A B h := ⟨fun k => (by rw [e] at k; cases k), fun _ => x⟩
theorem w_if' {p : Prop} [Decidable p] {A B : H → Prop} (x : p → A h) (y : ¬ p → B h) : mIf (decide p) A B h := ⟨fun k => x (of_decide_eq_true k), fun k => y (of_decide_eq_false k)⟩
theorem w_deref {a : Addr} {k : Addr → H → Prop} (x : k a h) : mDeref (some a) k h := ⟨a, rfl, x⟩
theorem w_load {T : Type} {cells : T → List Value} {a : Addr} {k : T → H → Prop} {v : T} (x : At h a (cells v)) (y : k v h) : mLoad cells a k h := ⟨v, x, y⟩
theorem w_idx {T : Type} {cells : T → List Value} {sz : Nat} (hs : ∀ x, (cells x).length = sz) {s : Sl} {xs : List T} (x : Arr cells h s xs) {i : Nat} {v : T} (e : xs[i]? = some v) {j : Int} (hj : j = i) {k : Addr → H → Prop}
    (y : ∀ a, isIdx s i sz a → At h a (cells v) → k a h) : mIdx s j sz k h := by
  subst hj
  obtain ⟨a, ha, q⟩ := x.idx hs e
  exact ⟨a, ha, y a ha q⟩
theorem w_pure {R : Type} {m : (R → H → Prop) → H → Prop} {k : R → H → Prop} (r : R) (x : ∀ (h' : H) (k' : R → H → Prop), k' r h' → m k' h') (y : k r h) : mPure m k h := ⟨r, x, y⟩
theorem w_new {t : TypeId} {c : Array Value} {k : Addr → H → Prop} (x : ∀ b, h b = none → k ⟨b, 0, none⟩ (upd h b (.cells c t (0, 0)))) : mNew t c k h := x
theorem w_nn {b : Int} {k : H → Prop} (e : 0 ≤ b) (x : k h) : mNN b k h := ⟨e, x⟩
/-- The whole block is known. -/
theorem At.own {b i : Nat} {l1 l2 l3 : List Value} {t : TypeId} {fz : Nat × Nat} (e : h b = some (.cells (l1 ++ l2 ++ l3).toArray t fz)) (hi : l1.length = i) : At h ⟨b, i, none⟩ l2 := by
  subst hi
  refine at_iff.2 ⟨rfl, _, _, _, e, fun j v hj => ?_⟩
  have := lt_of_get hj
  rw [List.getElem?_toArray, List.append_assoc, List.getElem?_append_right (by simp), List.getElem?_append_left (by simp; omega)]
  rw [← hj]; congr 1; simp
theorem lay_list : ∀ {l l' : List Value} {l1 l3 : List Value}, l'.length = l.length → lay (l1 ++ l ++ l3).toArray l1.length l' = (l1 ++ l' ++ l3).toArray := by
  intro l
  induction l with
  | nil => intro l' l1 l3 e; cases l' with
    | nil => rfl
    | cons => simp at e
  | cons x r ih =>
    intro l' l1 l3 e
    cases l' with
    | nil => simp at e
    | cons y r' =>
      simp only [List.length_cons, Nat.add_right_cancel_iff] at e
      simp only [lay]
      have h1 : (l1 ++ (x :: r) ++ l3).toArray.setIfInBounds l1.length y = ((l1 ++ [y]) ++ r ++ l3).toArray := by
        simp
      rw [h1]
      have := ih (l' := r') (l1 := l1 ++ [y]) (l3 := l3) e
      rw [show (l1 ++ [y]).length = l1.length + 1 from by simp] at this
      rw [this]
      simp
/-- No cell of so many is frozen. -/
def Thawed (fz : Nat × Nat) (n : Nat) : Prop := ∀ i, i < n → frozenIn (.cells #[] 0 fz) i = false
theorem thaw {fz : Nat × Nat} {n i : Nat} (x : Thawed fz n) (hi : i < n) (c : Array Value) (e : TypeId) : frozenIn (.cells c e fz) i = false := by
  have := x i hi
  obtain ⟨lo, up⟩ := fz
  exact this
theorem thawed0 (n : Nat) : Thawed (0, 0) n := fun i _ => by simp [frozenIn]
theorem w_storeF {b i : Nat} {l1 l2 l3 new : List Value} {t : TypeId} {a : Addr} {fz : Nat × Nat} {k : H → Prop} (ha : a = ⟨b, i, none⟩) (e : h b = some (.cells (l1 ++ l2 ++ l3).toArray t fz)) (hf : Thawed fz (l1 ++ l2 ++ l3).length) (hi : l1.length = i) (hn : new.length = l2.length)
    (x : k (upd h b (.cells (l1 ++ new ++ l3).toArray t fz))) : mStore a new k h := by
  subst ha; subst hi
  refine ⟨rfl, _, _, _, e, by simp; omega, fun j hj => thaw hf (by simp; omega) _ _, ?_⟩
  rw [lay_list hn]
  exact x
theorem w_store {b i : Nat} {l1 l2 l3 new : List Value} {t : TypeId} {a : Addr} {k : H → Prop} (ha : a = ⟨b, i, none⟩) (e : h b = some (.cells (l1 ++ l2 ++ l3).toArray t (0, 0))) (hi : l1.length = i) (hn : new.length = l2.length)
    (x : k (upd h b (.cells (l1 ++ new ++ l3).toArray t (0, 0)))) : mStore a new k h := by
  subst ha; subst hi
  refine ⟨rfl, _, _, _, e, by simp; omega, fun _ _ => by simp [frozenIn], ?_⟩
  rw [lay_list hn]
  exact x

/-! A slice that the program has made: its array is known whole. -/
structure Buf {T : Type} (cells : T → List Value) (sz : Nat) (e : TypeId) (h : H) (s : Sl) (xs : List T) : Prop where
  len : s.len = xs.length
  cap : s.len ≤ s.cap
  at_ : (s.a = none ∧ s.cap = 0) ∨ ∃ b z fz, s.a = some ⟨b, 0, none⟩ ∧ h b = some (.cells (flat cells xs ++ z).toArray e fz) ∧ (flat cells xs ++ z).length = s.cap * sz ∧ Thawed fz (s.cap * sz)
theorem Buf.arr {T : Type} {cells : T → List Value} {sz : Nat} {e : TypeId} {s : Sl} {xs : List T} (x : Buf cells sz e h s xs) : Arr cells h s xs := by
  refine ⟨x.len, x.cap, fun hne => ?_⟩
  rcases x.at_ with ⟨_, h0⟩ | ⟨b, z, fz, ha, hb, _⟩
  · have := x.len; have := x.cap
    exact absurd (List.length_eq_zero_iff.1 (by omega)) hne
  · exact ⟨_, ha, At.own (l1 := []) hb rfl⟩
theorem Buf.nil {T : Type} {cells : T → List Value} {sz : Nat} {e : TypeId} : Buf cells sz e h Sl.nil ([] : List T) := ⟨rfl, Nat.le_refl _, .inl ⟨rfl, rfl⟩⟩
theorem Buf.keep {T : Type} {cells : T → List Value} {sz : Nat} {e : TypeId} {h' : H} {s : Sl} {xs : List T} (x : Buf cells sz e h s xs) (k : Keeps h h') : Buf cells sz e h' s xs :=
  ⟨x.len, x.cap, x.at_.imp id fun ⟨b, z, fz, ha, hb, hl⟩ => ⟨b, z, fz, ha, k _ _ hb, hl⟩⟩
theorem Buf.but {T : Type} {cells : T → List Value} {sz : Nat} {e : TypeId} {F : Nat → Prop} {h' : H} {s : Sl} {xs : List T} (x : Buf cells sz e h s xs) (k : But F h h') (f : ∀ a, s.a = some a → ¬ F a.block) : Buf cells sz e h' s xs :=
  ⟨x.len, x.cap, x.at_.imp id fun ⟨b, z, fz, ha, hb, hl⟩ => ⟨b, z, fz, ha, k _ _ hb (f _ ha), hl⟩⟩
/-- The blocks of a slice. -/
def Sl.foot (s : Sl) (b : Nat) : Prop := ∃ a, s.a = some a ∧ a.block = b
theorem growBy_le (n : Nat) : ∀ (r c : Nat), Builtin.growBy n r c ≤ max c (n + (n + 768) / 4) := by
  intro r
  induction r with
  | zero => intro c; simp only [Builtin.growBy]; omega
  | succ r ih =>
    intro c
    simp only [Builtin.growBy]
    split
    · omega
    · have := ih (c + (c + 768) / 4); omega
theorem next_le {need cap : Nat} (hc : cap < need) : Builtin.nextslicecap need cap ≤ 2 * need + 192 := by
  unfold Builtin.nextslicecap
  split
  · omega
  · split
    · omega
    · have := growBy_le need 4 cap; omega
theorem zero_len (z : Array Value) (n : Nat) : (Builtin.zeroCells z n).size = n * z.size := by simp [Builtin.zeroCells]
/-- append onto a slice that the program has made; what it had lies still if it has outgrown its array. -/
theorem w_appX {T : Type} {cells : T → List Value} {sz by_ : Nat} {e : TypeId} (hs : ∀ x, (cells x).length = sz) {zero : Array Value} (hz : zero.size = sz) {m : Nat} {new : List Value} {s : Sl} {xs : List T} (x : Buf cells sz e h s xs) (ys : List T) (hnew : new = flat cells ys) (hm : m = ys.length)
    (room : (2 * (xs.length + ys.length) + 192) * by_ ≤ 2 ^ 48 ∨ (s.cap = 0 ∧ ys.length * by_ ≤ 2 ^ 48)) {k : Sl → H → Prop}
    (y : ∀ s' h', Buf cells sz e h' s' (xs ++ ys) → But (fun b => s.foot b ∧ s.len + ys.length ≤ s.cap) h h' → (∀ b, s'.foot b → (s.foot b ∧ s.len + ys.length ≤ s.cap) ∨ h b = none) → (∀ b, h' b = none → h b = none) → k s' h') : mApp e sz by_ zero m new s k h := by
  subst hm; subst hnew
  have hlen := x.len
  refine ⟨fun hle => ?_, fun hgt => ?_⟩
  · rcases x.at_ with ⟨ha, h0⟩ | ⟨b, z, fz, ha, hb, hl, hth⟩
    · have hx : xs = [] := List.length_eq_zero_iff.1 (by omega)
      have hy : ys = [] := List.length_eq_zero_iff.1 (by omega)
      subst hx; subst hy
      rw [ha]
      refine ⟨rfl, y _ _ ⟨by simpa using hlen, by simpa using hle, .inl ⟨rfl, h0⟩⟩ (But.refl _ _) (fun b hb => ?_) fun _ e => e⟩
      obtain ⟨a, k, _⟩ := hb; cases k
    · rw [ha]
      have hoff : ((⟨b, 0, none⟩ : Addr).add (s.len * sz)).off = s.len * sz := by rw [add_off]; exact Nat.zero_add _
      have hroom : s.len * sz + ys.length * sz ≤ s.cap * sz := by rw [← Nat.add_mul]; exact Nat.mul_le_mul_right _ hle
      refine .inr ⟨add_spot rfl _, _, _, _, by rw [show (⟨b, 0, none⟩ : Addr).block = b from rfl]; exact hb, ?_, fun j hj => thaw hth (by rw [hoff]; rw [flat_len hs] at hj; omega) _ _, ?_⟩
      · rw [add_off, flat_len hs]
        show 0 + s.len * sz + ys.length * sz ≤ _
        rw [List.size_toArray, hl, Nat.zero_add, ← Nat.add_mul]
        exact Nat.mul_le_mul_right _ hle
      · have hcut : z = z.take (ys.length * sz) ++ z.drop (ys.length * sz) := (List.take_append_drop _ _).symm
        have hzl : z.length = s.cap * sz - xs.length * sz := by
          rw [List.length_append, flat_len hs] at hl; omega
        have hmul : ys.length * sz ≤ z.length := by
          rw [hzl]
          have : (xs.length + ys.length) * sz ≤ s.cap * sz := Nat.mul_le_mul_right _ (by omega)
          rw [Nat.add_mul] at this; omega
        have hlay : lay (flat cells xs ++ z).toArray ((⟨b, 0, none⟩ : Addr).add (s.len * sz)).off (flat cells ys) = (flat cells (xs ++ ys) ++ z.drop (ys.length * sz)).toArray := by
          rw [add_off, Nat.zero_add, hlen, ← flat_len hs xs]
          conv => lhs; rw [hcut, ← List.append_assoc]
          rw [lay_list (by rw [flat_len hs, List.length_take]; omega), flat_append]
        rw [hlay]
        refine y _ _ ⟨by rw [List.length_append]; show s.len + ys.length = _; omega, hle, .inr ⟨b, _, fz, rfl, upd_same _ _ _, ?_, hth⟩⟩ (But.upd ⟨⟨_, ha, rfl⟩, hle⟩) (fun c hc => ?_) fun c hc => (upd_none.1 hc).2
        · rw [List.length_append, flat_len hs, List.length_append, List.length_drop, hzl]
          show _ = s.cap * sz
          rw [Nat.add_mul]
          rw [hzl] at hmul
          have : xs.length * sz ≤ s.cap * sz := Nat.mul_le_mul_right _ (by have := x.cap; omega)
          omega
        · obtain ⟨a, k, rfl⟩ := hc
          cases k
          exact .inl ⟨⟨_, ha, rfl⟩, hle⟩
  · refine ⟨flat cells xs, x.arr.row, fun _ => by rw [flat_len hs, hlen], ?_, fun b cap hb hcap => ?_⟩
    · unfold Room
      rcases room with r | ⟨r1, r2⟩
      · refine Nat.le_trans (Nat.mul_le_mul_right _ (next_le (by omega))) (by rw [hlen]; exact r)
      · have h0 : s.len = 0 := by have := x.cap; omega
        rw [h0, r1, Nat.zero_add]
        unfold Builtin.nextslicecap
        rw [if_pos (by omega)]; exact r2
    · refine y _ _ ⟨by rw [List.length_append]; show s.len + ys.length = _; omega, hcap, .inr ⟨b, (Builtin.zeroCells zero (cap - (s.len + ys.length))).toList, (0, 0), rfl, ?_, ?_, thawed0 _⟩⟩ (But.of (.new hb)) (fun c hc => ?_) fun c hc => (upd_none.1 hc).2
      · rw [upd_same, flat_append]; congr 2; simp
      · rw [List.length_append, flat_len hs, show (Builtin.zeroCells zero (cap - (s.len + ys.length))).toList.length = (Builtin.zeroCells zero (cap - (s.len + ys.length))).size from Array.length_toList, zero_len, hz, List.length_append, hlen, ← Nat.add_mul]
        show _ = cap * sz
        congr 1; omega
      · obtain ⟨a, k, rfl⟩ := hc
        cases k
        exact .inr hb
/-- .. at large. -/
theorem w_app {T : Type} {cells : T → List Value} {sz by_ : Nat} {e : TypeId} (hs : ∀ x, (cells x).length = sz) {zero : Array Value} (hz : zero.size = sz) {m : Nat} {new : List Value} {s : Sl} {xs : List T} (x : Buf cells sz e h s xs) (ys : List T) (hnew : new = flat cells ys) (hm : m = ys.length)
    (room : (2 * (xs.length + ys.length) + 192) * by_ ≤ 2 ^ 48 ∨ (s.cap = 0 ∧ ys.length * by_ ≤ 2 ^ 48)) {k : Sl → H → Prop}
    (y : ∀ s' h', Buf cells sz e h' s' (xs ++ ys) → But s.foot h h' → (∀ b, s'.foot b → s.foot b ∨ h b = none) → (∀ b, h' b = none → h b = none) → k s' h') : mApp e sz by_ zero m new s k h :=
  w_appX hs hz x ys hnew hm room fun s' h' bu b f n => y s' h' bu (b.mono fun _ q => q.1) (fun c hc => (f c hc).imp (fun q => q.1) id) n
/-- .. of what another slice holds. -/
theorem w_append {T : Type} {cells : T → List Value} {sz by_ : Nat} {e : TypeId} (hs : ∀ x, (cells x).length = sz) (hp : ∀ x, (cells x).all plainVal = true) {zero : Array Value} (hz : zero.size = sz) {s x' : Sl} {xs ys : List T} (x : Buf cells sz e h s xs) (hx : Arr cells h x' ys)
    (room : (2 * (xs.length + ys.length) + 192) * by_ ≤ 2 ^ 48 ∨ (s.cap = 0 ∧ ys.length * by_ ≤ 2 ^ 48)) {k : Sl → H → Prop}
    (y : ∀ s' h', Buf cells sz e h' s' (xs ++ ys) → But s.foot h h' → (∀ b, s'.foot b → s.foot b ∨ h b = none) → (∀ b, h' b = none → h b = none) → k s' h') : mAppend e sz by_ zero s x' k h := by
  refine ⟨flat cells ys, hx.row, fun _ => by rw [flat_len hs, hx.len], ?_, w_app hs hz x ys rfl hx.len room y⟩
  rw [List.all_eq_true]
  intro v hv
  obtain ⟨t, _, hv⟩ := List.mem_flatMap.1 hv
  exact List.all_eq_true.1 (hp t) v hv
theorem w_cut {s : Sl} {lo hi : Nat} {size : Nat} {i j : Int} {k : Sl → H → Prop} (hi' : i = lo) (hj : j = hi) (h1 : lo ≤ hi) (h2 : hi ≤ s.cap)
    (y : k ⟨if s.cap = lo then s.a else s.a.map (·.add (lo * size)), hi - lo, s.cap - lo⟩ h) : mCut s i j size k h := by
  subst hi'; subst hj
  exact ⟨_, ⟨by omega, by omega, by omega, rfl⟩, by simpa using y⟩
theorem add_zero (a : Addr) : a.add 0 = a := by
  unfold Addr.add; simp
/-- A slice's beginning. -/
theorem w_take {T : Type} {cells : T → List Value} {s : Sl} {xs : List T} {size : Nat} (x : Arr cells h s xs) {n : Nat} (hn : n ≤ xs.length) {i j : Int} (hi : i = 0) (hj : j = n) {k : Sl → H → Prop}
    (y : ∀ s', Arr cells h s' (xs.take n) → (∀ b, s'.foot b → s.foot b) → s'.cap = s.cap → k s' h) : mCut s i j size k h := by
  have hl := x.len
  have hc := x.cap
  refine w_cut (lo := 0) (hi := n) hi hj (Nat.zero_le _) (by omega) ?_
  have ha : (if s.cap = 0 then s.a else s.a.map (·.add (0 * size))) = s.a := by
    split
    · rfl
    · cases s.a <;> simp [add_zero]
  rw [ha]
  refine y _ ⟨by simp; omega, by show n - 0 ≤ s.cap - 0; omega, fun hne => ?_⟩ (fun b f => f) rfl
  obtain ⟨a, ha, q⟩ := x.at_ (fun e => hne (by rw [e]; exact List.take_nil))
  refine ⟨a, ha, ?_⟩
  rw [← List.take_append_drop n xs, flat_append] at q
  exact q.head
/-- A part of an element is overwritten. -/
theorem w_set {T : Type} {cells : T → List Value} {sz : Nat} {e : TypeId} (hs : ∀ x, (cells x).length = sz) {s : Sl} {xs : List T} (x : Buf cells sz e h s xs) {i : Nat} {v v' : T} (hv : xs[i]? = some v) {a a' : Addr} (ha : isIdx s i sz a)
    {c1 c2 c3 new : List Value} (h1 : cells v = c1 ++ c2 ++ c3) (h2 : cells v' = c1 ++ new ++ c3) (hn : new.length = c2.length) (ha' : a' = a.add c1.length) {k : H → Prop}
    (y : ∀ h', Buf cells sz e h' s (xs.set i v') → But s.foot h h' → (∀ b, h' b = none → h b = none) → k h') : mStore a' new k h := by
  have hlt := lt_of_get hv
  obtain ⟨a0, ha0, _, _, rfl⟩ := ha
  rcases x.at_ with ⟨hq, _⟩ | ⟨b, z, fz, hb0, hb, hz, hth⟩
  · rw [hq] at ha0; cases ha0
  rw [hb0] at ha0
  obtain rfl := Option.some.inj ha0
  subst ha'
  have hsp := split_at hv
  have e1 : flat cells xs ++ z = (flat cells (xs.take i) ++ c1) ++ c2 ++ (c3 ++ (flat cells (xs.drop (i + 1)) ++ z)) := by
    conv => lhs; rw [hsp]
    rw [flat_append, flat_cons, h1]
    simp [List.append_assoc]
  have hset : xs.set i v' = xs.take i ++ v' :: xs.drop (i + 1) := by rw [List.set_eq_take_append_cons_drop, if_pos hlt]
  have e2 : flat cells (xs.set i v') ++ z = (flat cells (xs.take i) ++ c1) ++ new ++ (c3 ++ (flat cells (xs.drop (i + 1)) ++ z)) := by
    rw [hset, flat_append, flat_cons, h2]
    simp [List.append_assoc]
  have hoff : ((⟨b, 0, none⟩ : Addr).add ((i : Int).toNat * sz)).add c1.length = ⟨b, (flat cells (xs.take i) ++ c1).length, none⟩ := by
    have key : ∀ (o i : Nat), (⟨b, o, none⟩ : Addr).add i = ⟨b, o + i, none⟩ := fun o i => by
      unfold Addr.add; split
      · rename_i e; subst e; rfl
      · rfl
    rw [key, key, List.length_append, flat_len hs, List.length_take, Int.toNat_natCast, Nat.min_eq_left (by omega), Nat.zero_add]
  rw [e1] at hb hz
  refine w_storeF hoff hb (by rw [hz]; exact hth) rfl hn ?_
  rw [← e2]
  refine y _ ⟨by rw [List.length_set]; exact x.len, x.cap, .inr ⟨b, z, fz, hb0, upd_same _ _ _, ?_, hth⟩⟩ (But.upd ⟨_, hb0, rfl⟩) fun c hc => (upd_none.1 hc).2
  rw [← hz, ← e1, List.length_append, List.length_append, flat_len hs, flat_len hs, List.length_set]
/-- A loop, by a measure. -/
theorem w_loop {σ : Type} {F : (σ → H → Prop) → σ → H → Prop} (μ : σ → Nat) (I : σ → H → Prop)
    (step : ∀ (rec : σ → H → Prop) (s : σ) (h : H), I s h → (∀ s' h', I s' h' → μ s' < μ s → rec s' h') → F rec s h) {s : σ} (i : I s h) : mLoop F s h := by
  suffices ∀ (n : Nat) (s : σ) (h : H), I s h → μ s < n → loopF F n s h from ⟨_, this (μ s + 1) s h i (Nat.lt_succ_self _)⟩
  intro n
  induction n with
  | zero => intro s h _ k; omega
  | succ n ih => exact fun s h i k => step _ s h i fun s' h' i' k' => ih s' h' i' (by omega)
/-- .. by what holds where the ways meet. -/
theorem w_joinP {σ : Type} {rest : σ → H → Prop} {body : (σ → H → Prop) → H → Prop} (I : σ → H → Prop) (hb : ∀ rest' : σ → H → Prop, (∀ s h, I s h → rest' s h) → body rest' h) (hr : ∀ s h, I s h → rest s h) : mJoin rest body h := hb rest hr
/-- What several ways go on with. -/
theorem w_meet {G : Prop} (Pre : H → Prop) (rest : H → Prop) (use : (∀ h', Pre h' → rest h') → G) (hr : ∀ h', Pre h' → rest h') : G := use hr
theorem w_join {σ : Type} {rest : σ → H → Prop} {body : (σ → H → Prop) → H → Prop} (x : body rest h) : mJoin rest body h := x
end rules
end Go.Proofs.Ytiajjcboddaenaa.K
