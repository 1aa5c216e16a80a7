/- The abstract heap: what an operation does to a part of memory that is known, with a frame that stays. Level 1 of the proof kit of this seat: 'awp' over the model's operations, its soundness, and that it is monotone and keeps a frame. -/
import Derived.Calls
import Derived.RunT
namespace Go.Proofs.Ytlnlmideghepnaa.K
open Go

/-- A part of memory: some blocks and what they hold. -/
abbrev H := Nat → Option Obj
def upd (h : H) (b : Nat) (o : Obj) : H := fun x => if x = b then some o else h x
theorem upd_same (h : H) (b : Nat) (o : Obj) : upd h b o b = some o := by simp [upd]
theorem upd_ne (h : H) {b x : Nat} (o : Obj) (e : x ≠ b) : upd h b o x = h x := by simp [upd, e]
theorem upd_none {h : H} {b x : Nat} {o : Obj} : upd h b o x = none ↔ x ≠ b ∧ h x = none := by
  unfold upd; by_cases e : x = b <;> simp [e]
theorem upd_upd (h : H) (b : Nat) (o o' : Obj) : upd (upd h b o) b o' = upd h b o' := by
  funext x; unfold upd; split <;> rfl
theorem upd_comm (h : H) {b c : Nat} (o o' : Obj) (e : b ≠ c) : upd (upd h b o) c o' = upd (upd h c o') b o := by
  funext x; unfold upd; by_cases h1 : x = b <;> by_cases h2 : x = c <;> simp_all
theorem upd_self {h : H} {b : Nat} {o : Obj} (e : h b = some o) : upd h b o = h := by
  funext x; unfold upd; split
  · subst_vars; exact e.symm
  · rfl

def Sat (w : World) (h : H) : Prop := ∀ b o, h b = some o → w.heap[b]? = some o
def Apart (h g : H) : Prop := ∀ b, h b = none ∨ g b = none
structure Sat2 (w : World) (h g : H) : Prop where
  hs : Sat w h
  gs : Sat w g
  ap : Apart h g
structure Ext (w w' : World) : Prop where
  os : w'.os = w.os
  tape : w'.tape = w.tape
  output : w'.output = w.output
  size : w.heap.size ≤ w'.heap.size
theorem Ext.refl (w : World) : Ext w w := ⟨rfl, rfl, rfl, Nat.le_refl _⟩
theorem Ext.trans {a b c : World} (x : Ext a b) (y : Ext b c) : Ext a c :=
  ⟨y.os.trans x.os, y.tape.trans x.tape, y.output.trans x.output, Nat.le_trans x.size y.size⟩

theorem Sat.fresh {w : World} {h : H} (s : Sat w h) {b : Nat} (hb : w.heap.size ≤ b) : h b = none := by
  cases e : h b with
  | none => rfl
  | some o => have := s b o e; rw [Array.getElem?_eq_none hb] at this; cases this

theorem Sat.push {w : World} {h : H} (s : Sat w h) (o : Obj) : Sat { w with heap := w.heap.push o } (upd h w.heap.size o) := by
  intro b o' e
  unfold upd at e
  show (w.heap.push o)[b]? = _
  rw [Array.getElem?_push]
  by_cases hb : b = w.heap.size
  · simpa [hb] using e
  · rw [if_neg hb] at e
    rw [if_neg hb]; exact s b o' e
theorem Sat.keep {w : World} {g : H} (s : Sat w g) (o : Obj) : Sat { w with heap := w.heap.push o } g := by
  intro b o' e
  have := s b o' e
  show (w.heap.push o)[b]? = _
  rw [Array.getElem?_push, if_neg (fun hb => by rw [s.fresh (Nat.le_of_eq hb.symm)] at e; cases e)]; exact this
theorem Sat2.push {w : World} {h g : H} (s : Sat2 w h g) (o : Obj) : Sat2 { w with heap := w.heap.push o } (upd h w.heap.size o) g := by
  refine ⟨s.hs.push o, s.gs.keep o, fun b => ?_⟩
  by_cases hb : b = w.heap.size
  · exact .inr (s.gs.fresh (Nat.le_of_eq hb.symm))
  · rw [upd_ne _ _ hb]; exact s.ap b

/-- A known block is written anew. -/
theorem Sat2.put {w w' : World} {h g : H} (s : Sat2 w h g) {r : Nat} {o o' : Obj} (hr : h r = some o)
    (hn : ∀ b, b ≠ r → w'.heap[b]? = w.heap[b]?) (he : w'.heap[r]? = some o') : Sat2 w' (upd h r o') g := by
  refine ⟨fun b x e => ?_, fun b x e => ?_, fun b => ?_⟩
  · by_cases hb : b = r
    · subst hb; rw [upd_same] at e; cases e; exact he
    · rw [upd_ne _ _ hb] at e; rw [hn b hb]; exact s.hs b x e
  · by_cases hb : b = r
    · subst hb; rcases s.ap b with k | k
      · rw [hr] at k; cases k
      · rw [k] at e; cases e
    · rw [hn b hb]; exact s.gs b x e
  · by_cases hb : b = r
    · subst hb; rcases s.ap b with k | k
      · rw [hr] at k; cases k
      · exact .inr k
    · rw [upd_ne _ _ hb]; exact s.ap b

def frozenIn (o : Obj) (off : Nat) : Bool := match o with | .cells _ _ (lo, hi) => decide (lo ≤ off) && decide (off < hi) | _ => false
def shapeIn (o : Obj) : Option (TypeId × Nat) := match o with | .cells c e _ => some (e, c.size) | _ => none
def isCells (o : Obj) : Bool := match o with | .cells .. => true | _ => false
def freezeIn (o : Obj) (a : Addr) (n : Nat) : Obj := match o with
  | .cells c elem (lo, hi) => .cells c elem (if lo == hi then (a.off, a.off + n) else (min lo a.off, max hi (a.off + n)))
  | o => o
def plainVal : Value → Bool | .agg _ => false | .tuple _ => false | _ => true

/-- What an operation does, from the part 'h' of memory; where it may end: 'K' at a value, 'E' at a panic. A new block is any that 'h' has not; an answer that is drawn is any. The flag: room was asked for that no memory bears. -/
def awp {α : Type} (P : Program) : Sem α → H → Bool → (α → H → Bool → Prop) → (Value → H → Prop) → Prop
  | .pure a, h, fl, K, _ => K a h fl
  | .load _ a k, h, fl, K, E => a.spot = none ∧ ∃ c e fz v, h a.block = some (.cells c e fz) ∧ c[a.off]? = some v ∧ awp P (k v) h fl K E
  | .store _ a v k, h, fl, K, E => a.spot = none ∧ plainVal v = true ∧ ∃ c e fz, h a.block = some (.cells c e fz) ∧ a.off < c.size ∧ frozenIn (.cells c e fz) a.off = false ∧ awp P k (upd h a.block (.cells (c.setIfInBounds a.off v) e fz)) fl K E
  | .new o k, h, fl, K, E => ∀ b, h b = none → awp P (k b) (upd h b o) fl K E
  | .shape r k, h, fl, K, E => ∃ o, h r = some o ∧ awp P (k (shapeIn o)) h fl K E
  | .freeze a n k, h, fl, K, E => ∃ o, h a.block = some o ∧ isCells o = true ∧ n ≠ 0 ∧ awp P k (upd h a.block (freezeIn o a n)) fl K E
  | .frozen a k, h, fl, K, E => ∃ o, h a.block = some o ∧ awp P (k (frozenIn o a.off)) h fl K E
  | .getObj r k, h, fl, K, E => ∃ o, h r = some o ∧ isCells o = false ∧ awp P (k o) h fl K E
  | .setObj r o k, h, fl, K, E => ∃ o', h r = some o' ∧ isCells o' = false ∧ awp P k (upd h r o) fl K E
  | .choose q k, h, fl, K, E => if q.forced then awp P (k 0) h fl K E else ∀ n, awp P (k (q.cut n)) h fl K E
  | .sys _ _, _, _, _, _ => False
  | .program k, h, fl, K, E => awp P (k P) h fl K E
  | .mark m k, h, fl, K, E => awp P k h (fl || decide (m = .noRoom)) K E
  | .halt (.panic v), h, _, _, E => E v h
  | .halt _, _, _, _, _ => False

theorem awp_mono {α : Type} {P : Program} {K K' : α → H → Bool → Prop} {E E' : Value → H → Prop} (hK : ∀ a h fl, K a h fl → K' a h fl) (hE : ∀ v h, E v h → E' v h) :
    ∀ (s : Sem α) (h : H) (fl : Bool), awp P s h fl K E → awp P s h fl K' E' := by
  intro s
  induction s with
  | pure a => exact fun h fl x => hK _ _ _ x
  | load m a k ih => rintro h fl ⟨h1, c, e, fz, v, h2, h3, h4⟩; exact ⟨h1, c, e, fz, v, h2, h3, ih v h fl h4⟩
  | store m a v k ih => rintro h fl ⟨h1, h2, c, e, fz, h3, h4, h5, h6⟩; exact ⟨h1, h2, c, e, fz, h3, h4, h5, ih _ _ h6⟩
  | new o k ih => exact fun h fl x b hb => ih b _ _ (x b hb)
  | shape r k ih => rintro h fl ⟨o, h1, h2⟩; exact ⟨o, h1, ih _ _ _ h2⟩
  | freeze a n k ih => rintro h fl ⟨o, h1, h2, h3, h4⟩; exact ⟨o, h1, h2, h3, ih _ _ h4⟩
  | frozen a k ih => rintro h fl ⟨o, h1, h2⟩; exact ⟨o, h1, ih _ _ _ h2⟩
  | getObj r k ih => rintro h fl ⟨o, h1, h2, h3⟩; exact ⟨o, h1, h2, ih _ _ _ h3⟩
  | setObj r o k ih => rintro h fl ⟨o', h1, h2, h3⟩; exact ⟨o', h1, h2, ih _ _ h3⟩
  | choose q k ih =>
    intro h fl x
    simp only [awp] at x ⊢
    split at x
    · rename_i hf; rw [if_pos hf]; exact ih _ _ _ x
    · rename_i hf; rw [if_neg hf]; exact fun n => ih _ _ _ (x n)
  | sys c k ih => exact fun h fl x => x.elim
  | program k ih => exact fun h fl x => ih _ _ _ x
  | mark m k ih => exact fun h fl x => ih _ _ x
  | halt e =>
    intro h fl x
    cases e with
    | panic v => exact hE _ _ x
    | unsupported u => cases u <;> first | exact x | exact x.elim
    | _ => exact x.elim

theorem awp_bind' {α β : Type} {P : Program} {K : β → H → Bool → Prop} {E : Value → H → Prop} (f : α → Sem β) :
    ∀ (s : Sem α) (h : H) (fl : Bool), awp P (s.bind f) h fl K E ↔ awp P s h fl (fun a h' fl' => awp P (f a) h' fl' K E) E := by
  intro s
  induction s with
  | pure a => exact fun h fl => Iff.rfl
  | load m a k ih => intro h fl; simp only [Sem.bind, awp, ih]
  | store m a v k ih => intro h fl; simp only [Sem.bind, awp, ih]
  | new o k ih => intro h fl; simp only [Sem.bind, awp, ih]
  | shape r k ih => intro h fl; simp only [Sem.bind, awp, ih]
  | freeze a n k ih => intro h fl; simp only [Sem.bind, awp, ih]
  | frozen a k ih => intro h fl; simp only [Sem.bind, awp, ih]
  | getObj r k ih => intro h fl; simp only [Sem.bind, awp, ih]
  | setObj r o k ih => intro h fl; simp only [Sem.bind, awp, ih]
  | choose q k ih => intro h fl; simp only [Sem.bind, awp, ih]
  | sys c k ih => intro h fl; simp only [Sem.bind, awp]
  | program k ih => intro h fl; simp only [Sem.bind, awp, ih]
  | mark m k ih => intro h fl; simp only [Sem.bind, awp, ih]
  | halt e =>
    intro h fl
    cases e with
    | unsupported u => cases u <;> exact Iff.rfl
    | _ => exact Iff.rfl
theorem awp_bind {α β : Type} {P : Program} {K : β → H → Bool → Prop} {E : Value → H → Prop} (s : Sem α) (f : α → Sem β) (h : H) (fl : Bool) :
    awp P (s >>= f) h fl K E ↔ awp P s h fl (fun a h' fl' => awp P (f a) h' fl' K E) E := awp_bind' f s h fl

/-- How a run of the model's operation ends, by 'awp': at a value or a panic with the frame kept, or where no memory bears what was asked. -/
def badHalt {α : Type} : Result α → Prop
  | .halt .blocked _ | .halt .waiting _ | .halt (.unsupported (.initOrder _)) _ => True
  | _ => False
def Done {α : Type} (P : Program) (s : Sem α) (w : World) (fl : Bool) (es : Array Event) (g : H) (K : α → H → Bool → Prop) (E : Value → H → Prop) : Prop :=
  ((∃ a w' h' fl', s.run P w = .ok a w' ∧ Sat2 w' h' g ∧ Ext w w' ∧ K a h' fl' ∧ (fl' = true → fl = true ∨ noRoomEvent ∈ (s.runT P w es).2)) ∨
   (∃ v w' h', s.run P w = .halt (.panic v) w' ∧ Sat2 w' h' g ∧ Ext w w' ∧ E v h'))

theorem runT_mem {α : Type} (P : Program) : ∀ (s : Sem α) (w : World) (es : Array Event) (e : Event), e ∈ es → e ∈ (s.runT P w es).2 := by
  intro s
  induction s with
  | pure a => exact fun w es e h => h
  | load m a k ih =>
    intro w es e h; simp only [Sem.runT]
    split
    · exact ih _ _ _ _ (Array.mem_push.2 (.inl h))
    · split
      · exact ih _ _ _ _ (Array.mem_append.2 (.inl h))
      · exact h
  | store m a v k ih =>
    intro w es e h
    cases v <;> simp only [Sem.runT] <;> first
      | exact h
      | (split
         · split
           · exact h
           · exact ih _ _ _ (Array.mem_push.2 (.inl h))
         · split
           · exact ih _ _ _ (Array.mem_append.2 (.inl h))
           · exact h)
  | new o k ih => intro w es e h; exact ih _ _ _ _ h
  | shape r k ih => intro w es e h; exact ih _ _ _ _ h
  | freeze a n k ih => intro w es e h; exact ih _ _ _ h
  | frozen a k ih => intro w es e h; exact ih _ _ _ _ h
  | getObj r k ih =>
    intro w es e h; simp only [Sem.runT]
    split
    · exact h
    · exact ih _ _ _ _ (Array.mem_push.2 (.inl h))
    · exact h
  | setObj r o k ih =>
    intro w es e h; simp only [Sem.runT]
    split
    · exact h
    · exact ih _ _ _ (Array.mem_push.2 (.inl h))
    · exact h
  | choose q k ih =>
    intro w es e h; simp only [Sem.runT]
    split <;> exact ih _ _ _ _ h
  | sys c k ih => intro w es e h; exact ih _ _ _ _ (Array.mem_push.2 (.inl h))
  | program k ih => intro w es e h; exact ih _ _ _ _ h
  | mark m k ih => intro w es e h; exact ih _ _ _ (Array.mem_push.2 (.inl h))
  | halt x => exact fun w es e h => h
theorem cell_of {w : World} {h : H} (s : Sat w h) {a : Addr} {c : Array Value} {e : TypeId} {fz : Nat × Nat} {v : Value} (hs : a.spot = none)
    (hb : h a.block = some (.cells c e fz)) (hv : c[a.off]? = some v) : w.cell? a = some v := by
  simp [World.cell?, s _ _ hb, hs, hv]
theorem frozen_of {w : World} {h : H} (s : Sat w h) {a : Addr} {o : Obj} (hb : h a.block = some o) : w.frozen? a = frozenIn o a.off := by
  simp only [World.frozen?, s _ _ hb, frozenIn]
  split <;> simp_all
theorem shape_of {w : World} {h : H} (s : Sat w h) {r : Nat} {o : Obj} (hb : h r = some o) : w.shape? r = shapeIn o := by
  simp only [World.shape?, s _ _ hb, shapeIn]
  split <;> simp_all

theorem run_store_plain {α : Type} {P : Program} {m : Mode} {a : Addr} {v : Value} {k : Sem α} {w : World} (hv : plainVal v = true) {u : Value} (hc : w.cell? a = some u) (hf : w.frozen? a = false) :
    (Sem.store m a v k).run P w = k.run P (w.setCell a v) := by
  cases v <;> simp_all [Sem.run, plainVal]
theorem runT_store_plain {α : Type} {P : Program} {m : Mode} {a : Addr} {v : Value} {k : Sem α} {w : World} {es : Array Event} (hv : plainVal v = true) {u : Value} (hc : w.cell? a = some u) (hf : w.frozen? a = false) :
    (Sem.store m a v k).runT P w es = k.runT P (w.setCell a v) (es.push ⟨.cell a, true, m == .atomic⟩) := by
  cases v <;> simp_all [Sem.runT, plainVal]

theorem Done.of {α β : Type} {P : Program} {s : Sem α} {t : Sem α} {w w1 : World} {fl fl1 : Bool} {es es1 : Array Event} {g : H} {K : α → H → Bool → Prop} {E : Value → H → Prop} (_ : β)
    (d : Done P t w1 fl1 es1 g K E) (hx : Ext w w1) (hr : s.run P w = t.run P w1) (ht : (s.runT P w es).2 = (t.runT P w1 es1).2)
    (hf : fl1 = true → fl = true ∨ noRoomEvent ∈ (s.runT P w es).2) : Done P s w fl es g K E := by
  rcases d with ⟨a, w', h', fl', h1, h2, h3, h4, h5⟩ | ⟨v, w', h', h1, h2, h3, h4⟩
  · exact .inl ⟨a, w', h', fl', hr.trans h1, h2, hx.trans h3, h4, fun e => (h5 e).elim hf (fun m => .inr (by rw [ht]; exact m))⟩
  · exact .inr ⟨v, w', h', hr.trans h1, h2, hx.trans h3, h4⟩

theorem awp_sound {α : Type} {P : Program} {K : α → H → Bool → Prop} {E : Value → H → Prop} :
    ∀ (s : Sem α) (h : H) (fl : Bool), awp P s h fl K E → ∀ (w : World) (es : Array Event) (g : H), Sat2 w h g → Done P s w fl es g K E := by
  intro s
  induction s with
  | pure a => exact fun h fl x w es g sat => .inl ⟨a, w, h, fl, rfl, sat, .refl w, x, .inl⟩
  | load m a k ih =>
    rintro h fl ⟨h1, c, e, fz, v, h2, h3, h4⟩ w es g sat
    have hc := cell_of sat.hs h1 h2 h3
    exact .of () (ih v h fl h4 w (es.push ⟨.cell a, false, m == .atomic⟩) g sat) (.refl w) (by simp [Sem.run, hc]) (by simp only [Sem.runT, hc]) .inl
  | store m a v k ih =>
    rintro h fl ⟨h1, hp, c, e, fz, h2, h3, h4, h5⟩ w es g sat
    have hc := cell_of sat.hs h1 h2 (v := c[a.off]) (by simp [h3])
    have hf : w.frozen? a = false := by rw [frozen_of sat.hs h2]; exact h4
    have sat' : Sat2 (w.setCell a v) (upd h a.block (.cells (c.setIfInBounds a.off v) e fz)) g := by
      refine sat.put h2 (fun b hb => ?_) ?_
      · simp only [World.setCell, Array.getElem?_modify, if_neg (Ne.symm hb)]
      · simp [World.setCell, Array.getElem?_modify, sat.hs _ _ h2, h1]
    exact .of () (ih _ _ h5 (w.setCell a v) (es.push ⟨.cell a, true, m == .atomic⟩) g sat') ⟨rfl, rfl, rfl, by simp [World.setCell]⟩
      (run_store_plain hp hc hf) (by rw [runT_store_plain hp hc hf]) .inl
  | new o k ih =>
    intro h fl x w es g sat
    exact .of () (ih w.heap.size _ fl (x _ (sat.hs.fresh (Nat.le_refl _))) _ es g (sat.push o)) ⟨rfl, rfl, rfl, by simp⟩ rfl rfl .inl
  | shape r k ih =>
    rintro h fl ⟨o, h1, h2⟩ w es g sat
    have hs := shape_of sat.hs h1
    exact .of () (ih _ h fl h2 w es g sat) (.refl w) (by simp [Sem.run, hs]) (by simp only [Sem.runT, hs]) .inl
  | freeze a n k ih =>
    rintro h fl ⟨o, h1, h2, h3, h4⟩ w es g sat
    have sat' : Sat2 (w.freeze a n) (upd h a.block (freezeIn o a n)) g := by
      refine sat.put h1 (fun b hb => ?_) ?_
      · simp only [World.freeze, if_neg h3, Array.getElem?_modify, if_neg (Ne.symm hb)]
      · cases o <;> simp [isCells] at h2
        rename_i c e fz
        obtain ⟨lo, hi⟩ := fz
        simp [World.freeze, h3, Array.getElem?_modify, sat.hs _ _ h1, freezeIn]
    exact .of () (ih _ _ h4 (w.freeze a n) es g sat') ⟨by simp [World.freeze, h3], by simp [World.freeze, h3], by simp [World.freeze, h3], by simp [World.freeze, h3]⟩ rfl rfl .inl
  | frozen a k ih =>
    rintro h fl ⟨o, h1, h2⟩ w es g sat
    have hs := frozen_of (a := a) sat.hs h1
    exact .of () (ih _ h fl h2 w es g sat) (.refl w) (by simp [Sem.run, hs]) (by simp only [Sem.runT, hs]) .inl
  | getObj r k ih =>
    rintro h fl ⟨o, h1, h2, h3⟩ w es g sat
    have hs := sat.hs _ _ h1
    refine .of () (ih _ h fl h3 w (es.push ⟨.obj r, false, o.isChan⟩) g sat) (.refl w) ?_ ?_ .inl
    · cases o <;> simp_all [Sem.run, isCells]
    · cases o <;> first | (simp [isCells] at h2; done) | simp only [Sem.runT, hs]
  | setObj r o k ih =>
    rintro h fl ⟨o', h1, h2, h3⟩ w es g sat
    have hs := sat.hs _ _ h1
    have hlt : r < w.heap.size := by
      rcases Nat.lt_or_ge r w.heap.size with q | q
      · exact q
      · rw [Array.getElem?_eq_none q] at hs; cases hs
    have sat' : Sat2 { w with heap := w.heap.setIfInBounds r o } (upd h r o) g := by
      refine sat.put h1 (fun b hb => ?_) ?_
      · exact Array.getElem?_setIfInBounds_ne (Ne.symm hb)
      · simp [hlt]
    refine .of () (ih _ _ h3 { w with heap := w.heap.setIfInBounds r o } (es.push ⟨.obj r, true, o.isChan⟩) g sat') ⟨rfl, rfl, rfl, by simp⟩ ?_ ?_ .inl
    · cases o' <;> simp_all [Sem.run, isCells]
    · cases o' <;> first | (simp [isCells] at h2; done) | simp only [Sem.runT, hs]
  | choose q k ih =>
    intro h fl x w es g sat
    simp only [awp] at x
    by_cases hf : q.forced
    · rw [if_pos hf] at x
      exact .of () (ih _ h fl x w es g sat) (.refl w) (by simp [Sem.run, hf]) (by simp only [Sem.runT, hf, if_true]) .inl
    · rw [if_neg hf] at x
      exact .of () (ih _ h fl (x (w.tape w.drawn q)) { w with drawn := w.drawn + 1 } es g ⟨sat.hs, sat.gs, sat.ap⟩) ⟨rfl, rfl, rfl, Nat.le_refl _⟩ (by simp [Sem.run, hf]) (by simp only [Sem.runT, hf, if_false, Bool.false_eq_true]) .inl
  | sys c k ih => exact fun h fl x => x.elim
  | program k ih => exact fun h fl x w es g sat => .of () (ih _ h fl x w es g sat) (.refl w) rfl rfl .inl
  | mark m k ih =>
    intro h fl x w es g sat
    refine .of () (ih h _ x w (es.push ⟨.mark m, false, true⟩) g sat) (.refl w) rfl rfl (fun e => ?_)
    cases fl with
    | true => exact .inl rfl
    | false =>
      have hm : m = .noRoom := by simpa using e
      subst hm
      exact .inr (runT_mem P k w (es.push ⟨.mark .noRoom, false, true⟩) noRoomEvent (Array.mem_push.2 (.inr rfl)))
  | halt e =>
    intro h fl x w es g sat
    cases e with
    | panic v => exact .inr ⟨v, w, h, rfl, sat, .refl w, x⟩
    | _ => exact x.elim

/-- A way through an operation on which nothing is written. -/
def qwp {α : Type} (P : Program) : Sem α → H → (α → H → Prop) → (Value → H → Prop) → Prop
  | .pure a, h, K, _ => K a h
  | .load _ a k, h, K, E => a.spot = none ∧ ∃ c e fz v, h a.block = some (.cells c e fz) ∧ c[a.off]? = some v ∧ qwp P (k v) h K E
  | .new o k, h, K, E => ∀ b, h b = none → qwp P (k b) (upd h b o) K E
  | .shape r k, h, K, E => ∃ o, h r = some o ∧ qwp P (k (shapeIn o)) h K E
  | .frozen a k, h, K, E => ∃ o, h a.block = some o ∧ qwp P (k (frozenIn o a.off)) h K E
  | .getObj r k, h, K, E => ∃ o, h r = some o ∧ isCells o = false ∧ qwp P (k o) h K E
  | .choose q k, h, K, E => if q.forced then qwp P (k 0) h K E else ∀ n, qwp P (k (q.cut n)) h K E
  | .program k, h, K, E => qwp P (k P) h K E
  | .mark m k, h, K, E => m ≠ .noRoom ∧ qwp P k h K E
  | .halt (.panic v), h, _, E => E v h
  | _, _, _, _ => False
theorem qwp_mono {α : Type} {P : Program} {K K' : α → H → Prop} {E E' : Value → H → Prop} (hK : ∀ a h, K a h → K' a h) (hE : ∀ v h, E v h → E' v h) :
    ∀ (s : Sem α) (h : H), qwp P s h K E → qwp P s h K' E' := by
  intro s
  induction s with
  | pure a => exact fun h x => hK _ _ x
  | load m a k ih => rintro h ⟨h1, c, e, fz, v, h2, h3, h4⟩; exact ⟨h1, c, e, fz, v, h2, h3, ih v h h4⟩
  | new o k ih => exact fun h x b hb => ih b _ (x b hb)
  | shape r k ih => rintro h ⟨o, h1, h2⟩; exact ⟨o, h1, ih _ _ h2⟩
  | frozen a k ih => rintro h ⟨o, h1, h2⟩; exact ⟨o, h1, ih _ _ h2⟩
  | getObj r k ih => rintro h ⟨o, h1, h2, h3⟩; exact ⟨o, h1, h2, ih _ _ h3⟩
  | choose q k ih =>
    intro h x
    simp only [qwp] at x ⊢
    split at x
    · rename_i hf; rw [if_pos hf]; exact ih _ _ x
    · rename_i hf; rw [if_neg hf]; exact fun n => ih _ _ (x n)
  | program k ih => exact fun h x => ih _ _ x
  | mark m k ih => exact fun h x => ⟨x.1, ih _ x.2⟩
  | halt e =>
    intro h x
    cases e with
    | panic v => exact hE _ _ x
    | _ => exact x.elim
  | _ => exact fun h x => x.elim
theorem qwp_bind' {α β : Type} {P : Program} {K : β → H → Prop} {E : Value → H → Prop} (f : α → Sem β) :
    ∀ (s : Sem α) (h : H), qwp P (s.bind f) h K E ↔ qwp P s h (fun a h' => qwp P (f a) h' K E) E := by
  intro s
  induction s with
  | pure a => exact fun h => Iff.rfl
  | load m a k ih => intro h; simp only [Sem.bind, qwp, ih]
  | store m a v k ih => intro h; simp only [Sem.bind, qwp]
  | new o k ih => intro h; simp only [Sem.bind, qwp, ih]
  | shape r k ih => intro h; simp only [Sem.bind, qwp, ih]
  | freeze a n k ih => intro h; simp only [Sem.bind, qwp]
  | frozen a k ih => intro h; simp only [Sem.bind, qwp, ih]
  | getObj r k ih => intro h; simp only [Sem.bind, qwp, ih]
  | setObj r o k ih => intro h; simp only [Sem.bind, qwp]
  | choose q k ih => intro h; simp only [Sem.bind, qwp, ih]
  | sys c k ih => intro h; simp only [Sem.bind, qwp]
  | program k ih => intro h; simp only [Sem.bind, qwp, ih]
  | mark m k ih => intro h; simp only [Sem.bind, qwp, ih]
  | halt e => intro h; cases e <;> exact Iff.rfl
theorem qwp_bind {α β : Type} {P : Program} {K : β → H → Prop} {E : Value → H → Prop} (s : Sem α) (f : α → Sem β) (h : H) :
    qwp P (s >>= f) h K E ↔ qwp P s h (fun a h' => qwp P (f a) h' K E) E := qwp_bind' f s h
theorem qwp_awp {α : Type} {P : Program} {K : α → H → Prop} {E : Value → H → Prop} : ∀ (s : Sem α) (h : H), qwp P s h K E → awp P s h false (fun a h' fl => fl = false ∧ K a h') E := by
  intro s
  induction s with
  | pure a => exact fun h x => ⟨rfl, x⟩
  | load m a k ih => rintro h ⟨h1, c, e, fz, v, h2, h3, h4⟩; exact ⟨h1, c, e, fz, v, h2, h3, ih v h h4⟩
  | new o k ih => exact fun h x b hb => ih b _ (x b hb)
  | shape r k ih => rintro h ⟨o, h1, h2⟩; exact ⟨o, h1, ih _ _ h2⟩
  | frozen a k ih => rintro h ⟨o, h1, h2⟩; exact ⟨o, h1, ih _ _ h2⟩
  | getObj r k ih => rintro h ⟨o, h1, h2, h3⟩; exact ⟨o, h1, h2, ih _ _ h3⟩
  | choose q k ih =>
    intro h x
    simp only [qwp] at x
    simp only [awp]
    split at x
    · rename_i hf; rw [if_pos hf]; exact ih _ _ x
    · rename_i hf; rw [if_neg hf]; exact fun n => ih _ _ (x n)
  | program k ih => exact fun h x => ih _ _ x
  | mark m k ih =>
    intro h x
    have e : (false || decide (m = Mark.noRoom)) = false := by simp [x.1]
    simp only [awp, e]
    exact ih _ x.2
  | halt e =>
    intro h x
    cases e with
    | panic v => exact x
    | _ => exact x.elim
  | _ => exact fun h x => x.elim
end Go.Proofs.Ytlnlmideghepnaa.K
