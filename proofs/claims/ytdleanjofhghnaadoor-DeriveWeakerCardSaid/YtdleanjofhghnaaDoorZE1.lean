/- deriveWeaker: true at every input, the arguments as they were: no condition. Part 1 of 5. -/
import Derived.Calls
import Derived.RunT
import Derived.Scope
import Derived.Orders
import Derived.Laws.Sem
import Derived.RangeFuncRecord
import Derived.Test.YtdleanjofhghnaaDoorRows
import Derived.ProofKit
import Derived.Below
import Derived.ChangeSame
import Derived.Deep.Slices
import Derived.Laws.Strings
import Derived.Test.YtdleanjofhghnaaDoorProg
import Derived.KernelRfl
import Derived.ChangeMaps5
import Derived.Laws.BitsLemmas
import GoSem.Claim
import Derived.WalkKit
import Derived.LaidEql
import Derived.Stop.Asserts
import Derived.RowKitTokens
import Derived.ChangeVars
import Derived.JoinedOf
import Derived.LaidLaws
import Derived.LaidHandle
import Derived.Stop.Joined
import Derived.Test.YtdleanjofhghnaaDoorTie
import Derived.Test.YtdleanjofhghnaaDoorCards
import Derived.SevenTiedAt
namespace Go.Proofs.YtdleanjofhghnaaDoor.K
open Go
abbrev H := Nat → Option Obj
def upd (h : H) (b : Nat) (o : Obj) : H := fun x => if x = b then some o else h x
theorem upd_same (h : H) (b : Nat) (o : Obj) : upd h b o b = some o := by simp [upd]
theorem upd_ne (h : H) {b x : Nat} (o : Obj) (e : x ≠ b) : upd h b o x = h x := by simp [upd, e]
theorem upd_none {h : H} {b x : Nat} {o : Obj} : upd h b o x = none ↔ x ≠ b ∧ h x = none := by
  unfold upd; by_cases e : x = b <;> simp [e]
theorem upd_upd (h : H) (b : Nat) (o o' : Obj) : upd (upd h b o) b o' = upd h b o' := by
  funext x; unfold upd; split <;> rfl
theorem upd_comm (h : H) {b c : Nat} (o o' : Obj) (e : b ≠ c) : upd (upd h b o) c o' = upd (upd h c o') b o := by
  funext x; unfold upd; by_cases h1 : x = b <;> by_cases h2 : x = c <;> simp_all
theorem upd_self {h : H} {b : Nat} {o : Obj} (e : h b = some o) : upd h b o = h := by
  funext x; unfold upd; split
  · subst_vars; exact e.symm
  · rfl
def Sat (w : World) (h : H) : Prop := ∀ b o, h b = some o → w.heap[b]? = some o
def Apart (h g : H) : Prop := ∀ b, h b = none ∨ g b = none
structure Sat2 (w : World) (h g : H) : Prop where
  hs : Sat w h
  gs : Sat w g
  ap : Apart h g
structure Ext (w w' : World) : Prop where
  os : w'.os = w.os
  tape : w'.tape = w.tape
  output : w'.output = w.output
  size : w.heap.size ≤ w'.heap.size
theorem Ext.refl (w : World) : Ext w w := ⟨rfl, rfl, rfl, Nat.le_refl _⟩
theorem Ext.trans {a b c : World} (x : Ext a b) (y : Ext b c) : Ext a c :=
  ⟨y.os.trans x.os, y.tape.trans x.tape, y.output.trans x.output, Nat.le_trans x.size y.size⟩
theorem Sat.fresh {w : World} {h : H} (s : Sat w h) {b : Nat} (hb : w.heap.size ≤ b) : h b = none := by
  cases e : h b with
  | none => rfl
  | some o => have := s b o e; rw [Array.getElem?_eq_none hb] at this; cases this
theorem Sat.push {w : World} {h : H} (s : Sat w h) (o : Obj) : Sat { w with heap := w.heap.push o } (upd h w.heap.size o) := by
  intro b o' e
  unfold upd at e
  show (w.heap.push o)[b]? = _
  rw [Array.getElem?_push]
  by_cases hb : b = w.heap.size
  · simpa [hb] using e
  · rw [if_neg hb] at e
    rw [if_neg hb]; exact s b o' e
theorem Sat.keep {w : World} {g : H} (s : Sat w g) (o : Obj) : Sat { w with heap := w.heap.push o } g := by
  intro b o' e
  have := s b o' e
  show (w.heap.push o)[b]? = _
  rw [Array.getElem?_push, if_neg (fun hb => by rw [s.fresh (Nat.le_of_eq hb.symm)] at e; cases e)]; exact this
theorem Sat2.push {w : World} {h g : H} (s : Sat2 w h g) (o : Obj) : Sat2 { w with heap := w.heap.push o } (upd h w.heap.size o) g := by
  refine ⟨s.hs.push o, s.gs.keep o, fun b => ?_⟩
  by_cases hb : b = w.heap.size
  · exact .inr (s.gs.fresh (Nat.le_of_eq hb.symm))
  · rw [upd_ne _ _ hb]; exact s.ap b
theorem Sat2.put {w w' : World} {h g : H} (s : Sat2 w h g) {r : Nat} {o o' : Obj} (hr : h r = some o)
    (hn : ∀ b, b ≠ r → w'.heap[b]? = w.heap[b]?) (he : w'.heap[r]? = some o') : Sat2 w' (upd h r o') g := by
  refine ⟨fun b x e => ?_, fun b x e => ?_, fun b => ?_⟩
  · by_cases hb : b = r
    · subst hb; rw [upd_same] at e; cases e; exact he
    · rw [upd_ne _ _ hb] at e; rw [hn b hb]; exact s.hs b x e
  · by_cases hb : b = r
    · subst hb; rcases s.ap b with k | k
      · rw [hr] at k; cases k
      · rw [k] at e; cases e
    · rw [hn b hb]; exact s.gs b x e
  · by_cases hb : b = r
    · subst hb; rcases s.ap b with k | k
      · rw [hr] at k; cases k
      · exact .inr k
    · rw [upd_ne _ _ hb]; exact s.ap b
def frozenIn (o : Obj) (off : Nat) : Bool := match o with | .cells _ _ (lo, hi) => decide (lo ≤ off) && decide (off < hi) | _ => false
def shapeIn (o : Obj) : Option (TypeId × Nat) := match o with | .cells c e _ => some (e, c.size) | _ => none
def isCells (o : Obj) : Bool := match o with | .cells .. => true | _ => false
def freezeIn (o : Obj) (a : Addr) (n : Nat) : Obj := match o with
  | .cells c elem (lo, hi) => .cells c elem (if lo == hi then (a.off, a.off + n) else (min lo a.off, max hi (a.off + n)))
  | o => o
def plainVal : Value → Bool | .agg _ => false | .tuple _ => false | _ => true
def awp {α : Type} (P : Program) : Sem α → H → Bool → (α → H → Bool → Prop) → (Value → H → Prop) → Prop
  | .pure a, h, fl, K, _ => K a h fl
  | .load _ a k, h, fl, K, E => a.spot = none ∧ ∃ c e fz v, h a.block = some (.cells c e fz) ∧ c[a.off]? = some v ∧ awp P (k v) h fl K E
  | .store _ a v k, h, fl, K, E => a.spot = none ∧ plainVal v = true ∧ ∃ c e fz, h a.block = some (.cells c e fz) ∧ a.off < c.size ∧ frozenIn (.cells c e fz) a.off = false ∧ awp P k (upd h a.block (.cells (c.setIfInBounds a.off v) e fz)) fl K E
  | .new o k, h, fl, K, E => ∀ b, h b = none → awp P (k b) (upd h b o) fl K E
  | .shape r k, h, fl, K, E => ∃ o, h r = some o ∧ awp P (k (shapeIn o)) h fl K E
  | .freeze a n k, h, fl, K, E => ∃ o, h a.block = some o ∧ isCells o = true ∧ n ≠ 0 ∧ awp P k (upd h a.block (freezeIn o a n)) fl K E
  | .frozen a k, h, fl, K, E => ∃ o, h a.block = some o ∧ awp P (k (frozenIn o a.off)) h fl K E
  | .getObj r k, h, fl, K, E => ∃ o, h r = some o ∧ isCells o = false ∧ awp P (k o) h fl K E
  | .setObj r o k, h, fl, K, E => ∃ o', h r = some o' ∧ isCells o' = false ∧ awp P k (upd h r o) fl K E
  | .choose q k, h, fl, K, E => if q.forced then awp P (k 0) h fl K E else ∀ n, awp P (k (q.cut n)) h fl K E
  | .sys _ _, _, _, _, _ => False
  | .program k, h, fl, K, E => awp P (k P) h fl K E
  | .mark m k, h, fl, K, E => awp P k h (fl || decide (m = .noRoom)) K E
  | .halt (.panic v), h, _, _, E => E v h
  | .halt _, _, _, _, _ => False
theorem awp_mono {α : Type} {P : Program} {K K' : α → H → Bool → Prop} {E E' : Value → H → Prop} (hK : ∀ a h fl, K a h fl → K' a h fl) (hE : ∀ v h, E v h → E' v h) :
    ∀ (s : Sem α) (h : H) (fl : Bool), awp P s h fl K E → awp P s h fl K' E' := by
  intro s
  induction s with
  | pure a => exact fun h fl x => hK _ _ _ x
  | load m a k ih => rintro h fl ⟨h1, c, e, fz, v, h2, h3, h4⟩; exact ⟨h1, c, e, fz, v, h2, h3, ih v h fl h4⟩
  | store m a v k ih => rintro h fl ⟨h1, h2, c, e, fz, h3, h4, h5, h6⟩; exact ⟨h1, h2, c, e, fz, h3, h4, h5, ih _ _ h6⟩
  | new o k ih => exact fun h fl x b hb => ih b _ _ (x b hb)
  | shape r k ih => rintro h fl ⟨o, h1, h2⟩; exact ⟨o, h1, ih _ _ _ h2⟩
  | freeze a n k ih => rintro h fl ⟨o, h1, h2, h3, h4⟩; exact ⟨o, h1, h2, h3, ih _ _ h4⟩
  | frozen a k ih => rintro h fl ⟨o, h1, h2⟩; exact ⟨o, h1, ih _ _ _ h2⟩
  | getObj r k ih => rintro h fl ⟨o, h1, h2, h3⟩; exact ⟨o, h1, h2, ih _ _ _ h3⟩
  | setObj r o k ih => rintro h fl ⟨o', h1, h2, h3⟩; exact ⟨o', h1, h2, ih _ _ h3⟩
  | choose q k ih =>
    intro h fl x
    simp only [awp] at x ⊢
    split at x
    · rename_i hf; rw [if_pos hf]; exact ih _ _ _ x
    · rename_i hf; rw [if_neg hf]; exact fun n => ih _ _ _ (x n)
  | sys c k ih => exact fun h fl x => x.elim
  | program k ih => exact fun h fl x => ih _ _ _ x
  | mark m k ih => exact fun h fl x => ih _ _ x
  | halt e =>
    intro h fl x
    cases e with
    | panic v => exact hE _ _ x
    | unsupported u => cases u <;> first | exact x | exact x.elim
    | _ => exact x.elim
theorem awp_bind' {α β : Type} {P : Program} {K : β → H → Bool → Prop} {E : Value → H → Prop} (f : α → Sem β) :
    ∀ (s : Sem α) (h : H) (fl : Bool), awp P (s.bind f) h fl K E ↔ awp P s h fl (fun a h' fl' => awp P (f a) h' fl' K E) E := by
  intro s
  induction s with
  | pure a => exact fun h fl => Iff.rfl
  | load m a k ih => intro h fl; simp only [Sem.bind, awp, ih]
  | store m a v k ih => intro h fl; simp only [Sem.bind, awp, ih]
  | new o k ih => intro h fl; simp only [Sem.bind, awp, ih]
  | shape r k ih => intro h fl; simp only [Sem.bind, awp, ih]
  | freeze a n k ih => intro h fl; simp only [Sem.bind, awp, ih]
  | frozen a k ih => intro h fl; simp only [Sem.bind, awp, ih]
  | getObj r k ih => intro h fl; simp only [Sem.bind, awp, ih]
  | setObj r o k ih => intro h fl; simp only [Sem.bind, awp, ih]
  | choose q k ih => intro h fl; simp only [Sem.bind, awp, ih]
  | sys c k ih => intro h fl; simp only [Sem.bind, awp]
  | program k ih => intro h fl; simp only [Sem.bind, awp, ih]
  | mark m k ih => intro h fl; simp only [Sem.bind, awp, ih]
  | halt e =>
    intro h fl
    cases e with
    | unsupported u => cases u <;> exact Iff.rfl
    | _ => exact Iff.rfl
theorem awp_bind {α β : Type} {P : Program} {K : β → H → Bool → Prop} {E : Value → H → Prop} (s : Sem α) (f : α → Sem β) (h : H) (fl : Bool) :
    awp P (s >>= f) h fl K E ↔ awp P s h fl (fun a h' fl' => awp P (f a) h' fl' K E) E := awp_bind' f s h fl
def Done {α : Type} (P : Program) (s : Sem α) (w : World) (fl : Bool) (es : Array Event) (g : H) (K : α → H → Bool → Prop) (E : Value → H → Prop) : Prop :=
  ((∃ a w' h' fl', s.run P w = .ok a w' ∧ Sat2 w' h' g ∧ Ext w w' ∧ K a h' fl' ∧ (fl' = true → fl = true ∨ noRoomEvent ∈ (s.runT P w es).2)) ∨
   (∃ v w' h', s.run P w = .halt (.panic v) w' ∧ Sat2 w' h' g ∧ Ext w w' ∧ E v h'))
theorem runT_mem {α : Type} (P : Program) : ∀ (s : Sem α) (w : World) (es : Array Event) (e : Event), e ∈ es → e ∈ (s.runT P w es).2 := by
  intro s
  induction s with
  | pure a => exact fun w es e h => h
  | load m a k ih =>
    intro w es e h; simp only [Sem.runT]
    split
    · exact ih _ _ _ _ (Array.mem_push.2 (.inl h))
    · split
      · exact ih _ _ _ _ (Array.mem_append.2 (.inl h))
      · exact h
  | store m a v k ih =>
    intro w es e h
    cases v <;> simp only [Sem.runT] <;> first
      | exact h
      | (split
         · split
           · exact h
           · exact ih _ _ _ (Array.mem_push.2 (.inl h))
         · split
           · exact ih _ _ _ (Array.mem_append.2 (.inl h))
           · exact h)
  | new o k ih => intro w es e h; exact ih _ _ _ _ h
  | shape r k ih => intro w es e h; exact ih _ _ _ _ h
  | freeze a n k ih => intro w es e h; exact ih _ _ _ h
  | frozen a k ih => intro w es e h; exact ih _ _ _ _ h
  | getObj r k ih =>
    intro w es e h; simp only [Sem.runT]
    split
    · exact h
    · exact ih _ _ _ _ (Array.mem_push.2 (.inl h))
    · exact h
  | setObj r o k ih =>
    intro w es e h; simp only [Sem.runT]
    split
    · exact h
    · exact ih _ _ _ (Array.mem_push.2 (.inl h))
    · exact h
  | choose q k ih =>
    intro w es e h; simp only [Sem.runT]
    split <;> exact ih _ _ _ _ h
  | sys c k ih => intro w es e h; exact ih _ _ _ _ (Array.mem_push.2 (.inl h))
  | program k ih => intro w es e h; exact ih _ _ _ _ h
  | mark m k ih => intro w es e h; exact ih _ _ _ (Array.mem_push.2 (.inl h))
  | halt x => exact fun w es e h => h
theorem cell_of {w : World} {h : H} (s : Sat w h) {a : Addr} {c : Array Value} {e : TypeId} {fz : Nat × Nat} {v : Value} (hs : a.spot = none)
    (hb : h a.block = some (.cells c e fz)) (hv : c[a.off]? = some v) : w.cell? a = some v := by
  simp [World.cell?, s _ _ hb, hs, hv]
theorem frozen_of {w : World} {h : H} (s : Sat w h) {a : Addr} {o : Obj} (hb : h a.block = some o) : w.frozen? a = frozenIn o a.off := by
  simp only [World.frozen?, s _ _ hb, frozenIn]
  split <;> simp_all
theorem shape_of {w : World} {h : H} (s : Sat w h) {r : Nat} {o : Obj} (hb : h r = some o) : w.shape? r = shapeIn o := by
  simp only [World.shape?, s _ _ hb, shapeIn]
  split <;> simp_all
theorem run_store_plain {α : Type} {P : Program} {m : Mode} {a : Addr} {v : Value} {k : Sem α} {w : World} (hv : plainVal v = true) {u : Value} (hc : w.cell? a = some u) (hf : w.frozen? a = false) :
    (Sem.store m a v k).run P w = k.run P (w.setCell a v) := by
  cases v <;> simp_all [Sem.run, plainVal]
theorem runT_store_plain {α : Type} {P : Program} {m : Mode} {a : Addr} {v : Value} {k : Sem α} {w : World} {es : Array Event} (hv : plainVal v = true) {u : Value} (hc : w.cell? a = some u) (hf : w.frozen? a = false) :
    (Sem.store m a v k).runT P w es = k.runT P (w.setCell a v) (es.push ⟨.cell a, true, m == .atomic⟩) := by
  cases v <;> simp_all [Sem.runT, plainVal]
theorem Done.of {α β : Type} {P : Program} {s : Sem α} {t : Sem α} {w w1 : World} {fl fl1 : Bool} {es es1 : Array Event} {g : H} {K : α → H → Bool → Prop} {E : Value → H → Prop} (_ : β)
    (d : Done P t w1 fl1 es1 g K E) (hx : Ext w w1) (hr : s.run P w = t.run P w1) (ht : (s.runT P w es).2 = (t.runT P w1 es1).2)
    (hf : fl1 = true → fl = true ∨ noRoomEvent ∈ (s.runT P w es).2) : Done P s w fl es g K E := by
  rcases d with ⟨a, w', h', fl', h1, h2, h3, h4, h5⟩ | ⟨v, w', h', h1, h2, h3, h4⟩
  · exact .inl ⟨a, w', h', fl', hr.trans h1, h2, hx.trans h3, h4, fun e => (h5 e).elim hf (fun m => .inr (by rw [ht]; exact m))⟩
  · exact .inr ⟨v, w', h', hr.trans h1, h2, hx.trans h3, h4⟩
theorem awp_sound {α : Type} {P : Program} {K : α → H → Bool → Prop} {E : Value → H → Prop} :
    ∀ (s : Sem α) (h : H) (fl : Bool), awp P s h fl K E → ∀ (w : World) (es : Array Event) (g : H), Sat2 w h g → Done P s w fl es g K E := by
  intro s
  induction s with
  | pure a => exact fun h fl x w es g sat => .inl ⟨a, w, h, fl, rfl, sat, .refl w, x, .inl⟩
  | load m a k ih =>
    rintro h fl ⟨h1, c, e, fz, v, h2, h3, h4⟩ w es g sat
    have hc := cell_of sat.hs h1 h2 h3
    exact .of () (ih v h fl h4 w (es.push ⟨.cell a, false, m == .atomic⟩) g sat) (.refl w) (by simp [Sem.run, hc]) (by simp only [Sem.runT, hc]) .inl
  | store m a v k ih =>
    rintro h fl ⟨h1, hp, c, e, fz, h2, h3, h4, h5⟩ w es g sat
    have hc := cell_of sat.hs h1 h2 (v := c[a.off]) (by simp [h3])
    have hf : w.frozen? a = false := by rw [frozen_of sat.hs h2]; exact h4
    have sat' : Sat2 (w.setCell a v) (upd h a.block (.cells (c.setIfInBounds a.off v) e fz)) g := by
      refine sat.put h2 (fun b hb => ?_) ?_
      · simp only [World.setCell, Array.getElem?_modify, if_neg (Ne.symm hb)]
      · simp [World.setCell, Array.getElem?_modify, sat.hs _ _ h2, h1]
    exact .of () (ih _ _ h5 (w.setCell a v) (es.push ⟨.cell a, true, m == .atomic⟩) g sat') ⟨rfl, rfl, rfl, by simp [World.setCell]⟩
      (run_store_plain hp hc hf) (by rw [runT_store_plain hp hc hf]) .inl
  | new o k ih =>
    intro h fl x w es g sat
    exact .of () (ih w.heap.size _ fl (x _ (sat.hs.fresh (Nat.le_refl _))) _ es g (sat.push o)) ⟨rfl, rfl, rfl, by simp⟩ rfl rfl .inl
  | shape r k ih =>
    rintro h fl ⟨o, h1, h2⟩ w es g sat
    have hs := shape_of sat.hs h1
    exact .of () (ih _ h fl h2 w es g sat) (.refl w) (by simp [Sem.run, hs]) (by simp only [Sem.runT, hs]) .inl
  | freeze a n k ih =>
    rintro h fl ⟨o, h1, h2, h3, h4⟩ w es g sat
    have sat' : Sat2 (w.freeze a n) (upd h a.block (freezeIn o a n)) g := by
      refine sat.put h1 (fun b hb => ?_) ?_
      · simp only [World.freeze, if_neg h3, Array.getElem?_modify, if_neg (Ne.symm hb)]
      · cases o <;> simp [isCells] at h2
        rename_i c e fz
        obtain ⟨lo, hi⟩ := fz
        simp [World.freeze, h3, Array.getElem?_modify, sat.hs _ _ h1, freezeIn]
    exact .of () (ih _ _ h4 (w.freeze a n) es g sat') ⟨by simp [World.freeze, h3], by simp [World.freeze, h3], by simp [World.freeze, h3], by simp [World.freeze, h3]⟩ rfl rfl .inl
  | frozen a k ih =>
    rintro h fl ⟨o, h1, h2⟩ w es g sat
    have hs := frozen_of (a := a) sat.hs h1
    exact .of () (ih _ h fl h2 w es g sat) (.refl w) (by simp [Sem.run, hs]) (by simp only [Sem.runT, hs]) .inl
  | getObj r k ih =>
    rintro h fl ⟨o, h1, h2, h3⟩ w es g sat
    have hs := sat.hs _ _ h1
    refine .of () (ih _ h fl h3 w (es.push ⟨.obj r, false, o.isChan⟩) g sat) (.refl w) ?_ ?_ .inl
    · cases o <;> simp_all [Sem.run, isCells]
    · cases o <;> first | (simp [isCells] at h2; done) | simp only [Sem.runT, hs]
  | setObj r o k ih =>
    rintro h fl ⟨o', h1, h2, h3⟩ w es g sat
    have hs := sat.hs _ _ h1
    have hlt : r < w.heap.size := by
      rcases Nat.lt_or_ge r w.heap.size with q | q
      · exact q
      · rw [Array.getElem?_eq_none q] at hs; cases hs
    have sat' : Sat2 { w with heap := w.heap.setIfInBounds r o } (upd h r o) g := by
      refine sat.put h1 (fun b hb => ?_) ?_
      · exact Array.getElem?_setIfInBounds_ne (Ne.symm hb)
      · simp [hlt]
    refine .of () (ih _ _ h3 { w with heap := w.heap.setIfInBounds r o } (es.push ⟨.obj r, true, o.isChan⟩) g sat') ⟨rfl, rfl, rfl, by simp⟩ ?_ ?_ .inl
    · cases o' <;> simp_all [Sem.run, isCells]
    · cases o' <;> first | (simp [isCells] at h2; done) | simp only [Sem.runT, hs]
  | choose q k ih =>
    intro h fl x w es g sat
    simp only [awp] at x
    by_cases hf : q.forced
    · rw [if_pos hf] at x
      exact .of () (ih _ h fl x w es g sat) (.refl w) (by simp [Sem.run, hf]) (by simp only [Sem.runT, hf, if_true]) .inl
    · rw [if_neg hf] at x
      exact .of () (ih _ h fl (x (w.tape w.drawn q)) { w with drawn := w.drawn + 1 } es g ⟨sat.hs, sat.gs, sat.ap⟩) ⟨rfl, rfl, rfl, Nat.le_refl _⟩ (by simp [Sem.run, hf]) (by simp only [Sem.runT, hf, if_false, Bool.false_eq_true]) .inl
  | sys c k ih => exact fun h fl x => x.elim
  | program k ih => exact fun h fl x w es g sat => .of () (ih _ h fl x w es g sat) (.refl w) rfl rfl .inl
  | mark m k ih =>
    intro h fl x w es g sat
    refine .of () (ih h _ x w (es.push ⟨.mark m, false, true⟩) g sat) (.refl w) rfl rfl (fun e => ?_)
    cases fl with
    | true => exact .inl rfl
    | false =>
      have hm : m = .noRoom := by simpa using e
      subst hm
      exact .inr (runT_mem P k w (es.push ⟨.mark .noRoom, false, true⟩) noRoomEvent (Array.mem_push.2 (.inr rfl)))
  | halt e =>
    intro h fl x w es g sat
    cases e with
    | panic v => exact .inr ⟨v, w, h, rfl, sat, .refl w, x⟩
    | _ => exact x.elim
def qwp {α : Type} (P : Program) : Sem α → H → (α → H → Prop) → (Value → H → Prop) → Prop
  | .pure a, h, K, _ => K a h
  | .load _ a k, h, K, E => a.spot = none ∧ ∃ c e fz v, h a.block = some (.cells c e fz) ∧ c[a.off]? = some v ∧ qwp P (k v) h K E
  | .new o k, h, K, E => ∀ b, h b = none → qwp P (k b) (upd h b o) K E
  | .shape r k, h, K, E => ∃ o, h r = some o ∧ qwp P (k (shapeIn o)) h K E
  | .frozen a k, h, K, E => ∃ o, h a.block = some o ∧ qwp P (k (frozenIn o a.off)) h K E
  | .getObj r k, h, K, E => ∃ o, h r = some o ∧ isCells o = false ∧ qwp P (k o) h K E
  | .choose q k, h, K, E => if q.forced then qwp P (k 0) h K E else ∀ n, qwp P (k (q.cut n)) h K E
  | .program k, h, K, E => qwp P (k P) h K E
  | .mark m k, h, K, E => m ≠ .noRoom ∧ qwp P k h K E
  | .halt (.panic v), h, _, E => E v h
  | _, _, _, _ => False
theorem qwp_mono {α : Type} {P : Program} {K K' : α → H → Prop} {E E' : Value → H → Prop} (hK : ∀ a h, K a h → K' a h) (hE : ∀ v h, E v h → E' v h) :
    ∀ (s : Sem α) (h : H), qwp P s h K E → qwp P s h K' E' := by
  intro s
  induction s with
  | pure a => exact fun h x => hK _ _ x
  | load m a k ih => rintro h ⟨h1, c, e, fz, v, h2, h3, h4⟩; exact ⟨h1, c, e, fz, v, h2, h3, ih v h h4⟩
  | new o k ih => exact fun h x b hb => ih b _ (x b hb)
  | shape r k ih => rintro h ⟨o, h1, h2⟩; exact ⟨o, h1, ih _ _ h2⟩
  | frozen a k ih => rintro h ⟨o, h1, h2⟩; exact ⟨o, h1, ih _ _ h2⟩
  | getObj r k ih => rintro h ⟨o, h1, h2, h3⟩; exact ⟨o, h1, h2, ih _ _ h3⟩
  | choose q k ih =>
    intro h x
    simp only [qwp] at x ⊢
    split at x
    · rename_i hf; rw [if_pos hf]; exact ih _ _ x
    · rename_i hf; rw [if_neg hf]; exact fun n => ih _ _ (x n)
  | program k ih => exact fun h x => ih _ _ x
  | mark m k ih => exact fun h x => ⟨x.1, ih _ x.2⟩
  | halt e =>
    intro h x
    cases e with
    | panic v => exact hE _ _ x
    | _ => exact x.elim
  | _ => exact fun h x => x.elim
theorem qwp_bind' {α β : Type} {P : Program} {K : β → H → Prop} {E : Value → H → Prop} (f : α → Sem β) :
    ∀ (s : Sem α) (h : H), qwp P (s.bind f) h K E ↔ qwp P s h (fun a h' => qwp P (f a) h' K E) E := by
  intro s
  induction s with
  | pure a => exact fun h => Iff.rfl
  | load m a k ih => intro h; simp only [Sem.bind, qwp, ih]
  | store m a v k ih => intro h; simp only [Sem.bind, qwp]
  | new o k ih => intro h; simp only [Sem.bind, qwp, ih]
  | shape r k ih => intro h; simp only [Sem.bind, qwp, ih]
  | freeze a n k ih => intro h; simp only [Sem.bind, qwp]
  | frozen a k ih => intro h; simp only [Sem.bind, qwp, ih]
  | getObj r k ih => intro h; simp only [Sem.bind, qwp, ih]
  | setObj r o k ih => intro h; simp only [Sem.bind, qwp]
  | choose q k ih => intro h; simp only [Sem.bind, qwp, ih]
  | sys c k ih => intro h; simp only [Sem.bind, qwp]
  | program k ih => intro h; simp only [Sem.bind, qwp, ih]
  | mark m k ih => intro h; simp only [Sem.bind, qwp, ih]
  | halt e => intro h; cases e <;> exact Iff.rfl
theorem qwp_bind {α β : Type} {P : Program} {K : β → H → Prop} {E : Value → H → Prop} (s : Sem α) (f : α → Sem β) (h : H) :
    qwp P (s >>= f) h K E ↔ qwp P s h (fun a h' => qwp P (f a) h' K E) E := qwp_bind' f s h
theorem qwp_awp {α : Type} {P : Program} {K : α → H → Prop} {E : Value → H → Prop} : ∀ (s : Sem α) (h : H), qwp P s h K E → awp P s h false (fun a h' fl => fl = false ∧ K a h') E := by
  intro s
  induction s with
  | pure a => exact fun h x => ⟨rfl, x⟩
  | load m a k ih => rintro h ⟨h1, c, e, fz, v, h2, h3, h4⟩; exact ⟨h1, c, e, fz, v, h2, h3, ih v h h4⟩
  | new o k ih => exact fun h x b hb => ih b _ (x b hb)
  | shape r k ih => rintro h ⟨o, h1, h2⟩; exact ⟨o, h1, ih _ _ h2⟩
  | frozen a k ih => rintro h ⟨o, h1, h2⟩; exact ⟨o, h1, ih _ _ h2⟩
  | getObj r k ih => rintro h ⟨o, h1, h2, h3⟩; exact ⟨o, h1, h2, ih _ _ h3⟩
  | choose q k ih =>
    intro h x
    simp only [qwp] at x
    simp only [awp]
    split at x
    · rename_i hf; rw [if_pos hf]; exact ih _ _ x
    · rename_i hf; rw [if_neg hf]; exact fun n => ih _ _ (x n)
  | program k ih => exact fun h x => ih _ _ x
  | mark m k ih =>
    intro h x
    have e : (false || decide (m = Mark.noRoom)) = false := by simp [x.1]
    simp only [awp, e]
    exact ih _ x.2
  | halt e =>
    intro h x
    cases e with
    | panic v => exact x
    | _ => exact x.elim
  | _ => exact fun h x => x.elim
abbrev Env := Nat → Value
def ev (ρ : Env) : Operand → Value
  | .tmp t => ρ t
  | .const v => v
  | .global g => .pointer (some ⟨g, 0, none⟩)
  | .func f => .func (.func f) #[] #[]
def put (ρ : Env) (d : Option Tmp) (v : Value) : Env :=
  match d with
  | some d => fun t => bif Nat.beq t d then v else ρ t
  | none => ρ
structure EnvOf (n : Nat) (a : Act) (ρ : Env) : Prop where
  size : a.tmps.size = n
  val : ∀ t, a.tmps.getD t undef = ρ t
theorem EnvOf.eval {n : Nat} {a : Act} {ρ : Env} (e : EnvOf n a ρ) : a.eval = ev ρ := by
  funext x; cases x <;> first | exact e.val _ | rfl
theorem EnvOf.put {n : Nat} {a : Act} {ρ : Env} (e : EnvOf n a ρ) (d : Option Tmp) (v : Value) (hd : ∀ t, d = some t → t < n) : EnvOf n (a.put d v) (K.put ρ d v) := by
  cases d with
  | none => exact e
  | some d =>
    have hlt : d < a.tmps.size := by rw [e.size]; exact hd d rfl
    refine ⟨by simp [Act.put, e.size], fun t => ?_⟩
    simp only [Act.put, K.put]
    by_cases ht : t = d
    · subst ht; simp [hlt, Nat.beq_refl]
    · have hb : Nat.beq t d = false := by rw [← Bool.not_eq_true, Nat.beq_eq]; exact ht
      rw [hb, cond_false, ← e.val t]
      simp [Array.getElem?_setIfInBounds_ne (Ne.symm ht)]
def yld (ops : Array Oper) (ρ : Env) (j : Nat) : Option Bool :=
  match (ops[j]?).bind (·.dst) with
  | some d => match ρ d with | .bool b => some b | _ => none
  | none => none
theorem EnvOf.yielded {n : Nat} {a : Act} {ρ : Env} (e : EnvOf n a ρ) (ops : Array Oper) : yielded ops a.tmps = yld ops ρ := by
  funext j
  unfold Go.yielded yld
  cases (ops[j]?).bind (·.dst) with
  | none => rfl
  | some d =>
    have := e.val d
    simp only [Option.bind_some]
    cases h : a.tmps[d]? with
    | none => simp [Array.getD_eq_getD_getElem?, h] at this; rw [← this]; rfl
    | some v => simp [Array.getD_eq_getD_getElem?, h] at this; rw [← this]; cases v <;> rfl
def un (L h : H) : H := fun b => match L b with | some o => some o | none => h b
theorem un_left {L h : H} {b : Nat} {o : Obj} (e : L b = some o) : un L h b = some o := by simp [un, e]
theorem un_right {L h : H} {b : Nat} (e : L b = none) : un L h b = h b := by simp [un, e]
theorem un_none {L h : H} {b : Nat} : un L h b = none ↔ L b = none ∧ h b = none := by
  unfold un; cases L b <;> simp
def Grows (L L' : H) : Prop := ∀ b o, L b = some o → L' b = some o
def Covers (L L' : H) : Prop := ∀ b, L b ≠ none → L' b ≠ none
theorem Grows.refl (L : H) : Grows L L := fun _ _ e => e
theorem Grows.trans {a b c : H} (x : Grows a b) (y : Grows b c) : Grows a c := fun _ _ e => y _ _ (x _ _ e)
structure Sat3 (w : World) (L h g : H) : Prop where
  sat : Sat2 w (un L h) g
  ap : Apart L h
theorem Sat3.mem {w : World} {L h g : H} (s : Sat3 w L h g) : Sat2 w h (un L g) := by
  refine ⟨fun b o e => s.sat.hs b o ?_, fun b o e => ?_, fun b => ?_⟩
  · rcases s.ap b with k | k
    · rw [un_right k]; exact e
    · rw [k] at e; cases e
  · unfold un at e
    split at e
    · rename_i o' ho; cases e; exact s.sat.hs b _ (un_left ho)
    · exact s.sat.gs b o e
  · cases hL : L b with
    | some o =>
      rcases s.ap b with k | k
      · rw [hL] at k; cases k
      · exact .inl k
    | none =>
      rw [un_right hL]
      rcases s.sat.ap b with k | k
      · exact .inl (un_none.1 k).2
      · exact .inr k
theorem Sat3.back {w w' : World} {L h h' g : H} (s : Sat3 w L h g) (s' : Sat2 w' h' (un L g)) : Sat3 w' L h' g ∧ Apart L h' := by
  have ap : Apart L h' := fun b => by
    rcases s'.ap b with k | k
    · exact .inr k
    · exact .inl (un_none.1 k).1
  refine ⟨⟨⟨fun b o e => ?_, fun b o e => ?_, fun b => ?_⟩, ap⟩, ap⟩
  · unfold un at e
    split at e
    · rename_i o' ho; cases e; exact s'.gs b _ (un_left ho)
    · exact s'.hs b o e
  · cases hL : L b with
    | none => exact s'.gs b o (by rw [un_right hL]; exact e)
    | some x =>
      rcases s.sat.ap b with k | k
      · rw [un_left hL] at k; cases k
      · rw [k] at e; cases e
  · cases hL : L b with
    | none =>
      rcases s'.ap b with k | k
      · exact .inl (by rw [un_right hL]; exact k)
      · rw [un_right hL] at k; exact .inr k
    | some x =>
      rcases s.sat.ap b with k | k
      · rw [un_left hL] at k; cases k
      · exact .inr k
def ACall (P : Program) (f : FuncId) (args : Array Value) (h : H) (R : Value → H → Prop) (C : List PanicEntry → H → Prop) : Prop :=
  ∀ (w : World) (g : H), Sat2 w h g → Calls P f args w fun e w' => match e with
    | .returned v => ∃ h', Sat2 w' h' g ∧ Ext w w' ∧ R v h'
    | .panicked c => ∃ h', Sat2 w' h' g ∧ Ext w w' ∧ C c h'
    | .outgrown => False
theorem ACall.mono {P : Program} {f : FuncId} {args : Array Value} {h : H} {R R' : Value → H → Prop} {C C' : List PanicEntry → H → Prop}
    (x : ACall P f args h R C) (hR : ∀ v h', R v h' → R' v h') (hC : ∀ v h', C v h' → C' v h') : ACall P f args h R' C' := fun w g s =>
  (x w g s).mono fun e w' r => by
    cases e with
    | returned v => obtain ⟨h', a, b, c⟩ := r; exact ⟨h', a, b, hR _ _ c⟩
    | panicked v => obtain ⟨h', a, b, c⟩ := r; exact ⟨h', a, b, hC _ _ c⟩
    | outgrown => trivial
def ARnd (P : Program) (l : Nat) (f : FuncId) (tmps : Array Value) (assign body : Code) (h : H) (R : Value → H → Prop) (C : List PanicEntry → H → Prop) : Prop :=
  ∀ (m : Nat) (w : World) (g : H), Sat2 w h g → RoundIn Fence.wide m P l f tmps assign body w fun e w' => match e with
    | .returned v => ∃ h', Sat2 w' h' g ∧ Ext w w' ∧ R v h'
    | .panicked c => ∃ h', Sat2 w' h' g ∧ Ext w w' ∧ C c h'
    | .outgrown => False
theorem ARnd.mono {P : Program} {l : Nat} {f : FuncId} {tmps : Array Value} {assign body : Code} {h : H} {R R' : Value → H → Prop} {C C' : List PanicEntry → H → Prop}
    (x : ARnd P l f tmps assign body h R C) (hR : ∀ v h', R v h' → R' v h') (hC : ∀ v h', C v h' → C' v h') : ARnd P l f tmps assign body h R' C' := fun m w g s =>
  (x m w g s).mono fun e w' r => by
    cases e with
    | returned v => obtain ⟨h', a, b, c⟩ := r; exact ⟨h', a, b, hR _ _ c⟩
    | panicked v => obtain ⟨h', a, b, c⟩ := r; exact ⟨h', a, b, hC _ _ c⟩
    | outgrown => trivial
def mutates : Op → Bool
  | .store .. => true
  | .call { callee := .builtin b, .. } => match b with | .close => true | _ => false
  | _ => false
def Ag (op : Op) (L L' : H) : Prop := if mutates op then Covers L L' else Grows L L'
theorem Ag.refl (op : Op) (L : H) : Ag op L L := by
  unfold Ag; split
  · exact fun _ e => e
  · exact .refl L
abbrev Post := Env → H → H → Prop
abbrev PPost := List PanicEntry → H → Prop
def upon (P : Program) (o : Oper) (ρ : Env) (L h : H) (next : Post) (C : PPost) (nx : Next) (hf : H) (_fl : Bool) : Prop :=
  True ∧ ∃ L' h', hf = un L' h' ∧ (Apart L h → Apart L' h') ∧ Ag o.op L L' ∧ match nx with
    | .value v => next (put ρ o.dst v) L' h'
    | .skip => next (put ρ o.dst undef) L' h'
    | .enter f args => ACall P f args h' (fun v h'' => Apart L' h'' → next (put ρ o.dst v) L' h'') (fun c h'' => Apart L' h'' → C c (un L' h''))
    | .round l f tmps assign body => ARnd P l f tmps assign body h' (fun v h'' => Apart L' h'' → next (put ρ o.dst v) L' h'') (fun c h'' => Apart L' h'' → C c (un L' h''))
    | _ => False
def quietOp (P : Program) : Op → Bool
  | .move _ | .assign _ | .pick .. | .load .. | .extract .. | .fieldAddr .. | .field .. | .indexAddr .. | .index .. | .alloc _ | .box .. | .unOp .. | .nilCheck _ | .binOp .. | .build .. | .buildSlice .. | .slice .. | .makeInterface .. | .makeFunc .. | .makeMap .. | .lookup .. | .typeAssert .. => true
  | .convert _ dst _ => match P.underlying dst with | some (.slice _) => false | _ => true
  | .call { callee := .builtin b, .. } => match b with | .len | .cap | .min | .max => true | _ => false
  | _ => false
def isVal : Next → Prop
  | .value _ | .skip => True
  | _ => False
def aOp (P : Program) (o : Oper) (ρ : Env) (L h : H) (next : Post) (C : PPost) : Prop :=
  Apart L h → bif quietOp P o.op then qwp P (execOp (ev ρ) o) (un L h) (fun nx hf => isVal nx ∧ upon P o ρ L h next C nx hf false) (fun v hf => C [{ v, recovered := false }] hf)
  else awp P (execOp (ev ρ) o) (un L h) false (upon P o ρ L h next C) (fun v hf => C [{ v, recovered := false }] hf)
theorem aOp_awp {P : Program} {o : Oper} {ρ : Env} {L h : H} {next : Post} {C : PPost} (x : aOp P o ρ L h next C) (ap : Apart L h) :
    awp P (execOp (ev ρ) o) (un L h) false (upon P o ρ L h next C) (fun v hf => C [{ v, recovered := false }] hf) := by
  replace x := x ap
  cases hq : quietOp P o.op
  · rw [hq] at x; exact x
  · rw [hq] at x
    exact awp_mono (fun a h fl k => by obtain ⟨rfl, _, k⟩ := k; exact k) (fun _ _ k => k) _ _ _ (qwp_awp _ _ x)
def aOpI (P : Program) (ops : Array Oper) (C : PPost) (i : Nat) (next : Post) (ρ : Env) (L h : H) : Prop :=
  match ops[i]? with
  | none => next ρ L h
  | some o => if Region.wanted o (yld ops ρ) then aOp P o ρ L h next C else next (put ρ o.dst undef) L h
def aOps (P : Program) (ops : Array Oper) (next : Post) (C : PPost) : List Nat → Post
  | [] => next
  | i :: rest => fun ρ L h => aOpI P ops C i (aOps P ops next C rest) ρ L h
def aAny (P : Program) (ops : Array Oper) (next : Post) (C : PPost) : Nat → Array Bool → Post
  | 0, listed => fun ρ L h => Region.ready .any ops listed = [] ∧ next ρ L h
  | fuel + 1, listed => fun ρ L h => (Region.ready .any ops listed = [] → next ρ L h) ∧
      ∀ i ∈ Region.ready .any ops listed, aOpI P ops C i (aAny P ops next C fuel (listed.setIfInBounds i true)) ρ L h
theorem upon_mono {P : Program} {o : Oper} {ρ : Env} {L h : H} {next next' : Post} {C : PPost} (hn : ∀ ρ L h, next ρ L h → next' ρ L h) {nx : Next} {hf : H} {fl : Bool}
    (u : upon P o ρ L h next C nx hf fl) : upon P o ρ L h next' C nx hf fl := by
  refine u.imp id fun ⟨L', h', e, ap, ag, m⟩ => ⟨L', h', e, ap, ag, ?_⟩
  cases nx <;> first | exact hn _ _ _ m | exact m.mono (fun v h'' k a => hn _ _ _ (k a)) (fun _ _ k => k) | exact m
theorem aOp_mono {P : Program} {o : Oper} {ρ : Env} {L h : H} {next next' : Post} {C : PPost} (hn : ∀ ρ L h, next ρ L h → next' ρ L h)
    (x : aOp P o ρ L h next C) : aOp P o ρ L h next' C := by
  intro ap
  replace x := x ap
  cases hq : quietOp P o.op
  · rw [hq] at x; exact awp_mono (fun _ _ _ => upon_mono hn) (fun _ _ k => k) _ _ _ x
  · rw [hq] at x; exact qwp_mono (fun _ _ k => ⟨k.1, upon_mono hn k.2⟩) (fun _ _ k => k) _ _ x
theorem aOpI_mono {P : Program} {ops : Array Oper} {C : PPost} {i : Nat} {next next' : Post} (hn : ∀ ρ L h, next ρ L h → next' ρ L h) {ρ : Env} {L h : H}
    (x : aOpI P ops C i next ρ L h) : aOpI P ops C i next' ρ L h := by
  unfold aOpI at *
  split
  · rename_i e; simp only [e] at x; exact hn _ _ _ x
  · rename_i o e
    simp only [e] at x
    split
    · rename_i hw; rw [if_pos hw] at x; exact aOp_mono hn x
    · rename_i hw; rw [if_neg hw] at x; exact hn _ _ _ x
def markOf (D : Nat) : Deferred := { target := .collected D, args := #[] }
def Mk (ds0 : List Deferred) (g : H) (ds : List Deferred) (g' : H) : Prop := Grows g g' ∧ ∃ Ds : List Nat, ds = Ds.map markOf ++ ds0 ∧ Ds.Nodup ∧ ∀ D ∈ Ds, g D = none ∧ g' D = some (.deferred (some []))
theorem Mk.refl (ds : List Deferred) (g : H) : Mk ds g ds g := ⟨.refl g, [], rfl, List.nodup_nil, fun _ h => by cases h⟩
theorem Mk.trans {ds0 ds1 ds2 : List Deferred} {g0 g1 g2 : H} (x : Mk ds0 g0 ds1 g1) (y : Mk ds1 g1 ds2 g2) : Mk ds0 g0 ds2 g2 := by
  obtain ⟨gx, D1, rfl, n1, h1⟩ := x
  obtain ⟨gy, D2, rfl, n2, h2⟩ := y
  refine ⟨gx.trans gy, D2 ++ D1, by simp, List.nodup_append.2 ⟨n2, n1, fun a ha b hb e => ?_⟩, fun D hD => ?_⟩
  · subst e
    have := (h2 a ha).1
    rw [(h1 a hb).2] at this; cases this
  · rcases List.mem_append.1 hD with q | q
    · obtain ⟨a, b⟩ := h2 D q
      refine ⟨?_, b⟩
      cases h : g0 D with
      | none => rfl
      | some o => rw [gx D o h] at a; cases a
    · obtain ⟨a, b⟩ := h1 D q
      exact ⟨a, gy _ _ b⟩
theorem Mk.less {ds ds' : List Deferred} {g g0 g' : H} (gr : Grows g g0) (x : Mk ds g0 ds' g') : Mk ds g ds' g' := by
  obtain ⟨gx, Ds, e, n, h⟩ := x
  refine ⟨gr.trans gx, Ds, e, n, fun D hD => ⟨?_, (h D hD).2⟩⟩
  cases hg : g D with
  | none => rfl
  | some o => have := (h D hD).1; rw [gr D o hg] at this; cases this
theorem Mk.more {ds ds' : List Deferred} {g g1 g2 : H} (gr : Grows g1 g2) (x : Mk ds g ds' g1) : Mk ds g ds' g2 := by
  obtain ⟨gx, Ds, e, n, h⟩ := x
  exact ⟨gx.trans gr, Ds, e, n, fun D hD => ⟨(h D hD).1, gr _ _ (h D hD).2⟩⟩
def lift (n : Nat) (w : World) (ds : List Deferred) (g : H) (Q : Exit → Post) (C : PPost) : Exit → Act → World → Prop
  | .outgrown, _, _ => False
  | .panic c, a, w' => ∃ hf g', Mk ds g a.defers g' ∧ Sat2 w' hf g' ∧ Ext w w' ∧ C c hf
  | e, a, w' => ∃ ρ L h g', Mk ds g a.defers g' ∧ EnvOf n a ρ ∧ Sat3 w' L h g' ∧ Ext w w' ∧ Q e ρ L h
def inR (ro : Option Nat) : Fence := { Fence.wide with round := ro }
def noDef : Op → Bool | .defer _ => false | _ => true
def fits (n : Nat) (ops : Array Oper) : Bool := ops.toList.all fun o => noDef o.op && match o.dst with | some d => Nat.blt d n | none => true
theorem fits_spec {n : Nat} {ops : Array Oper} (f : fits n ops = true) {i : Nat} {o : Oper} (hi : ops[i]? = some o) : noDef o.op = true ∧ ∀ t, o.dst = some t → t < n := by
  have := List.all_eq_true.1 f o (Array.mem_toList_iff.2 (Array.mem_of_getElem? hi))
  rw [Bool.and_eq_true] at this
  refine ⟨this.1, fun t ht => ?_⟩
  have := this.2
  rw [ht] at this
  simpa [Nat.blt_eq] using this
theorem sem_at {o : Oper} (h : noDef o.op = true) (ro : Option Nat) (e : Operand → Value) : o.semAt ro e = execOp e o :=
  Oper.semAt_eq ro e o fun c hc => by rw [hc] at h; cases h
theorem put_defers (a : Act) (d : Option Tmp) (v : Value) : (a.put d v).defers = a.defers := by cases d <;> rfl
theorem aOp_sound {P : Program} {n m : Nat} {ro : Option Nat} {o : Oper} {ρ : Env} {L h g0 g : H} {ds : List Deferred} {next : Post} {C : PPost} {w0 w : World} {a : Act} {Q : Exit → Post} {nextW : Act → World → Prop}
    (hd : noDef o.op = true ∧ ∀ t, o.dst = some t → t < n) (x : aOp P o ρ L h next C) (hM : Mk ds g0 a.defers g) (hE : EnvOf n a ρ) (hs : Sat3 w L h g) (hx : Ext w0 w)
    (hnext : ∀ a' ρ' L' h' w', a'.defers = a.defers → EnvOf n a' ρ' → Sat3 w' L' h' g → Ext w0 w' → next ρ' L' h' → nextW a' w') :
    o.wpIn (inR ro) m P a w nextW (lift n w0 ds g0 Q C) := by
  refine ⟨fun _ _ => trivial, ?_⟩
  rw [sem_at hd.1]
  replace x := aOp_awp x hs.ap
  rw [← hE.eval] at x
  have d := awp_sound (execOp a.eval o) (un L h) false x w #[] g hs.sat
  rcases d with ⟨nx, w', hf, fl, hr, hsat, hext, hu, hfl⟩ | ⟨v, w', hf, hr, hsat, hext, hc⟩
  · obtain ⟨-, L', h', rfl, ap, ag, mm⟩ := hu
    · rw [hr]
      have s3 : Sat3 w' L' h' g := ⟨hsat, ap hs.ap⟩
      cases nx with
      | value v => exact hnext _ _ _ _ _ (put_defers ..) (hE.put o.dst v hd.2) s3 (hx.trans hext) mm
      | skip => exact hnext _ _ _ _ _ (put_defers ..) (hE.put o.dst _ hd.2) s3 (hx.trans hext) mm
      | enter f args =>
        rw [Oper.uponIn_enter]
        refine ⟨fun q => (by cases q), CallsIn.mono (F := Fence.wide) (callsIn_wide.2 (mm w' (un L' g) s3.mem)) fun e w'' r => ?_⟩
        cases e with
        | returned v =>
          obtain ⟨h'', s'', x'', k⟩ := r
          obtain ⟨s4, ap'⟩ := s3.back s''
          exact hnext _ _ _ _ _ (put_defers ..) (hE.put o.dst v hd.2) s4 ((hx.trans hext).trans x'') (k ap')
        | panicked c =>
          obtain ⟨h'', s'', x'', k⟩ := r
          obtain ⟨s4, ap'⟩ := s3.back s''
          exact ⟨_, g, hM, s4.sat, (hx.trans hext).trans x'', k ap'⟩
        | outgrown => exact r.elim
      | round l f tmps assign body =>
        rw [Oper.uponIn_round]
        refine ⟨fun q => (by cases q), RoundIn.mono (F := Fence.wide) (mm (m - 1) w' (un L' g) s3.mem) fun e w'' r => ?_⟩
        cases e with
        | returned v =>
          obtain ⟨h'', s'', x'', k⟩ := r
          obtain ⟨s4, ap'⟩ := s3.back s''
          exact hnext _ _ _ _ _ (put_defers ..) (hE.put o.dst v hd.2) s4 ((hx.trans hext).trans x'') (k ap')
        | panicked c =>
          obtain ⟨h'', s'', x'', k⟩ := r
          obtain ⟨s4, ap'⟩ := s3.back s''
          exact ⟨_, g, hM, s4.sat, (hx.trans hext).trans x'', k ap'⟩
        | outgrown => exact r.elim
      | _ => exact mm.elim
  · rw [hr, Oper.uponIn_panic]
    exact ⟨hf, g, hM, hsat, hx.trans hext, hc⟩
theorem aOps_sound {P : Program} {n m : Nat} {ro : Option Nat} {ops : Array Oper} (hfit : fits n ops = true) {next : Post} {C : PPost} {ds : List Deferred} {g0 g : H} {w0 : World} {Q : Exit → Post}
    (hQ : Q .normal = next) : ∀ (l : List Nat) (ρ : Env) (L h : H) (a : Act) (w : World), aOps P ops next C l ρ L h → Mk ds g0 a.defers g → EnvOf n a ρ → Sat3 w L h g → Ext w0 w →
      wpOpsIn (inR ro) m P ops (lift n w0 ds g0 Q C) l a w := by
  intro l
  induction l with
  | nil => intro ρ L h a w x hM hE hs hx; exact ⟨ρ, L, h, g, hM, hE, hs, hx, by rw [hQ]; exact x⟩
  | cons i rest ih =>
    intro ρ L h a w x hM hE hs hx
    simp only [wpOpsIn]
    simp only [aOps, aOpI] at x
    cases ho : ops[i]? with
    | none => simp only [ho] at x; exact ih _ _ _ _ _ x hM hE hs hx
    | some o =>
      simp only [ho] at x
      rw [hE.yielded]
      by_cases hw : Region.wanted o (yld ops ρ) = true
      · rw [if_pos hw] at x
        simp only [hw, if_true]
        exact aOp_sound (fits_spec hfit ho) x hM hE hs hx fun a' ρ' L' h' w' ed e s y k => ih _ _ _ _ _ k (by rw [ed]; exact hM) e s y
      · rw [if_neg hw] at x
        simp only [hw]
        exact ⟨fun _ _ => trivial, ih _ _ _ _ _ x (by rw [put_defers]; exact hM) (hE.put o.dst _ (fits_spec hfit ho).2) hs hx⟩
theorem aAny_sound {P : Program} {ops : Array Oper} {next : Post} {C : PPost} : ∀ (fuel t : Nat) (listed : Array Bool) (ρ : Env) (L h : H), aAny P ops next C fuel listed ρ L h →
    aOps P ops next C (Region.linearise.go .any ops fuel t listed []) ρ L h := by
  intro fuel
  induction fuel with
  | zero => intro t listed ρ L h x; simpa [Region.linearise.go, aOps] using x.2
  | succ fuel ih =>
    intro t listed ρ L h x
    obtain ⟨h₀, h₁⟩ := x
    simp only [Region.linearise.go]
    change aOps P ops next C (match (Region.ready .any ops listed)[t % (Region.ready .any ops listed).length]? with
      | some i => Region.linearise.go .any ops fuel (t / (Region.ready .any ops listed).length) (listed.setIfInBounds i true) [i]
      | none => [].reverse) ρ L h
    cases hi : (Region.ready .any ops listed)[t % (Region.ready .any ops listed).length]? with
    | none =>
      have hnil : Region.ready .any ops listed = [] := by
        cases hr : Region.ready .any ops listed with
        | nil => rfl
        | cons x xs =>
          rw [hr] at hi
          have hlt : t % (x :: xs).length < (x :: xs).length := Nat.mod_lt _ (by simp)
          simp at hi
          simp at hlt
          omega
      simpa [aOps] using h₀ hnil
    | some i =>
      simp only []
      rw [linearise_go_acc, List.reverse_singleton, List.singleton_append]
      exact aOpI_mono (fun ρ L h => ih _ _ ρ L h) (h₁ i (List.mem_of_getElem? hi))
def Bdd (h : H) : Prop := ∃ N, ∀ b, N ≤ b → h b = none
theorem Sat2.bdd {w : World} {h g : H} (s : Sat2 w h g) : Bdd h := ⟨w.heap.size, fun _ hb => s.hs.fresh hb⟩
def bAny (P : Program) (ops : Array Oper) (next : Post) (C : PPost) (fuel : Nat) (listed : Array Bool) : Post := fun ρ L h => Bdd (un L h) → Apart L h → aAny P ops next C fuel listed ρ L h
def aCode (P : Program) (n : Nat) (top : Bool) (c : Code) (Q : Exit → Post) (C : PPost) (ρ : Env) (L h : H) : Prop :=
  ∀ (ro : Option Nat) (m : Nat) (w0 w : World) (a : Act) (g : H), (top = true → ro = none) → EnvOf n a ρ → Sat3 w L h g → Ext w0 w → c.wpIn (inR ro) m P (lift n w0 a.defers g Q C) a w
def mYield (P : Program) (l : Nat) (vs : List Value) (R : Value → H → Prop) : H → Prop := fun h =>
  ∃ r : Loop, h l = some (.loop r) ∧ vs.length = r.params.size ∧ ARnd P l r.fn ((r.params.toList.zip vs).foldl (fun t p => t.setIfInBounds p.1 p.2) r.tmps) r.assign r.body h R (fun _ _ => False)
def putL (ρ : Env) : List Tmp → List Value → Env
  | p :: ps, v :: vs => putL (put ρ (some p) v) ps vs
  | _, _ => ρ
def rndQ (l : Nat) (ob : Nat → Obj) (bz : Obj) (kj : Nat → H → Prop) : Exit → Post
  | .normal, _, _, h => h l = some bz ∧ kj 0 (upd h l (ob 0))
  | .ret, _, _, h => h l = some bz ∧ kj 1 (upd h l (ob 1))
  | .exit id, _, _, h => h l = some bz ∧ kj (id + 2) (upd h l (ob (id + 2)))
  | _, _, _, _ => False
def oneQ (k : Post) : Exit → Post
  | .normal => k
  | _ => fun _ _ _ => False
def jumpQ (Q : Exit → Post) : Nat → Post
  | 0 => Q .normal
  | 1 => Q .ret
  | id + 2 => Q (.exit id)
def thenQ (k : Post) (Q : Exit → Post) : Exit → Post
  | .normal => k
  | e => Q e
def inQ (id : Nat) (Q : Exit → Post) : Exit → Post
  | .exit id' => bif Nat.beq id' id then Q .normal else Q (.exit id')
  | e => Q e
def noG (Q : Exit → Post) : Exit → Post
  | .goto _ => fun _ _ _ => False
  | e => Q e
def drop (K : Post) : Post := fun ρ L h => ∃ L0, Grows L0 L ∧ K ρ L0 h
theorem drop.of {K : Post} {ρ : Env} {L h : H} (k : K ρ L h) : drop K ρ L h := ⟨L, .refl L, k⟩
def iter (T : (Exit → Post) → Post) (Q : Exit → Post) : Nat → Post
  | 0 => fun _ _ _ => False
  | N + 1 => T (thenQ (drop (iter T Q N)) Q)
def gotoQ (l : Nat) (k : Post) (Q : Exit → Post) : Exit → Post
  | .goto l' => fun ρ L h => l' = l ∧ k ρ L h
  | e => Q e
def iterG (l : Nat) (T : (Exit → Post) → Post) (Q : Exit → Post) : Nat → Post
  | 0 => fun _ _ _ => False
  | N + 1 => T (gotoQ l (drop (iterG l T Q N)) Q)
def cwp (P : Program) (n : Nat) (C : PPost) : Code → Bool → (Exit → Post) → Post
  | .skip, _, Q => Q .normal
  | .region _ ops false, _, Q => fun ρ L h => fits n ops = true ∧ aOps P ops (Q .normal) C (List.range ops.size) ρ L h
  | .region _ ops true, _, Q => fun ρ L h => P.follows .mixedOrders = true ∧ fits n ops = true ∧ bAny P ops (Q .normal) C ops.size (Array.replicate ops.size false) ρ L h
  | .seq x y, top, Q => cwp P n C x top (thenQ (drop (cwp P n C y top Q)) Q)
  | .cond c x y, top, Q => fun ρ L h => ∃ t, ev ρ c = .bool t ∧ (t = true → cwp P n C x top Q ρ L h) ∧ (t = false → cwp P n C y top Q ρ L h)
  | .block id x, top, Q => cwp P n C x top (inQ id Q)
  | .loop x, top, Q => fun ρ L h => ∃ N, iter (fun Q => cwp P n C x top Q) Q N ρ L h
  | .scope x, top, Q => fun ρ L h => cwp P n C x top (noG Q) ρ L h ∨ (match x with
      | .seq pre (.seq (.label l) b) => (findLabel pre l).isNone = true ∧ cwp P n C pre top (thenQ (drop fun ρ L h => ∃ N, iterG l (fun Q => cwp P n C b top Q) Q N ρ L h) (noG Q)) ρ L h
      | _ => False)
  | .exit id, _, Q => Q (.exit id)
  | .goto l, _, Q => Q (.goto l)
  | .ret, _, Q => Q .ret
  | .label _, _, Q => Q .normal
  | .rangeFunc g ps assign body, top, Q => fun ρ L h => top = true ∧ (∀ c hf, ¬ C c hf) ∧ (ps.toList.all fun p => Nat.blt p n) = true ∧ ∃ f fn first cap, ev ρ g = .func (.func f) first cap ∧ (P.funcs[f]? = some fn ∧ (fn.name == "runtime.NumGoroutine") = false ∧ fn.body.isNone = false) ∧
      ∀ (l : Nat) (ob : Nat → Obj) (bz : Obj), h l = none →
        (∀ (vs : List Value) (kb : Bool → H → Prop) (h' : H), vs.length = ps.size → h' l = some (ob 0) →
          cwp P n C assign false (oneQ fun ρ1 L1 h1 => h1 l = some (ob 0) ∧ cwp P n C body false (rndQ l ob bz fun j => kb (Nat.beq j 0)) ρ1 L1 (upd h1 l bz)) (putL ρ ps.toList vs) (fun _ => none) h' →
          mYield P l vs (fun v h'' => ∃ b, v = .bool b ∧ kb b h'') h') →
        ACall P f (first ++ #[.func (.yield l) #[] #[]] ++ cap) (upd h l (ob 0)) (fun _ h'' => ∃ j, h'' l = some (ob j) ∧ ∀ o, jumpQ Q j ρ L (upd h'' l o)) (fun _ _ => False)
  | _, _, _ => fun _ _ _ => False
theorem Sat3.drop {w : World} {L L0 h g : H} (s : Sat3 w L h g) (gr : Grows L0 L) : Sat3 w L0 h (un (fun b => match L0 b with | some _ => none | none => L b) g) := by
  refine ⟨⟨fun b o e => ?_, fun b o e => ?_, fun b => ?_⟩, fun b => ?_⟩
  · refine s.sat.hs b o ?_
    unfold un at e
    split at e
    · rename_i o' ho; cases e; exact un_left (gr _ _ ho)
    · cases hL : L b with
      | none => rw [un_right hL]; exact e
      | some x =>
        rcases s.ap b with k | k
        · rw [hL] at k; cases k
        · rw [k] at e; cases e
  · unfold un at e
    split at e
    · rename_i o' ho
      cases e
      dsimp only at ho
      split at ho
      · cases ho
      · exact s.sat.hs b _ (un_left ho)
    · exact s.sat.gs b o e
  · cases h0 : L0 b with
    | some x =>
      refine .inr ?_
      rw [un_none]
      refine ⟨by simp [h0], ?_⟩
      rcases s.sat.ap b with k | k
      · rw [un_left (gr _ _ h0)] at k; cases k
      · exact k
    | none =>
      cases hL : L b with
      | none =>
        rw [un_right h0]
        rcases s.sat.ap b with k | k
        · rw [un_right hL] at k; exact .inl k
        · exact .inr (by rw [un_none]; exact ⟨by simp [h0, hL], k⟩)
      | some x =>
        rw [un_right h0]
        rcases s.ap b with k | k
        · rw [hL] at k; cases k
        · exact .inl k
  · cases h0 : L0 b with
    | none => exact .inl rfl
    | some x =>
      rcases s.ap b with k | k
      · rw [gr _ _ h0] at k; cases k
      · exact .inr k
theorem lift_less {n : Nat} {w0 : World} {ds : List Deferred} {g g' : H} {Q : Exit → Post} {C : PPost} (gr : Grows g g') {e : Exit} {a : Act} {w : World} (l : lift n w0 ds g' Q C e a w) : lift n w0 ds g Q C e a w := by
  have put : ∀ {e'}, (∃ ρ L h g1, Mk ds g' a.defers g1 ∧ EnvOf n a ρ ∧ Sat3 w L h g1 ∧ Ext w0 w ∧ Q e' ρ L h) → ∃ ρ L h g1, Mk ds g a.defers g1 ∧ EnvOf n a ρ ∧ Sat3 w L h g1 ∧ Ext w0 w ∧ Q e' ρ L h :=
    fun ⟨ρ, L, h, g1, M, x, y, z, k⟩ => ⟨ρ, L, h, g1, M.less gr, x, y, z, k⟩
  cases e with
  | outgrown => trivial
  | panic c =>
    obtain ⟨hf, g1, x, y, z, k⟩ := l
    exact ⟨hf, g1, x.less gr, y, z, k⟩
  | normal => exact put l
  | exit id => exact put l
  | goto l' => exact put l
  | ret => exact put l
theorem lift_after {n : Nat} {w0 : World} {ds ds1 : List Deferred} {g g1 : H} {Q : Exit → Post} {C : PPost} (M : Mk ds g ds1 g1) {e : Exit} {a : Act} {w : World} (l : lift n w0 ds1 g1 Q C e a w) : lift n w0 ds g Q C e a w := by
  have put : ∀ {e'}, (∃ ρ L h g2, Mk ds1 g1 a.defers g2 ∧ EnvOf n a ρ ∧ Sat3 w L h g2 ∧ Ext w0 w ∧ Q e' ρ L h) → ∃ ρ L h g2, Mk ds g a.defers g2 ∧ EnvOf n a ρ ∧ Sat3 w L h g2 ∧ Ext w0 w ∧ Q e' ρ L h :=
    fun ⟨ρ, L, h, g2, M', x, y, z, k⟩ => ⟨ρ, L, h, g2, M.trans M', x, y, z, k⟩
  cases e with
  | outgrown => trivial
  | panic c =>
    obtain ⟨hf, g2, x, y, z, k⟩ := l
    exact ⟨hf, g2, M.trans x, y, z, k⟩
  | normal => exact put l
  | exit id => exact put l
  | goto l' => exact put l
  | ret => exact put l
theorem un_put {L h : H} {b : Nat} {o o' : Obj} (ap : Apart L h) (hb : h b = some o) : upd (un L h) b o' = un L (upd h b o') ∧ Apart L (upd h b o') := by
  have hL : L b = none := by
    rcases ap b with q | q
    · exact q
    · rw [q] at hb; cases hb
  constructor
  · funext x
    unfold upd un
    by_cases e : x = b
    · subst e; simp [hL]
    · simp [e]
  · intro x
    by_cases e : x = b
    · subst e; exact .inl hL
    · rw [upd_ne _ _ e]; exact ap x
theorem un_new {L h : H} {b : Nat} {o : Obj} (hb : un L h b = none) : upd (un L h) b o = un L (upd h b o) ∧ upd (un L h) b o = un (upd L b o) h ∧ (Apart L h → Apart L (upd h b o) ∧ Apart (upd L b o) h) := by
  obtain ⟨hL, hh⟩ := un_none.1 hb
  refine ⟨?_, ?_, fun ap => ⟨fun x => ?_, fun x => ?_⟩⟩
  · funext x
    unfold upd un
    by_cases e : x = b
    · subst e; simp [hL]
    · simp [e]
  · funext x
    unfold upd un
    by_cases e : x = b <;> simp [e]
  · by_cases e : x = b
    · subst e; exact .inl hL
    · rw [upd_ne _ _ e]; exact ap x
  · by_cases e : x = b
    · subst e; exact .inr hh
    · rw [upd_ne _ _ e]; exact ap x
theorem Sat3.dropped {w : World} {L L0 h g : H} (s : Sat3 w L h g) (gr : Grows L0 L) : Grows g (un (fun b => match L0 b with | some _ => none | none => L b) g) := fun b o e => by
  cases h0 : L0 b with
  | some x =>
    rcases s.sat.ap b with q | q
    · rw [un_left (gr _ _ h0)] at q; cases q
    · rw [q] at e; cases e
  | none =>
    cases hL : L b with
    | none => rw [un_right (by simp [h0, hL])]; exact e
    | some x =>
      rcases s.sat.ap b with q | q
      · rw [un_left hL] at q; cases q
      · rw [q] at e; cases e
section rules
variable {P : Program} {n : Nat} {top : Bool} {Q : Exit → Post} {C : PPost} {ρ : Env} {L h : H}
theorem ac_region {id : Nat} {ops : Array Oper} (hfit : fits n ops = true) (x : aOps P ops (Q .normal) C (List.range ops.size) ρ L h) :
    aCode P n top (.region id ops false) Q C ρ L h := fun _ _ _ w a g _ hE hs hx => wpIn_region (aOps_sound hfit rfl _ ρ L h a w x (.refl a.defers g) hE hs hx)
theorem ac_region_draw {id : Nat} {ops : Array Oper} (hm : P.follows .mixedOrders = true) (hfit : fits n ops = true)
    (x : bAny P ops (Q .normal) C ops.size (Array.replicate ops.size false) ρ L h) : aCode P n top (.region id ops true) Q C ρ L h := fun ro m w0 w a g _ hE hs hx => by
  refine wpIn_region_draw fun t => ?_
  simp only [Region.schedule, hm, Bool.true_or, if_true]
  exact aOps_sound hfit rfl _ ρ L h a { w with drawn := w.drawn + 1 } (aAny_sound _ t _ ρ L h (x hs.sat.bdd hs.ap)) (.refl a.defers g) hE ⟨⟨hs.sat.hs, hs.sat.gs, hs.sat.ap⟩, hs.ap⟩ (hx.trans ⟨rfl, rfl, rfl, Nat.le_refl _⟩)
theorem ac_drop {c : Code} (x : drop (aCode P n top c Q C) ρ L h) : aCode P n top c Q C ρ L h := fun ro m w0 w a g ht hE hs hx => by
  obtain ⟨L0, gr, k⟩ := x
  exact wpIn_mono (k ro m w0 w a _ ht hE (hs.drop gr) hx) fun e a' w' l => lift_less (hs.dropped gr) l
theorem drop_mono {K K' : Post} (hk : ∀ ρ L h, K ρ L h → K' ρ L h) (x : drop K ρ L h) : drop K' ρ L h := by
  obtain ⟨L0, gr, k⟩ := x; exact ⟨L0, gr, hk _ _ _ k⟩
theorem lift_mono {w0 : World} {ds : List Deferred} {g : H} {Q' : Exit → Post} (hQ : ∀ e ρ L h, Q e ρ L h → Q' e ρ L h) {e : Exit} {a : Act} {w : World} (l : lift n w0 ds g Q C e a w) : lift n w0 ds g Q' C e a w := by
  cases e <;> first | exact l | (obtain ⟨ρ, L, h, g', p, q, r, t, s⟩ := l; exact ⟨ρ, L, h, g', p, q, r, t, hQ _ _ _ _ s⟩)
theorem ac_mono {c : Code} {Q' : Exit → Post} (x : aCode P n top c Q C ρ L h) (hQ : ∀ e ρ L h, Q e ρ L h → Q' e ρ L h) : aCode P n top c Q' C ρ L h := fun ro m w0 w a g ht hE hs hx =>
  wpIn_mono (x ro m w0 w a g ht hE hs hx) fun _ _ _ l => lift_mono hQ l
theorem ac_seq {x y : Code} (hxy : aCode P n top x (thenQ (aCode P n top y Q C) Q) C ρ L h) : aCode P n top (.seq x y) Q C ρ L h := fun ro m w0 w a g ht hE hs hx =>
  wpIn_seq (wpIn_mono (hxy ro m w0 w a g ht hE hs hx) fun e a' w' l => by
    cases e with
    | normal =>
      obtain ⟨ρ', L', h', g', M, e', s', x', k⟩ := l
      exact wpIn_mono (k ro m w0 w' a' g' ht e' s' x') fun _ _ _ l => lift_after M l
    | _ => exact l)
theorem ac_skip (x : Q .normal ρ L h) : aCode P n top .skip Q C ρ L h := fun _ _ _ _ _ g _ hE hs hx => wpIn_skip ⟨ρ, L, h, g, .refl _ _, hE, hs, hx, x⟩
theorem ac_label {l : Nat} (x : Q .normal ρ L h) : aCode P n top (.label l) Q C ρ L h := fun _ _ _ _ _ g _ hE hs hx => wpIn_label ⟨ρ, L, h, g, .refl _ _, hE, hs, hx, x⟩
theorem ac_ret (x : Q .ret ρ L h) : aCode P n top .ret Q C ρ L h := fun _ _ _ _ _ g _ hE hs hx => wpIn_ret ⟨ρ, L, h, g, .refl _ _, hE, hs, hx, x⟩
theorem ac_exit {id : Nat} (x : Q (.exit id) ρ L h) : aCode P n top (.exit id) Q C ρ L h := fun _ _ _ _ _ g _ hE hs hx => wpIn_exit ⟨ρ, L, h, g, .refl _ _, hE, hs, hx, x⟩
theorem ac_cond {c : Operand} {x y : Code} {t : Bool} (hc : ev ρ c = .bool t) (ht : t = true → aCode P n top x Q C ρ L h) (hf : t = false → aCode P n top y Q C ρ L h) :
    aCode P n top (.cond c x y) Q C ρ L h := fun ro m w0 w a g tp hE hs hx =>
  wpIn_cond_split (t := t) (by rw [hE.eval]; exact hc) (fun e => ht e ro m w0 w a g tp hE hs hx) (fun e => hf e ro m w0 w a g tp hE hs hx)
theorem ac_block {id : Nat} {c : Code} (x : aCode P n top c (inQ id Q) C ρ L h) : aCode P n top (.block id c) Q C ρ L h := fun ro m w0 w a g tp hE hs hx =>
  wpIn_block (wpIn_mono (x ro m w0 w a g tp hE hs hx) fun e a' w' l => by
    cases e with
    | exit id' =>
      obtain ⟨ρ', L', h', g', M, e', s', x', k⟩ := l
      simp only [Exit.inBlock]
      simp only [inQ] at k
      by_cases hi : id' = id
      · rw [if_pos hi]
        have hb : Nat.beq id' id = true := by rw [Nat.beq_eq]; exact hi
        rw [hb, cond_true] at k
        exact ⟨ρ', L', h', g', M, e', s', x', k⟩
      · rw [if_neg hi]
        have hb : Nat.beq id' id = false := by rw [← Bool.not_eq_true, Nat.beq_eq]; exact hi
        rw [hb, cond_false] at k
        exact ⟨ρ', L', h', g', M, e', s', x', k⟩
    | _ => exact l)
theorem stepR_scope {b : Frame} {a : Act} {k : List Item} {cs : List Frame} {w : World} {c : Code} : step P (lone (b.atR a (.code (.scope c) :: k)) cs w) = .next (lone (b.atR a (.code c :: .inScope c :: k)) cs w) :=
  step_lone_go (by simp [stepG, stepG.exec, Frame.atR])
theorem stepR_inScope {b : Frame} {a : Act} {k : List Item} {cs : List Frame} {w : World} {c : Code} : step P (lone (b.atR a (.inScope c :: k)) cs w) = .next (lone (b.atR a k) cs w) :=
  step_lone_go (by simp [stepG, stepG.exec, Frame.atR])
theorem wpIn_scope {F : Fence} {m : Nat} {c : Code} {R : Exit → Act → World → Prop} {a : Act} {w : World} (x : c.wpIn F m P (Exit.noGoto R) a w) : (Code.scope c).wpIn F m P R a w := by
  intro b k cs hro hb hr
  have h0 : (lone (b.atR a (.code (.scope c) :: k)) cs w).fenced P F := fenced_calm hb hr rfl
  obtain ⟨e, a₁, w₁, hq, harr⟩ := x b (.inScope c :: k) cs hro hb hr
  cases e with
  | normal => exact ⟨.normal, a₁, w₁, hq, .head h0 stepR_scope (StepsIn.trans harr (.one (fenced_calm hb hr rfl) stepR_inScope))⟩
  | exit id =>
    have hx : exitTo id (.inScope c :: k) = exitTo id k := by simp [exitTo]
    exact ⟨.exit id, a₁, w₁, hq, fun k' hk => .head h0 stepR_scope (harr.1 k' (by rw [hx]; exact hk)),
      fun hr' hk => let ⟨k₁, h1, h2⟩ := harr.2 hr' (by rw [hx]; exact hk); ⟨k₁, h1, .head h0 stepR_scope h2⟩⟩
  | goto l => exact hq.elim
  | ret => exact ⟨_, a₁, w₁, hq, .of_steps (.one h0 stepR_scope) harr⟩
  | panic ch => exact ⟨_, a₁, w₁, hq, .of_steps (.one h0 stepR_scope) harr⟩
  | outgrown => exact ⟨_, a₁, w₁, hq, .of_steps (.one h0 stepR_scope) harr⟩
theorem ac_scope {c : Code} (x : aCode P n top c (noG Q) C ρ L h) : aCode P n top (.scope c) Q C ρ L h := fun ro m w0 w a g tp hE hs hx =>
  wpIn_scope (wpIn_mono (x ro m w0 w a g tp hE hs hx) fun e a' w' l => by
    cases e with
    | goto l' => obtain ⟨_, _, _, _, _, _, _, _, k⟩ := l; exact k.elim
    | _ => exact l)
theorem ac_goto {l : Nat} (x : Q (.goto l) ρ L h) : aCode P n top (.goto l) Q C ρ L h := fun _ _ _ _ _ g _ hE hs hx => wpIn_goto ⟨ρ, L, h, g, .refl _ _, hE, hs, hx, x⟩
theorem wpIn_scopeJ {F : Fence} {m : Nat} {c rest : Code} {l : Nat} {R : Exit → Act → World → Prop} {a : Act} {w : World} (hf : findLabel c l = some rest) (J : Nat → Act → World → Prop)
    (first : c.wpIn F m P (fun e a w => match e with | .goto l' => l' = l ∧ ∃ N, J N a w | e => R e a w) a w)
    (pass : ∀ N a w, J N a w → rest.wpIn F m P (fun e a w => match e with | .goto l' => l' = l ∧ ∃ M, M < N ∧ J M a w | e => R e a w) a w) : (Code.scope c).wpIn F m P R a w := by
  intro b k cs hro hb hr
  have h0 : (lone (b.atR a (.code (.scope c) :: k)) cs w).fenced P F := fenced_calm hb hr rfl
  have hg : gotoIn l (.inScope c :: k) = some (.code rest :: .inScope c :: k) := by simp [gotoIn, hf]
  have hx : ∀ id, exitTo id (.inScope c :: k) = exitTo id k := fun id => by simp [exitTo]
  have key : ∀ N a w, J N a w → ∃ e a' w', R e a' w' ∧ ArrivesIn (Machine.fenced P F) P (lone (b.atR a (.code rest :: .inScope c :: k)) cs w) b k cs e a' w' := by
    intro N
    induction N using Nat.strongRecOn with
    | _ N ih =>
      intro a w j
      obtain ⟨e, a₁, w₁, hq, harr⟩ := pass N a w j b (.inScope c :: k) cs hro hb hr
      cases e with
      | normal => exact ⟨.normal, a₁, w₁, hq, StepsIn.trans harr (.one (fenced_calm hb hr rfl) stepR_inScope)⟩
      | exit id => exact ⟨.exit id, a₁, w₁, hq, fun k' hk => harr.1 k' (by rw [hx]; exact hk), fun hr' hk => harr.2 hr' (by rw [hx]; exact hk)⟩
      | goto l' =>
        obtain ⟨rfl, M, hM, jm⟩ := hq
        obtain ⟨e₂, a₂, w₂, hq₂, harr₂⟩ := ih M hM a₁ w₁ jm
        exact ⟨e₂, a₂, w₂, hq₂, .of_steps (harr.1 _ hg) harr₂⟩
      | ret => exact ⟨_, a₁, w₁, hq, harr⟩
      | panic ch => exact ⟨_, a₁, w₁, hq, harr⟩
      | outgrown => exact ⟨_, a₁, w₁, hq, harr⟩
  obtain ⟨e, a₁, w₁, hq, harr⟩ := first b (.inScope c :: k) cs hro hb hr
  cases e with
  | normal => exact ⟨.normal, a₁, w₁, hq, .head h0 stepR_scope (StepsIn.trans harr (.one (fenced_calm hb hr rfl) stepR_inScope))⟩
  | exit id => exact ⟨.exit id, a₁, w₁, hq, fun k' hk => .head h0 stepR_scope (harr.1 k' (by rw [hx]; exact hk)),
      fun hr' hk => let ⟨k₁, h1, h2⟩ := harr.2 hr' (by rw [hx]; exact hk); ⟨k₁, h1, .head h0 stepR_scope h2⟩⟩
  | goto l' =>
    obtain ⟨rfl, N, j⟩ := hq
    obtain ⟨e₂, a₂, w₂, hq₂, harr₂⟩ := key N a₁ w₁ j
    exact ⟨e₂, a₂, w₂, hq₂, .of_steps (.head h0 stepR_scope (harr.1 _ hg)) harr₂⟩
  | ret => exact ⟨_, a₁, w₁, hq, .of_steps (.one h0 stepR_scope) harr⟩
  | panic ch => exact ⟨_, a₁, w₁, hq, .of_steps (.one h0 stepR_scope) harr⟩
  | outgrown => exact ⟨_, a₁, w₁, hq, .of_steps (.one h0 stepR_scope) harr⟩
def jumpN (P : Program) (n : Nat) (top : Bool) (c : Code) (l : Nat) (Q : Exit → Post) (C : PPost) : Nat → Post
  | 0 => fun _ _ _ => False
  | N + 1 => aCode P n top c (gotoQ l (drop (jumpN P n top c l Q C N)) Q) C
theorem ac_scopeJ {pre b : Code} {l : Nat} (hf : (findLabel pre l).isNone = true) (x : aCode P n top pre (thenQ (drop fun ρ L h => ∃ N, jumpN P n top b l Q C N ρ L h) (noG Q)) C ρ L h) : aCode P n top (.scope (.seq pre (.seq (.label l) b))) Q C ρ L h := by
  intro ro m w0 w a g tp hE hs hx
  have hl : findLabel (.seq pre (.seq (.label l) b)) l = some (.seq .skip b) := by
    have h1 : findLabel pre l = none := Option.isNone_iff_eq_none.1 hf
    simp [findLabel, h1]
  let J : Nat → Act → World → Prop := fun N a' w' => ∃ ρ L h g', Mk a.defers g a'.defers g' ∧ EnvOf n a' ρ ∧ Sat3 w' L h g' ∧ Ext w0 w' ∧ jumpN P n top b l Q C N ρ L h
  have core : ∀ N a' w', J N a' w' → b.wpIn (inR ro) m P (fun e a₁ w₁ => match e with | .goto l' => l' = l ∧ ∃ M, M < N ∧ J M a₁ w₁ | e => lift n w0 a.defers g Q C e a₁ w₁) a' w' := by
    intro N a' w' ⟨ρ', L', h', g', M, e', s', x', k⟩
    cases N with
    | zero => exact k.elim
    | succ N =>
      refine wpIn_mono (k ro m w0 w' a' g' tp e' s' x') fun e a₁ w₁ q => ?_
      cases e with
      | goto l' =>
        obtain ⟨ρ2, L2, h2, g2, M2, e2, s2, x2, rfl, L0, gr, kk⟩ := q
        exact ⟨rfl, N, Nat.lt_succ_self N, ρ2, L0, h2, _, M.trans (M2.more (s2.dropped gr)), e2, s2.drop gr, x2, kk⟩
      | _ => exact lift_after M q
  refine wpIn_scopeJ hl J (wpIn_seq (wpIn_mono (x ro m w0 w a g tp hE hs hx) fun e a' w' q => ?_)) fun N a' w' j => wpIn_seq (wpIn_skip (core N a' w' j))
  cases e with
  | normal =>
    obtain ⟨ρ', L', h', g', M, e', s', x', L0, gr, N, k⟩ := q
    refine wpIn_seq (wpIn_label (wpIn_mono (core N a' w' ⟨ρ', L0, h', _, M.more (s'.dropped gr), e', s'.drop gr, x', k⟩) fun e a₁ w₁ q => ?_))
    cases e with
    | goto l' => obtain ⟨h1, M', _, j⟩ := q; exact ⟨h1, M', j⟩
    | _ => exact q
  | goto l' => obtain ⟨_, _, _, _, _, _, _, _, k⟩ := q; exact k.elim
  | _ => exact q
def loopN (P : Program) (n : Nat) (top : Bool) (c : Code) (Q : Exit → Post) (C : PPost) : Nat → Post
  | 0 => fun _ _ _ => False
  | N + 1 => aCode P n top c (thenQ (drop (loopN P n top c Q C N)) Q) C
theorem ac_loop {c : Code} (N : Nat) (x : loopN P n top c Q C N ρ L h) : aCode P n top (.loop c) Q C ρ L h := by
  intro ro m w0 w a g tp hE hs hx b k cs hro hb hr
  have key : ∀ N ρ L h g a w, loopN P n top c Q C N ρ L h → EnvOf n a ρ → Sat3 w L h g → Ext w0 w →
      ∃ e a' w', lift n w0 a.defers g Q C e a' w' ∧ ArrivesIn (Machine.fenced P (inR ro)) P (lone (b.atR a (.code c :: .inLoop c :: k)) cs w) b k cs e a' w' := by
    intro N
    induction N with
    | zero => intro ρ L h g a w x; exact x.elim
    | succ N ih =>
      intro ρ L h g a w x hE hs hx
      obtain ⟨e, a₁, w₁, hq, harr⟩ := x ro m w0 w a g tp hE hs hx b (.inLoop c :: k) cs hro hb hr
      cases e with
      | normal =>
        obtain ⟨ρ', L', h', g', M, e', s', x', L0, gr, kk⟩ := hq
        obtain ⟨e₂, a₂, w₂, hq₂, harr₂⟩ := ih _ _ _ _ _ _ kk e' (s'.drop gr) x'
        exact ⟨e₂, a₂, w₂, lift_after M (lift_less (s'.dropped gr) hq₂), .of_steps (StepsIn.trans harr (.one (fenced_calm hb hr rfl) stepR_inLoop)) harr₂⟩
      | exit id => exact ⟨_, a₁, w₁, (show lift n w0 a.defers g Q C (.exit id) a₁ w₁ from hq), .pass (x := .inLoop c) rfl (fun _ _ => .inl (by simp)) harr⟩
      | goto l => exact ⟨_, a₁, w₁, (show lift n w0 a.defers g Q C (.goto l) a₁ w₁ from hq), .pass (x := .inLoop c) rfl (fun _ _ => .inl (by simp)) harr⟩
      | ret => exact ⟨_, a₁, w₁, (show lift n w0 a.defers g Q C (.ret) a₁ w₁ from hq), .pass (x := .inLoop c) rfl (fun _ _ => .inl (by simp)) harr⟩
      | panic ch => exact ⟨_, a₁, w₁, (show lift n w0 a.defers g Q C (.panic ch) a₁ w₁ from hq), .pass (x := .inLoop c) rfl (fun _ _ => .inl (by simp)) harr⟩
      | outgrown => exact ⟨_, a₁, w₁, (show lift n w0 a.defers g Q C (.outgrown) a₁ w₁ from hq), .pass (x := .inLoop c) rfl (fun _ _ => .inl (by simp)) harr⟩
  obtain ⟨e, a', w', hq, harr⟩ := key N ρ L h g a w x hE hs hx
  exact ⟨e, a', w', hq, .of_steps (.one (fenced_calm hb hr rfl) stepR_loop) harr⟩
theorem Sat2.symm {w : World} {h g : H} (s : Sat2 w h g) : Sat2 w g h := ⟨s.gs, s.hs, fun b => (s.ap b).symm⟩
theorem Sat2.lessR {w : World} {h g g' : H} (s : Sat2 w h g') (gr : Grows g g') : Sat2 w h g := ⟨s.hs, fun b o e => s.gs b o (gr b o e), fun b => by
  rcases s.ap b with k | k
  · exact .inl k
  · refine .inr ?_
    cases hg : g b with
    | none => rfl
    | some o => rw [gr b o hg] at k; cases k⟩
theorem Sat2.lessL {w : World} {h h' g : H} (s : Sat2 w h' g) (gr : Grows h h') : Sat2 w h g := (s.symm.lessR gr).symm
theorem Sat2.putObj {w : World} {h g : H} (s : Sat2 w h g) {r : Nat} {o o' : Obj} (hr : h r = some o) : Sat2 (w.putObj r o') (upd h r o') g :=
  s.put hr (fun _ hb => World.putObj_heap_other hb) (World.putObj_heap_same (Array.getElem?_eq_some_iff.1 (s.hs _ _ hr)).1)
theorem Ext.putObj (w : World) (r : Nat) (o : Obj) : Ext w (w.putObj r o) := ⟨rfl, rfl, rfl, by simp⟩
theorem putL_env : ∀ {ps : List Tmp} {vs : List Value} {t : Array Value} {ρ : Env}, EnvOf n ⟨t, []⟩ ρ → (ps.all fun p => Nat.blt p n) = true → EnvOf n ⟨(ps.zip vs).foldl (fun t p => t.setIfInBounds p.1 p.2) t, []⟩ (putL ρ ps vs) := by
  intro ps
  induction ps with
  | nil => intro vs t ρ e _; exact e
  | cons p ps ih =>
    intro vs t ρ e hp
    cases vs with
    | nil => exact e
    | cons v vs =>
      rw [List.all_cons, Bool.and_eq_true] at hp
      exact ih (EnvOf.put e (some p) v fun t ht => by cases ht; simpa [Nat.blt_eq] using hp.1) hp.2
theorem ac_rangeFunc {g : Operand} {ps : Array Tmp} {assign body : Code} (tp : top = true) (hC : ∀ c hf, ¬ C c hf) (hps : (ps.toList.all fun p => Nat.blt p n) = true) {f : FuncId} {fn : Func} {first cap : Array Value} (hg : ev ρ g = .func (.func f) first cap)
    (cal : P.funcs[f]? = some fn ∧ (fn.name == "runtime.NumGoroutine") = false ∧ fn.body.isNone = false)
    (x : ∀ (l : Nat) (ob : Nat → Obj) (bz : Obj), h l = none →
        (∀ (vs : List Value) (kb : Bool → H → Prop) (h' : H), vs.length = ps.size → h' l = some (ob 0) →
          aCode P n false assign (oneQ fun ρ1 L1 h1 => h1 l = some (ob 0) ∧ aCode P n false body (rndQ l ob bz fun j => kb (Nat.beq j 0)) C ρ1 L1 (upd h1 l bz)) C (putL ρ ps.toList vs) (fun _ => none) h' →
          mYield P l vs (fun v h'' => ∃ b, v = .bool b ∧ kb b h'') h') →
        ACall P f (first ++ #[.func (.yield l) #[] #[]] ++ cap) (upd h l (ob 0)) (fun _ h'' => ∃ j, h'' l = some (ob j) ∧ ∀ o, jumpQ Q j ρ L (upd h'' l o)) (fun _ _ => False)) :
    aCode P n top (.rangeFunc g ps assign body) Q C ρ L h := by
  intro ro m w0 w a g0 htop hE hs hx
  obtain rfl := htop tp
  refine wpIn_rangeFunc fun fid _ => ?_
  let rec_ : LoopState → Option Code → Loop := fun st pe => { state := st, pending := pe, fn := fid, tmps := a.tmps, params := ps, assign, body, defers := w.heap.size }
  let ob : Nat → Obj := fun j => match j with | 0 => .loop (rec_ .ready none) | 1 => .loop (rec_ .done (some .ret)) | id + 2 => .loop (rec_ .done (some (.exit id)))
  let bz : Obj := .loop (rec_ .busy none)
  let W1 := (w.alloc (.deferred (some []))).alloc (ob 0)
  have s1 : Sat2 (w.alloc (.deferred (some []))) (un L h) (upd g0 w.heap.size (.deferred (some []))) := (hs.sat.symm.push _).symm
  have hl0 : un L h (w.heap.size + 1) = none := hs.sat.hs.fresh (by omega)
  have s2 : Sat2 W1 (upd (un L h) (w.heap.size + 1) (ob 0)) (upd g0 w.heap.size (.deferred (some []))) := by
    have := s1.push (ob 0)
    rw [World.size_alloc] at this
    exact this
  obtain ⟨e1, _, e3⟩ := un_new (o := ob 0) hl0
  rw [e1] at s2
  have s3 : Sat3 W1 L (upd h (w.heap.size + 1) (ob 0)) (upd g0 w.heap.size (.deferred (some []))) := ⟨s2, (e3 hs.ap).1⟩
  have hgD : g0 w.heap.size = none := hs.sat.gs.fresh (Nat.le_refl _)
  have hM : Mk a.defers g0 (markOf w.heap.size :: a.defers) (upd g0 w.heap.size (.deferred (some []))) := by
    refine ⟨fun b o e => ?_, [w.heap.size], rfl, by simp, fun D hD => ?_⟩
    · rw [upd_ne _ _ (fun q => by rw [q, hgD] at e; cases e)]; exact e
    · obtain rfl := List.mem_singleton.1 hD; exact ⟨hgD, upd_same _ _ _⟩
  have hx1 : Ext w W1 := ⟨rfl, rfl, rfl, by show w.heap.size ≤ ((w.heap.push _).push _).size; simp; omega⟩
  refine ⟨w.heap.size + 1, [markOf w.heap.size], W1, { target := .fn (.func f) cap, args := first ++ #[.func (.yield (w.heap.size + 1)) #[] #[]] }, W1, f, first ++ #[.func (.yield (w.heap.size + 1)) #[] #[]] ++ cap, W1,
    run_enterLoop_outer _ _ _ _ _, ?_, fun _ _ => trivial, ?_, fun q => (by cases q), ?_⟩
  · have hg' : a.eval g = .func (.func f) first cap := by rw [hE.eval]; exact hg
    simp only [resolve, hg', List.map_toArray, List.map_cons, List.map_nil]
    rfl
  · show (callFunc f _).run P W1 = _
    unfold callFunc
    show (match P.funcs[f]? with | none => _ | some fn => _ : Sem Next).run P W1 = _
    rw [cal.1]
    simp only [cal.2.1, cal.2.2, Bool.false_eq_true, if_false]
    rfl
  have yl : ∀ (vs : List Value) (kb : Bool → H → Prop) (h' : H), vs.length = ps.size → h' (w.heap.size + 1) = some (ob 0) →
      aCode P n false assign (oneQ fun ρ1 L1 h1 => h1 (w.heap.size + 1) = some (ob 0) ∧ aCode P n false body (rndQ (w.heap.size + 1) ob bz fun j => kb (Nat.beq j 0)) C ρ1 L1 (upd h1 (w.heap.size + 1) bz)) C (putL ρ ps.toList vs) (fun _ => none) h' →
      mYield P (w.heap.size + 1) vs (fun v h'' => ∃ b, v = .bool b ∧ kb b h'') h' := fun vs kb h' hv hl k => by
    refine ⟨rec_ .ready none, hl, hv, fun m' w' g' sat => ?_⟩
    have hun : un (fun _ => none) h' = h' := by funext b; rfl
    refine roundIn_of_wpIn (F := Fence.wide) trivial ?_
    refine wpIn_mono (k (some (w.heap.size + 1)) m' w' w' ⟨_, []⟩ g' (fun q => by cases q) (putL_env (t := a.tmps) ⟨hE.size, hE.val⟩ hps) ⟨by rw [hun]; exact sat, fun _ => .inl rfl⟩ (.refl w')) fun e a1 w1 q => ?_
    cases e with
    | normal =>
      obtain ⟨ρ1, L1, h1, g1, M1, E1, S1, X1, hl1, k1⟩ := q
      have hL1 : L1 (w.heap.size + 1) = none := (S1.ap _).resolve_right (by rw [hl1]; simp)
      have hr1 : un L1 h1 (w.heap.size + 1) = some (ob 0) := by rw [un_right hL1]; exact hl1
      refine ⟨_, run_beginRound (S1.sat.hs _ _ hr1) rfl, ?_⟩
      obtain ⟨p1, p2⟩ := un_put (o' := bz) S1.ap hl1
      have S2 : Sat3 (w1.putObj (w.heap.size + 1) bz) L1 (upd h1 (w.heap.size + 1) bz) g1 := ⟨by rw [← p1]; exact S1.sat.putObj hr1, p2⟩
      refine wpIn_mono (k1 (some (w.heap.size + 1)) m' w' _ a1 g1 (fun q => by cases q) E1 S2 (X1.trans (.putObj ..))) fun e2 a2 w2 q2 => ?_
      have fin : ∀ (j : Option Code) (i : Nat) (h3 : H) (L3 g3 : H), Grows g1 g3 → Sat3 w2 L3 h3 g3 → Ext w' w2 → h3 (w.heap.size + 1) = some bz → ob i = .loop { rec_ .busy none with state := if j.isNone then .ready else .done, pending := j } → j.isNone = Nat.beq i 0 → kb (Nat.beq i 0) (upd h3 (w.heap.size + 1) (ob i)) →
          ∃ v w3, (Instr.endRound (w.heap.size + 1) j).run P w2 = .ok v w3 ∧ ∃ h', Sat2 w3 h' g' ∧ Ext w' w3 ∧ ∃ b, v = .bool b ∧ kb b h' := fun j i h3 L3 g3 G3 S3 X3 hl3 ho hj kk => by
        have s4 := S3.mem
        refine ⟨_, _, run_endRound (P := P) j (r := rec_ .busy none) (s4.hs _ _ hl3), upd h3 (w.heap.size + 1) (ob i), ?_, X3.trans (.putObj ..), Nat.beq i 0, by rw [hj], kk⟩
        rw [ho]
        refine (s4.putObj hl3).lessR fun b o e => ?_
        have hb := G3 _ _ (M1.1 _ _ e)
        have : L3 b = none := by
          rcases S3.sat.ap b with q | q
          · exact (un_none.1 q).1
          · rw [hb] at q; cases q
        rw [un_right this]; exact hb
      cases e2 with
      | normal => obtain ⟨ρ3, L3, h3, g3, M3, _, S3, X3, hl3, kk⟩ := q2; exact fin none 0 h3 L3 g3 M3.1 S3 X3 hl3 rfl rfl kk
      | ret => obtain ⟨ρ3, L3, h3, g3, M3, _, S3, X3, hl3, kk⟩ := q2; exact fin (some .ret) 1 h3 L3 g3 M3.1 S3 X3 hl3 rfl rfl kk
      | exit id => obtain ⟨ρ3, L3, h3, g3, M3, _, S3, X3, hl3, kk⟩ := q2; exact fin (some (.exit id)) (id + 2) h3 L3 g3 M3.1 S3 X3 hl3 rfl rfl kk
      | goto t => obtain ⟨_, _, _, _, _, _, _, _, kk⟩ := q2; exact kk.elim
      | panic ch => obtain ⟨hf, _, _, _, _, kk⟩ := q2; exact (hC _ _ kk).elim
      | outgrown => exact q2.elim
    | panic ch => obtain ⟨hf, _, _, _, _, kk⟩ := q; exact (hC _ _ kk).elim
    | outgrown => exact q.elim
    | ret => obtain ⟨_, _, _, _, _, _, _, _, kk⟩ := q; exact kk.elim
    | exit id => obtain ⟨_, _, _, _, _, _, _, _, kk⟩ := q; exact kk.elim
    | goto t => obtain ⟨_, _, _, _, _, _, _, _, kk⟩ := q; exact kk.elim
  have hl1 : h (w.heap.size + 1) = none := (un_none.1 hl0).2
  refine CallsIn.mono (F := Fence.wide) (callsIn_wide.2 (x (w.heap.size + 1) ob bz hl1 yl W1 _ s3.mem)) fun e w3 r => ?_
  cases e with
  | returned v =>
    obtain ⟨h'', S'', X'', j, hj, kk⟩ := r
    obtain ⟨S4, ap4⟩ := s3.back S''
    have hL4 : L (w.heap.size + 1) = none := (un_none.1 hl0).1
    have hr4 : un L h'' (w.heap.size + 1) = some (ob j) := by rw [un_right hL4]; exact hj
    have fin : ∀ (st : LoopState) (c : Option Code), ob j = .loop (rec_ st c) → st ≠ .busy → (∀ w4, w4 = w3.putObj (w.heap.size + 1) (.loop (rec_ .exhausted c)) → Sat3 w4 L (upd h'' (w.heap.size + 1) (.loop (rec_ .exhausted c))) (upd g0 w.heap.size (.deferred (some []))) → Ext w0 w4 →
        (match c with | none => lift n w0 a.defers g0 Q C .normal { a with defers := [markOf w.heap.size] ++ a.defers } w4 | some c => c.wpIn (inR none) m P (lift n w0 a.defers g0 Q C) { a with defers := [markOf w.heap.size] ++ a.defers } w4)) →
        rangePost (inR none) m P (w.heap.size + 1) (lift n w0 a.defers g0 Q C) { a with defers := [markOf w.heap.size] ++ a.defers } (.returned v) w3 := fun st c ho hst k => by
      rw [ho] at hr4 hj
      obtain ⟨p1, p2⟩ := un_put (o' := .loop (rec_ .exhausted c)) ap4 hj
      exact ⟨c, _, run_endLoop (P := P) (S4.sat.hs _ _ hr4) hst, k _ rfl ⟨by rw [← p1]; exact S4.sat.putObj hr4, p2⟩ (((hx.trans hx1).trans X'').trans (.putObj ..))⟩
    have hE' : EnvOf n { a with defers := [markOf w.heap.size] ++ a.defers } ρ := ⟨hE.size, hE.val⟩
    match j, kk, fin with
    | 0, kk, fin => exact fin .ready none rfl (by simp) fun w4 _ S5 X5 => ⟨ρ, L, _, _, hM, hE', S5, X5, kk _⟩
    | 1, kk, fin => exact fin .done (some .ret) rfl (by simp) fun w4 _ S5 X5 => wpIn_ret ⟨ρ, L, _, _, hM, hE', S5, X5, kk _⟩
    | id + 2, kk, fin => exact fin .done (some (.exit id)) rfl (by simp) fun w4 _ S5 X5 => wpIn_exit ⟨ρ, L, _, _, hM, hE', S5, X5, kk _⟩
  | panicked c => obtain ⟨_, _, _, kk⟩ := r; exact kk.elim
  | outgrown => exact r.elim
end rules
theorem thenQ_mono {K K' : Post} {Q Q' : Exit → Post} (hK : ∀ ρ L h, K ρ L h → K' ρ L h) (hQ : ∀ e ρ L h, Q e ρ L h → Q' e ρ L h) : ∀ e ρ L h, thenQ K Q e ρ L h → thenQ K' Q' e ρ L h := by
  intro e ρ L h
  cases e with
  | normal => exact hK _ _ _
  | _ => exact hQ _ _ _ _
theorem gotoQ_mono {l : Nat} {K K' : Post} {Q Q' : Exit → Post} (hK : ∀ ρ L h, K ρ L h → K' ρ L h) (hQ : ∀ e ρ L h, Q e ρ L h → Q' e ρ L h) : ∀ e ρ L h, gotoQ l K Q e ρ L h → gotoQ l K' Q' e ρ L h := by
  intro e ρ L h x
  cases e with
  | goto l' => exact ⟨x.1, hK _ _ _ x.2⟩
  | _ => exact hQ _ _ _ _ x
theorem codeInd {M : Code → Prop} (skip : M .skip) (region : ∀ id ops draw, M (.region id ops draw)) (seq : ∀ x y, M x → M y → M (.seq x y)) (cond : ∀ c x y, M x → M y → M (.cond c x y)) (block : ∀ id x, M x → M (.block id x)) (loop : ∀ x, M x → M (.loop x))
    (rangeFunc : ∀ g ps as_ bd, M as_ → M bd → M (.rangeFunc g ps as_ bd)) (exit : ∀ id, M (.exit id)) (scope : ∀ x, M x → (∀ pre l b, x = .seq pre (.seq (.label l) b) → M pre ∧ M b) → M (.scope x)) (label : ∀ l, M (.label l)) (goto : ∀ l, M (.goto l)) (ret : M .ret) (refuse : ∀ why, M (.refuse why)) : ∀ c, M c := by
  suffices ∀ c, M c ∧ (∀ x y, c = .seq x y → M x ∧ M y) ∧ ∀ pre l b, c = .seq pre (.seq (.label l) b) → M pre ∧ M b from fun c => (this c).1
  intro c
  induction c with
  | skip => exact ⟨skip, fun _ _ e => (by cases e), fun _ _ _ e => (by cases e)⟩
  | region id ops draw => exact ⟨region id ops draw, fun _ _ e => (by cases e), fun _ _ _ e => (by cases e)⟩
  | seq x y ihx ihy => exact ⟨seq x y ihx.1 ihy.1, fun x' y' e => by cases e; exact ⟨ihx.1, ihy.1⟩, fun pre l b e => by cases e; exact ⟨ihx.1, (ihy.2.1 _ _ rfl).2⟩⟩
  | cond c x y ihx ihy => exact ⟨cond c x y ihx.1 ihy.1, fun _ _ e => (by cases e), fun _ _ _ e => (by cases e)⟩
  | block id x ih => exact ⟨block id x ih.1, fun _ _ e => (by cases e), fun _ _ _ e => (by cases e)⟩
  | loop x ih => exact ⟨loop x ih.1, fun _ _ e => (by cases e), fun _ _ _ e => (by cases e)⟩
  | rangeFunc g ps as_ bd iha ihb => exact ⟨rangeFunc g ps as_ bd iha.1 ihb.1, fun _ _ e => (by cases e), fun _ _ _ e => (by cases e)⟩
  | exit id => exact ⟨exit id, fun _ _ e => (by cases e), fun _ _ _ e => (by cases e)⟩
  | scope x ih => exact ⟨scope x ih.1 ih.2.2, fun _ _ e => (by cases e), fun _ _ _ e => (by cases e)⟩
  | label l => exact ⟨label l, fun _ _ e => (by cases e), fun _ _ _ e => (by cases e)⟩
  | goto l => exact ⟨goto l, fun _ _ e => (by cases e), fun _ _ _ e => (by cases e)⟩
  | ret => exact ⟨ret, fun _ _ e => (by cases e), fun _ _ _ e => (by cases e)⟩
  | refuse why => exact ⟨refuse why, fun _ _ e => (by cases e), fun _ _ _ e => (by cases e)⟩
theorem cwp_sound {P : Program} {n : Nat} {C : PPost} : ∀ (c : Code) (top : Bool) (Q : Exit → Post) (ρ : Env) (L h : H), cwp P n C c top Q ρ L h → aCode P n top c Q C ρ L h := by
  intro c
  induction c using codeInd with
  | skip => exact fun top Q ρ L h x => ac_skip x
  | region id ops draw =>
    intro top Q ρ L h x
    cases draw with
    | false => exact ac_region x.1 x.2
    | true => exact ac_region_draw x.1 x.2.1 x.2.2
  | seq x y ihx ihy =>
    intro top Q ρ L h k
    exact ac_seq (ac_mono (ihx _ _ ρ L h k) (thenQ_mono (fun ρ L h k => ac_drop (drop_mono (fun ρ L h k => ihy top Q ρ L h k) k)) fun _ _ _ _ k => k))
  | cond c x y ihx ihy =>
    intro top Q ρ L h k
    obtain ⟨t, hc, ht, hf⟩ := k
    exact ac_cond hc (fun e => ihx top Q ρ L h (ht e)) (fun e => ihy top Q ρ L h (hf e))
  | block id x ih => exact fun top Q ρ L h k => ac_block (ih _ _ ρ L h k)
  | loop x ih =>
    intro top Q ρ L h k
    obtain ⟨N, k⟩ := k
    refine ac_loop N ?_
    have key : ∀ N ρ L h, iter (fun Q => cwp P n C x top Q) Q N ρ L h → loopN P n top x Q C N ρ L h := by
      intro N
      induction N with
      | zero => exact fun ρ L h k => k
      | succ N ihN => exact fun ρ L h k => ac_mono (ih _ _ ρ L h k) (thenQ_mono (fun ρ L h k => drop_mono ihN k) fun _ _ _ _ k => k)
    exact key N ρ L h k
  | scope x ih ihs =>
    intro top Q ρ L h k
    simp only [cwp] at k
    rcases k with k | k
    · exact ac_scope (ih _ _ ρ L h k)
    · split at k
      · rename_i pre l b
        obtain ⟨ih1, ih2⟩ := ihs pre l b rfl
        refine ac_scopeJ k.1 (ac_mono (ih1 _ _ ρ L h k.2) (thenQ_mono (fun ρ L h k => drop_mono (fun ρ L h ⟨N, k⟩ => ⟨N, ?_⟩) k) fun _ _ _ _ k => k))
        have key : ∀ N ρ L h, iterG l (fun Q => cwp P n C b top Q) Q N ρ L h → jumpN P n top b l Q C N ρ L h := by
          intro N
          induction N with
          | zero => exact fun ρ L h k => k
          | succ N ihN => exact fun ρ L h k => ac_mono (ih2 _ _ ρ L h k) (gotoQ_mono (fun ρ L h k => drop_mono ihN k) fun _ _ _ _ k => k)
        exact key N ρ L h k
      · exact k.elim
  | goto l => exact fun top Q ρ L h k => ac_goto k
  | exit id => exact fun top Q ρ L h k => ac_exit k
  | ret => exact fun top Q ρ L h k => ac_ret k
  | label l => exact fun top Q ρ L h k => ac_label k
  | rangeFunc g ps assign body iha ihb =>
    intro top Q ρ L h k
    obtain ⟨tp, hC, hps, f, fn, first, cap, hg, cal, x⟩ := k
    exact ac_rangeFunc tp hC hps hg cal fun l ob bz hl yl => x l ob bz hl fun vs kb h' hv h0 kk => yl vs kb h' hv h0 (ac_mono (iha _ _ _ _ _ kk) fun e ρ L h q => by
      cases e with
      | normal => exact ⟨q.1, ihb _ _ _ _ _ q.2⟩
      | _ => exact q)
  | _ => exact fun top Q ρ L h k => k.elim
def rds {α : Type} (P : Program) (h : H) (v : α) : Sem α → Prop
  | .pure a => a = v
  | .load _ a k => a.spot = none ∧ ∃ c e fz x, h a.block = some (.cells c e fz) ∧ c[a.off]? = some x ∧ rds P h v (k x)
  | .program k => rds P h v (k P)
  | _ => False
theorem rds_run {α : Type} {P : Program} {h : H} {v : α} {w : World} (s : Sat w h) : ∀ (x : Sem α), rds P h v x → x.run P w = .ok v w := by
  intro x
  induction x with
  | pure a => intro r; cases r; rfl
  | load m a k ih =>
    rintro ⟨h1, c, e, fz, y, h2, h3, h4⟩
    simp only [Sem.run, cell_of s h1 h2 h3]
    exact ih _ h4
  | program k ih => intro r; exact ih _ r
  | _ => intro r; exact r.elim
theorem rds_bind' {α β : Type} {P : Program} {h : H} {v : β} {x : α} {f : α → Sem β} (b : rds P h v (f x)) : ∀ (s : Sem α), rds P h x s → rds P h v (s.bind f) := by
  intro s
  induction s with
  | pure a => intro r; cases r; exact b
  | load m a k ih => rintro ⟨h1, c, e, fz, y, h2, h3, h4⟩; exact ⟨h1, c, e, fz, y, h2, h3, ih _ h4⟩
  | program k ih => intro r; exact ih _ r
  | _ => intro r; exact r.elim
theorem rds_bind {α β : Type} {P : Program} {h : H} {v : β} {x : α} {s : Sem α} {f : α → Sem β} (a : rds P h x s) (b : rds P h v (f x)) : rds P h v (s >>= f) := rds_bind' b s a
def resultsE (fn : Func) (ρ : Env) : Sem Value := do
  let vs ← fn.results.mapM fun
    | .tmp t => pure (ρ t)
    | .cell a t => do loadVar t (← asAddr (ρ a))
  pure (if h : vs.size = 1 then vs[0] else .tuple vs)
theorem results_env {n : Nat} {fn : Func} {a : Act} {ρ : Env} (e : EnvOf n a ρ) : results fn a.tmps = resultsE fn ρ := by
  have hv : (fun t => a.tmps.getD t undef) = ρ := funext e.val
  subst hv
  rfl
structure Out (P : Program) (fn : Func) (R : Value → H → Prop) (ρ : Env) (L h : H) : Prop where
  ex : Apart L h → ∃ v, rds P (un L h) v (resultsE fn ρ) ∧ R v h
def outQ (P : Program) (fn : Func) (R : Value → H → Prop) : Exit → Post
  | .normal, ρ, L, h | .ret, ρ, L, h => Out P fn R ρ L h
  | _, _, _, _ => False
def start (args : Array Value) : Env := fun t => args.getD t undef
theorem leave_marks {P : Program} {fn : Func} {tmps : Array Value} {R : Ending → World → Prop} {u : FrameMode} (hu : u ≠ .run) {w0 : World} {hf g : H}
    (k : ∀ w', Sat2 w' hf g → Ext w0 w' → LeavesIn Fence.wide 0 P fn tmps R [] u w') : ∀ (Ds : List Nat) (g' : H) (w : World), Ds.Nodup → (∀ D ∈ Ds, g D = none ∧ g' D = some (.deferred (some []))) → Grows g g' → Sat2 w hf g' → Ext w0 w →
      LeavesInM Fence.wide 0 P fn tmps R (Ds.map markOf ++ []) u w := by
  intro Ds
  induction Ds with
  | nil => exact fun g' w _ _ gr s x => k w (s.lessR gr) x
  | cons D Ds ih =>
    intro g' w nd hD gr s x
    obtain ⟨n1, n2⟩ := List.nodup_cons.1 nd
    obtain ⟨d1, d2⟩ := hD D (List.mem_cons_self ..)
    refine ⟨hu, .inl ⟨D, _, rfl, run_takeDeferred (s.gs _ _ d2), ?_⟩⟩
    refine ih (upd g' D (.deferred none)) _ n2 (fun D' h' => ?_) (fun b o e => ?_) (s.symm.putObj d2).symm (x.trans (.putObj ..))
    · obtain ⟨e1, e2⟩ := hD D' (List.mem_cons_of_mem _ h')
      exact ⟨e1, by rw [upd_ne _ _ (fun e => n1 (by rw [← e]; exact h'))]; exact e2⟩
    · rw [upd_ne _ _ (fun q => by rw [q, d1] at e; cases e)]; exact gr b o e
theorem ac_func {P : Program} {f : FuncId} {fn : Func} {c : Code} {args : Array Value} {h : H} {R : Value → H → Prop} {C : PPost}
    (hf : P.funcs[f]? = some fn) (hb : fn.body = some c) (hn : args.size ≤ fn.ntmps)
    (x : aCode P fn.ntmps true c (outQ P fn R) C (start args) (fun _ => none) h) : ACall P f args h R C := by
  intro w g sat
  refine callsIn_wide.1 (callsIn_of_wp_marks (F := Fence.wide) (n := 0) hf hb trivial ?_)
  have hun : un (fun _ => none) h = h := by funext b; rfl
  have hE : EnvOf fn.ntmps { tmps := args ++ Array.replicate (fn.ntmps - args.size) undef, defers := [] } (start args) := by
    refine ⟨by simp; omega, fun t => ?_⟩
    simp only [start, Array.getD_eq_getD_getElem?, Array.getElem?_append]
    split
    · rfl
    · rename_i hlt
      rw [Array.getElem?_eq_none (xs := args) (by omega), Array.getElem?_replicate]
      split <;> rfl
  refine wpIn_mono (x none 0 w w _ g (fun _ => rfl) hE ⟨by rw [hun]; exact sat, fun b => .inl rfl⟩ (.refl w)) fun e a' w' l => ?_
  have fin : ∀ ρ L h' g', Mk [] g a'.defers g' → EnvOf fn.ntmps a' ρ → Sat3 w' L h' g' → Ext w w' → (∃ v, rds P (un L h') v (resultsE fn ρ) ∧ R v h') →
      LeavesInM Fence.wide 0 P fn a'.tmps (fun e w' => match e with
        | .returned v => ∃ h', Sat2 w' h' g ∧ Ext w w' ∧ R v h'
        | .panicked c => ∃ h', Sat2 w' h' g ∧ Ext w w' ∧ C c h'
        | .outgrown => False) a'.defers .returning w' := by
    rintro ρ L h' g' ⟨gr, Ds, hd, nd, hD⟩ e' s' x' ⟨v, r, k⟩
    rw [hd]
    refine leave_marks (u := .returning) (by simp) (w0 := w) (hf := un L h') (g := g) ?_ Ds g' w' nd hD gr s'.sat x'
    intro w2 s2 x2
    refine ⟨v, by rw [results_env e']; exact rds_run s2.hs _ r, h', ?_, x2, k⟩
    exact s2.lessL fun b o e => by
      rcases s'.ap b with q | q
      · rw [un_right q]; exact e
      · rw [q] at e; cases e
  cases e with
  | normal => obtain ⟨ρ, L, h', g', M, e', s', x', k⟩ := l; exact fin _ _ _ _ M e' s' x' (k.ex s'.ap)
  | ret => obtain ⟨ρ, L, h', g', M, e', s', x', k⟩ := l; exact fin _ _ _ _ M e' s' x' (k.ex s'.ap)
  | panic ch =>
    obtain ⟨hf, g', ⟨gr, Ds, hd, nd, hD⟩, s', x', k⟩ := l
    show LeavesInM _ _ _ _ _ _ _ _ _
    rw [hd]
    refine leave_marks (u := .panicking ch) (by simp) (w0 := w) (hf := hf) (g := g) ?_ Ds g' w' nd hD gr s' x'
    exact fun w2 s2 x2 => ⟨hf, s2, x2, k⟩
  | outgrown => trivial
  | exit id => obtain ⟨ρ, L, h', g', _, e', s', x', k⟩ := l; exact k
  | goto id => obtain ⟨ρ, L, h', g', _, e', s', x', k⟩ := l; exact k
theorem Bdd.upd {h : H} (x : Bdd h) (b : Nat) (o : Obj) : Bdd (upd h b o) := by
  obtain ⟨N, hN⟩ := x
  refine ⟨max N (b + 1), fun c hc => ?_⟩
  rw [upd_ne _ _ (by omega)]; exact hN c (by omega)
theorem Bdd.fresh {h : H} (x : Bdd h) (a : Nat) : ∃ b, h b = none ∧ b ≠ a := by
  obtain ⟨N, hN⟩ := x
  exact ⟨max N (a + 1), hN _ (by omega), by omega⟩
abbrev noE : Value → H → Prop := fun _ _ => False
theorem qwp_keeps {α : Type} {P : Program} {K : α → H → Prop} {E : Value → H → Prop} : ∀ (s : Sem α) (h : H), Bdd h → qwp P s h K E →
    qwp P s h (fun x h' => Grows h h' ∧ Bdd h' ∧ K x h') E := by
  intro s
  induction s with
  | pure a => exact fun h b x => ⟨.refl h, b, x⟩
  | load m a k ih => rintro h b ⟨h1, c, e, fz, v, h2, h3, h4⟩; exact ⟨h1, c, e, fz, v, h2, h3, ih v h b h4⟩
  | new o k ih =>
    intro h bd x b hb
    refine qwp_mono (fun y h' k => ?_) (fun _ _ k => k) _ _ (ih b _ (bd.upd b o) (x b hb))
    exact ⟨fun c o' hc => k.1 c o' (by rw [upd_ne _ _ (fun e => by rw [e, hb] at hc; cases hc)]; exact hc), k.2⟩
  | shape r k ih => rintro h b ⟨o, h1, h2⟩; exact ⟨o, h1, ih _ h b h2⟩
  | frozen r k ih => rintro h b ⟨o, h1, h2⟩; exact ⟨o, h1, ih _ h b h2⟩
  | getObj r k ih => rintro h b ⟨o, h1, h2, h3⟩; exact ⟨o, h1, h2, ih _ h b h3⟩
  | choose r k ih =>
    intro h b x
    simp only [qwp] at x ⊢
    split at x
    · rename_i hf; rw [if_pos hf]; exact ih _ h b x
    · rename_i hf; rw [if_neg hf]; exact fun n => ih _ h b (x n)
  | program k ih => exact fun h b x => ih P h b x
  | mark m k ih => exact fun h b x => ⟨x.1, ih h b x.2⟩
  | halt e =>
    intro h b x
    cases e with
    | panic v => exact x
    | _ => exact x.elim
  | _ => exact fun h b x => x.elim
theorem cells_inj {a b : Array Value} {s t : TypeId} {x y : Nat × Nat} (h : some (Obj.cells a s x) = some (.cells b t y)) : a = b ∧ s = t ∧ x = y := by cases h; exact ⟨rfl, rfl, rfl⟩
theorem qwp_forall {α ι : Type} [Inhabited ι] {P : Program} {Z : ι → α → H → Prop} : ∀ (s : Sem α) (h : H), (∀ n, qwp P s h (Z n) noE) → qwp P s h (fun x h' => ∀ n, Z n x h') noE := by
  intro s
  induction s with
  | pure a => exact fun h x n => x n
  | load m a k ih =>
    intro h x
    obtain ⟨h1, c, e, fz, v, h2, h3, _⟩ := x default
    refine ⟨h1, c, e, fz, v, h2, h3, ih v h fun n => ?_⟩
    obtain ⟨_, c', e', fz', v', h2', h3', h4'⟩ := x n
    obtain ⟨rfl, _, _⟩ := cells_inj (h2.symm.trans h2')
    obtain rfl : v = v' := Option.some.inj (h3.symm.trans h3')
    exact h4'
  | new o k ih => exact fun h x b hb => ih b _ fun n => x n b hb
  | shape r k ih =>
    intro h x
    obtain ⟨o, h1, _⟩ := x default
    refine ⟨o, h1, ih _ h fun n => ?_⟩
    obtain ⟨o', h1', h2'⟩ := x n
    obtain rfl : o = o' := Option.some.inj (h1.symm.trans h1')
    exact h2'
  | frozen r k ih =>
    intro h x
    obtain ⟨o, h1, _⟩ := x default
    refine ⟨o, h1, ih _ h fun n => ?_⟩
    obtain ⟨o', h1', h2'⟩ := x n
    obtain rfl : o = o' := Option.some.inj (h1.symm.trans h1')
    exact h2'
  | getObj r k ih =>
    intro h x
    obtain ⟨o, h1, h2, _⟩ := x default
    refine ⟨o, h1, h2, ih _ h fun n => ?_⟩
    obtain ⟨o', h1', _, h2'⟩ := x n
    obtain rfl : o = o' := Option.some.inj (h1.symm.trans h1')
    exact h2'
  | choose r k ih =>
    intro h x
    by_cases hf : r.forced = true
    · simp only [qwp, hf, if_true] at x ⊢
      exact ih _ h x
    · simp only [qwp, hf] at x ⊢
      exact fun m => ih _ h fun n => x n m
  | program k ih => exact fun h x => ih P h x
  | mark m k ih => exact fun h x => ⟨(x default).1, ih h fun n => (x n).2⟩
  | halt e =>
    intro h x
    have := x default
    cases e with
    | panic v => exact this
    | _ => exact this
  | _ => exact fun h x => (x default).elim
theorem alloc_behind {α : Type} {P : Program} (o : Obj) : ∀ (t : Sem α) (Z : Nat → α → H → Prop) (h : H), Bdd h →
    (∀ b, h b = none → qwp P t (upd h b o) (fun y h1 => Z b y h1) noE) → qwp P t h (fun y h1 => ∀ b, h1 b = none → Z b y (upd h1 b o)) noE := by
  intro t
  induction t with
  | pure a => exact fun Z h bd x b hb => x b hb
  | load m a k ih =>
    intro Z h bd x
    obtain ⟨b0, f0, n0⟩ := bd.fresh a.block
    obtain ⟨h1, c, e, fz, v, h2, h3, _⟩ := x b0 f0
    rw [upd_ne _ _ (Ne.symm n0)] at h2
    refine ⟨h1, c, e, fz, v, h2, h3, ih v Z h bd fun b hb => ?_⟩
    obtain ⟨_, c', e', fz', v', h2', h3', h4'⟩ := x b hb
    rw [upd_ne _ _ (fun e => by rw [e, hb] at h2; cases h2)] at h2'
    obtain ⟨rfl, _, _⟩ := cells_inj (h2.symm.trans h2')
    obtain rfl : v = v' := Option.some.inj (h3.symm.trans h3')
    exact h4'
  | new o2 k ih =>
    intro Z h bd x b2 hb2
    refine ih b2 Z _ (bd.upd b2 o2) fun b hb => ?_
    obtain ⟨hne, hb'⟩ := upd_none.1 hb
    rw [upd_comm _ _ _ (Ne.symm hne)]
    exact x b hb' b2 (upd_none.2 ⟨Ne.symm hne, hb2⟩)
  | shape r k ih =>
    intro Z h bd x
    obtain ⟨b0, f0, n0⟩ := bd.fresh r
    obtain ⟨o1, h1, _⟩ := x b0 f0
    rw [upd_ne _ _ (Ne.symm n0)] at h1
    refine ⟨o1, h1, ih _ Z h bd fun b hb => ?_⟩
    obtain ⟨o', h1', h2'⟩ := x b hb
    rw [upd_ne _ _ (fun e => by rw [e, hb] at h1; cases h1)] at h1'
    obtain rfl : o1 = o' := Option.some.inj (h1.symm.trans h1')
    exact h2'
  | frozen a k ih =>
    intro Z h bd x
    obtain ⟨b0, f0, n0⟩ := bd.fresh a.block
    obtain ⟨o1, h1, _⟩ := x b0 f0
    rw [upd_ne _ _ (Ne.symm n0)] at h1
    refine ⟨o1, h1, ih _ Z h bd fun b hb => ?_⟩
    obtain ⟨o', h1', h2'⟩ := x b hb
    rw [upd_ne _ _ (fun e => by rw [e, hb] at h1; cases h1)] at h1'
    obtain rfl : o1 = o' := Option.some.inj (h1.symm.trans h1')
    exact h2'
  | getObj r k ih =>
    intro Z h bd x
    obtain ⟨b0, f0, n0⟩ := bd.fresh r
    obtain ⟨o1, h1, hc, _⟩ := x b0 f0
    rw [upd_ne _ _ (Ne.symm n0)] at h1
    refine ⟨o1, h1, hc, ih _ Z h bd fun b hb => ?_⟩
    obtain ⟨o', h1', _, h2'⟩ := x b hb
    rw [upd_ne _ _ (fun e => by rw [e, hb] at h1; cases h1)] at h1'
    obtain rfl : o1 = o' := Option.some.inj (h1.symm.trans h1')
    exact h2'
  | choose r k ih =>
    intro Z h bd x
    by_cases hf : r.forced = true
    · simp only [qwp, hf, if_true] at x ⊢
      exact ih _ Z h bd x
    · simp only [qwp, hf] at x ⊢
      exact fun n => ih _ Z h bd fun b hb => x b hb n
  | program k ih => exact fun Z h bd x => ih P Z h bd x
  | mark m k ih =>
    intro Z h bd x
    obtain ⟨b0, f0, _⟩ := bd.fresh 0
    exact ⟨(x b0 f0).1, ih Z h bd fun b hb => (x b hb).2⟩
  | halt e =>
    intro Z h bd x
    obtain ⟨b0, f0, _⟩ := bd.fresh 0
    have := x b0 f0
    cases e with
    | panic v => exact this
    | _ => exact this
  | _ =>
    intro Z h bd x
    obtain ⟨b0, f0, _⟩ := bd.fresh 0
    exact (x b0 f0).elim
theorem qwp_swap {α β : Type} {P : Program} {t : Sem β} : ∀ (s : Sem α) (K : α → β → H → Prop) (h : H), Bdd h →
    qwp P s h (fun x h1 => qwp P t h1 (fun y h2 => K x y h2) noE) noE →
    qwp P t h (fun y h1 => qwp P s h1 (fun x h2 => K x y h2) noE) noE := by
  intro s
  induction s with
  | pure a => exact fun K h bd x => x
  | load m a k ih =>
    rintro K h bd ⟨h1, c, e, fz, v, h2, h3, h4⟩
    exact qwp_mono (fun y h' r => ⟨h1, c, e, fz, v, r.1 _ _ h2, h3, r.2.2⟩) (fun _ _ k => k) _ _ (qwp_keeps _ h bd (ih v K h bd h4))
  | new o k ih =>
    intro K h bd x
    exact alloc_behind o t (fun b y h1 => qwp P (k b) h1 (fun x h2 => K x y h2) noE) h bd fun b hb => ih b K _ (bd.upd b o) (x b hb)
  | shape r k ih =>
    rintro K h bd ⟨o, h1, h2⟩
    exact qwp_mono (fun y h' r => ⟨o, r.1 _ _ h1, r.2.2⟩) (fun _ _ k => k) _ _ (qwp_keeps _ h bd (ih _ K h bd h2))
  | frozen r k ih =>
    rintro K h bd ⟨o, h1, h2⟩
    exact qwp_mono (fun y h' r => ⟨o, r.1 _ _ h1, r.2.2⟩) (fun _ _ k => k) _ _ (qwp_keeps _ h bd (ih _ K h bd h2))
  | getObj r k ih =>
    rintro K h bd ⟨o, h1, hc, h2⟩
    exact qwp_mono (fun y h' r => ⟨o, r.1 _ _ h1, hc, r.2.2⟩) (fun _ _ k => k) _ _ (qwp_keeps _ h bd (ih _ K h bd h2))
  | choose r k ih =>
    intro K h bd x
    by_cases hf : r.forced = true
    · simp only [qwp, hf, if_true] at x ⊢
      exact ih _ K h bd x
    · simp only [qwp, hf] at x ⊢
      exact qwp_forall t h fun n => ih _ K h bd (x n)
  | program k ih => exact fun K h bd x => ih P K h bd x
  | mark m k ih =>
    intro K h bd x
    exact qwp_mono (fun y h' r => ⟨x.1, r⟩) (fun _ _ k => k) _ _ (ih K h bd x.2)
  | halt e =>
    intro K h bd x
    cases e <;> exact x.elim
  | _ => exact fun K h bd x => x.elim
theorem qwp_reach {α : Type} {P : Program} {K : α → H → Prop} : ∀ (s : Sem α) (h : H), Bdd h → qwp P s h K noE → ∃ x h', K x h' := by
  intro s
  induction s with
  | pure a => exact fun h bd x => ⟨a, h, x⟩
  | load m a k ih => rintro h bd ⟨_, c, e, fz, v, _, _, h4⟩; exact ih v h bd h4
  | new o k ih =>
    intro h bd x
    obtain ⟨b, hb, _⟩ := bd.fresh 0
    exact ih b _ (bd.upd b o) (x b hb)
  | shape r k ih => rintro h bd ⟨o, _, h2⟩; exact ih _ h bd h2
  | frozen r k ih => rintro h bd ⟨o, _, h2⟩; exact ih _ h bd h2
  | getObj r k ih => rintro h bd ⟨o, _, _, h2⟩; exact ih _ h bd h2
  | choose r k ih =>
    intro h bd x
    simp only [qwp] at x
    split at x
    · exact ih _ h bd x
    · exact ih _ h bd (x 0)
  | program k ih => exact fun h bd x => ih P h bd x
  | mark m k ih => exact fun h bd x => ih h bd x.2
  | halt e => intro h bd x; cases e <;> exact x.elim
  | _ => exact fun h bd x => x.elim
theorem put_comm (ρ : Env) {x y : Option Tmp} (v u : Value) (h : ∀ d, x = some d → y ≠ some d) : put (put ρ x v) y u = put (put ρ y u) x v := by
  cases x with
  | none => rfl
  | some d =>
    cases y with
    | none => rfl
    | some e =>
      have hne : d ≠ e := fun he => h d rfl (he ▸ rfl)
      funext t
      simp only [put]
      by_cases h1 : t = d <;> by_cases h2 : t = e
      · exact absurd (h1.symm.trans h2) hne
      · have b1 : Nat.beq t d = true := by rw [Nat.beq_eq]; exact h1
        have b2 : Nat.beq t e = false := by rw [← Bool.not_eq_true, Nat.beq_eq]; exact h2
        rw [b1, b2]; rfl
      · have b1 : Nat.beq t d = false := by rw [← Bool.not_eq_true, Nat.beq_eq]; exact h1
        have b2 : Nat.beq t e = true := by rw [Nat.beq_eq]; exact h2
        rw [b1, b2]; rfl
      · have b1 : Nat.beq t d = false := by rw [← Bool.not_eq_true, Nat.beq_eq]; exact h1
        have b2 : Nat.beq t e = false := by rw [← Bool.not_eq_true, Nat.beq_eq]; exact h2
        rw [b1, b2]; rfl
theorem ev_put {ρ : Env} {dst : Option Tmp} {v : Value} {x : Operand} (h : ∀ d, dst = some d → x ≠ .tmp d) : ev (put ρ dst v) x = ev ρ x := by
  cases dst with
  | none => rfl
  | some d =>
    cases x with
    | tmp t =>
      have b : Nat.beq t d = false := by rw [← Bool.not_eq_true, Nat.beq_eq]; exact fun e => h d rfl (e ▸ rfl)
      simp only [ev, put, b, cond_false]
    | _ => rfl
section
variable {P : Program} {ops : Array Oper}
theorem execOp_put' (o : Oper) (hs : ∀ cs b, o.op ≠ .select cs b) (ρ : Env) (dst : Option Tmp) (v : Value) (h : ∀ d, dst = some d → d ∉ o.looksAt ops) :
    execOp (ev (put ρ dst v)) o = execOp (ev ρ) o :=
  execOp_congr o hs fun x hx => ev_put fun d hd hxd => h d hd (by
    subst hxd
    exact List.mem_append_left _ (List.mem_filterMap.2 ⟨.tmp d, by simpa using hx, rfl⟩))
theorem wanted_put' (o : Oper) (ρ : Env) (dst : Option Tmp) (v : Value) (h : ∀ d, dst = some d → d ∉ o.looksAt ops) :
    Region.wanted o (yld ops (put ρ dst v)) = Region.wanted o (yld ops ρ) := by
  cases dst with
  | none => rfl
  | some d =>
    unfold Region.wanted
    cases hg : o.guard with
    | none => rfl
    | some gw =>
      obtain ⟨g, want⟩ := gw
      have hy : yld ops (put ρ (some d) v) g = yld ops ρ g := by
        unfold yld
        cases ht : (ops[g]?).bind (·.dst) with
        | none => rfl
        | some t =>
          have hne : t ≠ d := fun e => h d rfl (by subst e; simp [Oper.looksAt, hg, ht])
          have b : Nat.beq t d = false := by rw [← Bool.not_eq_true, Nat.beq_eq]; exact hne
          simp only [put, b, cond_false]
      simp only [hy]
def anc (ops : Array Oper) : Nat → Nat → Nat → Bool
  | 0, _, _ => false
  | n + 1, i, j => match ops.toList[j]? with
    | some o => o.after.toList.any fun e => Region.binds .any e && (Nat.beq e.on i || anc ops n i e.on)
    | none => false
def Closed (ops : Array Oper) (listed : Array Bool) : Prop := ∀ j o, ops[j]? = some o → listed.getD j true = true → ∀ e ∈ o.after, Region.binds .any e = true → listed.getD e.on false = true
theorem anc_open {listed : Array Bool} (cl : Closed ops listed) {i : Nat} (hi : listed.getD i false = false) : ∀ (n j : Nat), anc ops n i j = true → ∃ o, ops[j]? = some o ∧ ∃ e ∈ o.after, Region.binds .any e = true ∧ listed.getD e.on false = false := by
  intro n
  induction n with
  | zero => intro j h; cases h
  | succ n ih =>
    intro j h
    simp only [anc] at h
    rw [Array.getElem?_toList] at h
    cases ho : ops[j]? with
    | none => rw [ho] at h; cases h
    | some o =>
      rw [ho] at h
      obtain ⟨e, he, hb⟩ := List.any_eq_true.1 h
      simp only [Bool.and_eq_true, Bool.or_eq_true, Nat.beq_eq] at hb
      refine ⟨o, rfl, e, Array.mem_toList_iff.1 he, hb.1, ?_⟩
      rcases hb.2 with q | q
      · rw [q]; exact hi
      · obtain ⟨o', ho', e', he', hb', hl'⟩ := ih e.on q
        cases hl : listed.getD e.on false with
        | false => rfl
        | true =>
          have hlt : e.on < listed.size := by
            rcases Nat.lt_or_ge e.on listed.size with r | r
            · exact r
            · simp [Array.getElem?_eq_none r] at hl
          have h2 := cl e.on o' ho' (by simp [hlt] at hl ⊢; exact hl) e' he' hb'
          rw [h2] at hl'; cases hl'
def maskL : List Bool → Nat
  | [] => 0
  | b :: l => 2 * maskL l + (bif b then 1 else 0)
theorem maskL_bit : ∀ (l : List Bool) (i : Nat), (maskL l).testBit i = l.getD i false := by
  intro l
  induction l with
  | nil => intro i; simp [maskL]
  | cons b l ih =>
    intro i
    cases i with
    | zero => cases b <;> simp [maskL, Nat.testBit_zero]
    | succ i =>
      rw [Nat.testBit_succ]
      have : (maskL (b :: l)) / 2 = maskL l := by
        show (2 * maskL l + (bif b then 1 else 0)) / 2 = maskL l
        cases b <;> simp only [cond_true, cond_false] <;> omega
      rw [this, ih]; rfl
theorem mask_get (listed : Array Bool) (i : Nat) : (maskL listed.toList).testBit i = listed.getD i false := by
  rw [maskL_bit, Array.getD_eq_getD_getElem?, List.getD_eq_getElem?_getD, Array.getElem?_toList]
def closedL (m : Nat) : List Oper → List Bool → Bool
  | o :: os, b :: bs => (!b || o.after.toList.all fun e => !Region.binds .any e || m.testBit e.on) && closedL m os bs
  | _, _ => true
theorem closedL_get {m : Nat} : ∀ {os : List Oper} {bs : List Bool}, closedL m os bs = true → ∀ (j : Nat) (o : Oper), os[j]? = some o → bs[j]? = some true → ∀ e ∈ o.after.toList, Region.binds .any e = true → m.testBit e.on = true := by
  intro os
  induction os with
  | nil => intro bs _ j o h; simp at h
  | cons p os ih =>
    intro bs h j o ho hb e he hbi
    cases bs with
    | nil => simp at hb
    | cons b bs =>
      rw [closedL, Bool.and_eq_true] at h
      cases j with
      | zero =>
        simp only [List.getElem?_cons_zero, Option.some.injEq] at ho hb
        subst ho; subst hb
        have h1 := h.1
        simp only [Bool.not_true, Bool.false_or, List.all_eq_true, Bool.or_eq_true, Bool.not_eq_true'] at h1
        rcases h1 e he with q | q
        · rw [hbi] at q; cases q
        · exact q
      | succ j => exact ih h.2 j o (by simpa using ho) (by simpa using hb) e he hbi
def closedB (ops : Array Oper) (listed : Array Bool) : Bool := Nat.ble ops.size listed.size && closedL (maskL listed.toList) ops.toList listed.toList
theorem closed_of {listed : Array Bool} (h : closedB ops listed = true) : Closed ops listed := fun j o ho hl e he hb => by
  unfold closedB at h
  rw [Bool.and_eq_true] at h
  have hs := Nat.le_of_ble_eq_true h.1
  have hj := (Array.getElem?_eq_some_iff.1 ho).1
  have hlt : j < listed.size := by omega
  have := closedL_get h.2 j o (by rw [Array.getElem?_toList]; exact ho) (by
    rw [Array.getElem?_toList, Array.getElem?_eq_getElem hlt]
    simp [hlt] at hl
    rw [hl]) e (Array.mem_toList_iff.2 he) hb
  rwa [mask_get] at this
theorem Closed.list {listed : Array Bool} (cl : Closed ops listed) {j : Nat} (hj : j ∈ Region.ready .any ops listed) : Closed ops (listed.setIfInBounds j true) := fun k o ho hl e he hb => by
  obtain ⟨hjun, oj, hoj, hall⟩ := mem_ready.1 hj
  by_cases hjk : j = k
  · subst hjk
    rw [hoj] at ho; cases ho
    exact getD_set_true (hall e he hb)
  · rw [getD_set_ne true hjk] at hl
    exact getD_set_true (cl k o ho hl e he hb)
def pend (ops : Array Oper) (listed : Array Bool) (i j : Nat) (_oj : Oper) : Prop :=
  j ≠ i ∧ listed.getD j true = false ∧ anc ops ops.size i j = false
def Few (listed : Array Bool) (k : Nat) : Prop := ∀ S : List Nat, S.Nodup → (∀ j ∈ S, listed.getD j true = false) → S.length ≤ k
theorem Few.list {listed : Array Bool} {k j : Nat} (f : Few listed (k + 1)) (hj : listed.getD j true = false) : Few (listed.setIfInBounds j true) k := by
  intro S nd hS
  have hlt : j < listed.size := by
    rcases Nat.lt_or_ge j listed.size with q | q
    · exact q
    · simp [Array.getElem?_eq_none q] at hj
  have hjS : j ∉ S := fun hm => by have := hS j hm; simp [hlt] at this
  have := f (j :: S) (List.nodup_cons.2 ⟨hjS, nd⟩) (fun x hx => by
    rcases List.mem_cons.1 hx with rfl | hx
    · exact hj
    · have h1 := hS x hx
      rw [getD_set_ne true (fun e => hjS (by rw [e]; exact hx))] at h1
      exact h1)
  simpa using this
theorem nodup_length {S : List Nat} (nd : S.Nodup) : ∀ {U : List Nat}, (∀ x ∈ S, x ∈ U) → S.length ≤ U.length := by
  induction S with
  | nil => intro U _; exact Nat.zero_le _
  | cons a S ih =>
    intro U h
    obtain ⟨ha, nd'⟩ := List.nodup_cons.1 nd
    have hmem := h a (List.mem_cons_self ..)
    have := ih nd' (U := U.erase a) (fun x hx => (List.mem_erase_of_ne (fun e => ha (by rw [← e]; exact hx))).2 (h x (List.mem_cons_of_mem _ hx)))
    rw [List.length_erase_of_mem hmem] at this
    have : 0 < U.length := List.length_pos_of_mem hmem
    simp only [List.length_cons]
    omega
def openN : List Bool → Nat
  | [] => 0
  | b :: l => (bif b then 0 else 1) + openN l
theorem openN_range : ∀ l : List Bool, ((List.range l.length).filter fun j => !l.getD j true).length = openN l := by
  intro l
  induction l with
  | nil => rfl
  | cons b l ih =>
    rw [List.length_cons, List.range_succ_eq_map, List.filter_cons, List.filter_map, openN, ← ih]
    cases b <;> simp [Function.comp_def] <;> omega
def fewB (listed : Array Bool) (k : Nat) : Bool := Nat.ble (openN listed.toList) k
theorem few_of {listed : Array Bool} {k : Nat} (h : fewB listed k = true) : Few listed k := fun S nd hS => by
  have h := Nat.le_of_ble_eq_true h
  rw [← openN_range, Array.length_toList] at h
  have eg : (fun j => !listed.toList.getD j true) = fun j => !listed.getD j true := by funext j; rw [Array.getD_eq_getD_getElem?, List.getD_eq_getElem?_getD, Array.getElem?_toList]
  rw [eg] at h
  refine Nat.le_trans (nodup_length nd (U := (List.range listed.size).filter fun j => !listed.getD j true) fun x hx => ?_) h
  have := hS x hx
  rw [List.mem_filter, List.mem_range]
  refine ⟨?_, by simp [this]⟩
  rcases Nat.lt_or_ge x listed.size with q | q
  · exact q
  · simp [Array.getElem?_eq_none q] at this
theorem any_take {next : Post} {C : PPost} {i : Nat} (X : Post → Post) (G : Post) (hX : ∀ T ρ L h, G ρ L h → X T ρ L h → aOpI P ops C i T ρ L h)
    (hm : ∀ (T T' : Post), (∀ ρ L h, T ρ L h → T' ρ L h) → ∀ ρ L h, X T ρ L h → X T' ρ L h) :
    ∀ (fuel : Nat) (listed : Array Bool),
      (∀ j oj, ops[j]? = some oj → pend ops listed i j oj → ∀ T ρ L h, G ρ L h → X (aOpI P ops C j T) ρ L h → aOpI P ops C j (fun ρ L h => G ρ L h ∧ X T ρ L h) ρ L h) →
      Few listed (fuel + 1) → Closed ops listed → i ∈ Region.ready .any ops listed → ∀ ρ L h, G ρ L h → X (aAny P ops next C fuel (listed.setIfInBounds i true)) ρ L h → aAny P ops next C (fuel + 1) listed ρ L h := by
  intro fuel
  induction fuel with
  | zero =>
    intro listed _ few _ hr ρ L h g H
    refine ⟨fun h => (by rw [h] at hr; cases hr), fun j hj => ?_⟩
    by_cases hji : j = i
    · subst hji; exact hX _ _ _ _ g H
    · have := few [i, j] (by simp [Ne.symm hji]) (fun x hx => by
        rcases List.mem_cons.1 hx with rfl | hx
        · exact (mem_ready.1 hr).1
        · rw [List.mem_singleton] at hx; subst hx; exact (mem_ready.1 hj).1)
      simp at this
  | succ fuel ih =>
    intro listed sw few cl hr ρ L h g H
    refine ⟨fun h => (by rw [h] at hr; cases hr), fun j hj => ?_⟩
    by_cases hji : j = i
    · subst hji; exact hX _ _ _ _ g H
    · obtain ⟨hjun, oj, hoj, hall⟩ := mem_ready.1 hj
      have hnot : anc ops ops.size i j = false := by
        cases hq : anc ops ops.size i j with
        | false => rfl
        | true =>
          have h0 := (mem_ready.1 hr).1
          obtain ⟨o, ho, e, he, hb, hl⟩ := anc_open cl (i := i) (by
            rcases Nat.lt_or_ge i listed.size with h' | h'
            · simp [h'] at h0 ⊢; exact h0
            · simp [Array.getElem?_eq_none h']) ops.size j hq
          rw [hoj] at ho; cases ho
          have := hall e he hb
          rw [hl] at this; cases this
      have H1 := hm _ _ (fun ρ L h k => k.2 j (ready_mono hj hji)) ρ L h H
      have H2 := sw j oj hoj ⟨hji, hjun, hnot⟩ _ ρ L h g H1
      refine aOpI_mono (fun ρ' L' h' k => ih (listed.setIfInBounds j true) (fun k ok hk hp => ?_) (few.list hjun) (cl.list hj) (ready_mono hr (Ne.symm hji)) ρ' L' h' k.1 ?_) H2
      · refine sw k ok hk ⟨hp.1, ?_, hp.2.2⟩
        by_cases hjk : j = k
        · subst hjk; exact hjun
        · have := hp.2.1; rw [getD_set_ne true hjk] at this; exact this
      · rw [Array.setIfInBounds_comm _ _ hji]
        exact k.2
def valOf : Next → Value
  | .value v => v
  | _ => undef
theorem upon_val {o : Oper} {ρ : Env} {L h : H} {next : Post} {C : PPost} {nx : Next} (hv : isVal nx) {hf : H} :
    upon P o ρ L h next C nx hf false ↔ ∃ L' h', hf = un L' h' ∧ (Apart L h → Apart L' h') ∧ Ag o.op L L' ∧ next (put ρ o.dst (valOf nx)) L' h' := by
  unfold upon
  cases nx <;> first | exact hv.elim | simp [valOf]
abbrev noP : PPost := fun _ _ => False
theorem aOp_quiet {o : Oper} {ρ : Env} {L h : H} {next : Post} {C : PPost} (hq : quietOp P o.op = true) :
    aOp P o ρ L h next C ↔ (Apart L h → qwp P (execOp (ev ρ) o) (un L h) (fun nx hf => isVal nx ∧ ∃ L' h', hf = un L' h' ∧ (Apart L h → Apart L' h') ∧ Ag o.op L L' ∧ next (put ρ o.dst (valOf nx)) L' h') (fun v hf => C [{ v, recovered := false }] hf)) := by
  unfold aOp
  rw [hq, cond_true]
  constructor
  · exact fun x ap => qwp_mono (fun a h k => ⟨k.1, (upon_val k.1).1 k.2⟩) (fun _ _ k => k) _ _ (x ap)
  · exact fun x ap => qwp_mono (fun a h k => ⟨k.1, (upon_val k.1).2 k.2⟩) (fun _ _ k => k) _ _ (x ap)
theorem quiet_keepsL {op : Op} (hq : quietOp P op = true) : mutates op = false := by
  unfold quietOp at hq
  unfold mutates
  split at hq <;> first | rfl | (split at hq <;> first | rfl | cases hq) | cases hq
theorem swap_quiet {i j : Nat} {oi oj : Oper} (hi : ops[i]? = some oi) (hj : ops[j]? = some oj) (hap : oi.apart ops oj = true)
    (hsi : ∀ cs b, oi.op ≠ .select cs b) (hsj : ∀ cs b, oj.op ≠ .select cs b) (qi : quietOp P oi.op = true) (qj : quietOp P oj.op = true)
    (T : Post) (ρ : Env) (L h : H) (g : Bdd (un L h) ∧ Apart L h) (x : aOpI P ops noP i (aOpI P ops noP j T) ρ L h) :
    aOpI P ops noP j (fun ρ L h => (Bdd (un L h) ∧ Apart L h) ∧ aOpI P ops noP i T ρ L h) ρ L h := by
  have mi := quiet_keepsL qi
  have mj := quiet_keepsL qj
  obtain ⟨h1, h2, h3⟩ := Oper.apart_spec hap
  unfold aOpI at x ⊢
  simp only [hi, hj] at x ⊢
  by_cases wi : Region.wanted oi (yld ops ρ) = true
  · rw [if_pos wi] at x
    by_cases wj : Region.wanted oj (yld ops ρ) = true
    · rw [if_pos wj]
      rw [aOp_quiet qi] at x
      rw [aOp_quiet qj]
      have x1 : qwp P (execOp (ev ρ) oi) (un L h) (fun nx hf => qwp P (execOp (ev ρ) oj) hf
          (fun ny hf2 => isVal nx ∧ isVal ny ∧ ∃ L2 h2, hf2 = un L2 h2 ∧ Apart L2 h2 ∧ Grows L L2 ∧ T (put (put ρ oi.dst (valOf nx)) oj.dst (valOf ny)) L2 h2) noE) noE := by
        refine qwp_mono (fun nx hf k => ?_) (fun _ _ k => k) _ _ (qwp_keeps _ _ g.1 (x g.2))
        obtain ⟨gr, bd, va, L1, h1', rfl, ap1, ag1, u⟩ := k
        rw [wanted_put' oj ρ oi.dst _ h1, if_pos wj, aOp_quiet qj, execOp_put' oj hsj ρ oi.dst _ h1] at u
        refine qwp_mono (fun ny hf2 k => ?_) (fun _ _ k => k) _ _ (u (ap1 g.2))
        obtain ⟨va2, L2, h2', e2, ap2, ag2, u⟩ := k
        refine ⟨va, va2, L2, h2', e2, ap2 (ap1 g.2), ?_, u⟩
        unfold Ag at ag1 ag2
        rw [mi] at ag1; rw [mj] at ag2
        exact Grows.trans ag1 ag2
      have x2 := qwp_swap _ _ _ g.1 x1
      refine fun _ => qwp_mono (fun ny hf k => ?_) (fun _ _ k => k) _ _ (qwp_keeps _ _ g.1 x2)
      obtain ⟨gr, bd, u⟩ := k
      let h1' : H := fun b => match L b with | some _ => none | none => hf b
      have e1 : hf = un L h1' := by
        funext b
        unfold un
        cases hL : L b with
        | none => simp [h1', hL]
        | some o => exact gr b o (un_left hL)
      have ap1 : Apart L h1' := fun b => by
        cases hL : L b with
        | none => exact .inl rfl
        | some o => exact .inr (by simp [h1', hL])
      have va2 : isVal ny := by
        obtain ⟨_, _, _, va2, _⟩ := qwp_reach _ _ bd u
        exact va2
      refine ⟨va2, L, h1', e1, fun _ => ap1, .refl _ _, ⟨by rw [← e1]; exact bd, ap1⟩, ?_⟩
      rw [wanted_put' oi ρ oj.dst _ h3, if_pos wi, aOp_quiet qi, execOp_put' oi hsi ρ oj.dst _ h3, ← e1]
      refine fun _ => qwp_mono (fun nx hf2 k => ?_) (fun _ _ k => k) _ _ u
      obtain ⟨va, va2, L2, h2', e2, ap2, gr3, u⟩ := k
      refine ⟨va, L2, h2', e2, fun _ => ap2, ?_, ?_⟩
      · unfold Ag; rw [mi]; exact gr3
      · rw [← put_comm ρ _ _ h2]; exact u
    · rw [if_neg wj]
      refine ⟨g, ?_⟩
      rw [wanted_put' oi ρ oj.dst _ h3, if_pos wi]
      rw [aOp_quiet qi] at x ⊢
      rw [execOp_put' oi hsi ρ oj.dst _ h3]
      refine fun ap0 => qwp_mono (fun nx hf k => ?_) (fun _ _ k => k) _ _ (x ap0)
      obtain ⟨va, L1, h1', e1, ap1, ag1, u⟩ := k
      rw [wanted_put' oj ρ oi.dst _ h1, if_neg wj, put_comm ρ _ _ h2] at u
      exact ⟨va, L1, h1', e1, ap1, ag1, u⟩
  · rw [if_neg wi] at x
    rw [wanted_put' oj ρ oi.dst _ h1] at x
    by_cases wj : Region.wanted oj (yld ops ρ) = true
    · rw [if_pos wj] at x ⊢
      rw [aOp_quiet qj] at x ⊢
      rw [execOp_put' oj hsj ρ oi.dst _ h1] at x
      refine fun ap0 => qwp_mono (fun nx hf k => ?_) (fun _ _ k => k) _ _ (qwp_keeps _ _ g.1 (x ap0))
      obtain ⟨gr, bd, va, L1, h1', rfl, ap1, ag1, u⟩ := k
      refine ⟨va, L1, h1', rfl, ap1, ag1, ⟨bd, ap1 g.2⟩, ?_⟩
      rw [wanted_put' oi ρ oj.dst _ h3, if_neg wi, ← put_comm ρ _ _ h2]
      exact u
    · rw [if_neg wj] at x ⊢
      refine ⟨g, ?_⟩
      rw [wanted_put' oi ρ oj.dst _ h3, if_neg wi, ← put_comm ρ _ _ h2]
      exact x
theorem aOp_env {o : Oper} {ρ ρ' : Env} {L h : H} {next next' : Post} {C : PPost} (he : execOp (ev ρ') o = execOp (ev ρ) o)
    (hK : ∀ nx hf fl, upon P o ρ L h next C nx hf fl → upon P o ρ' L h next' C nx hf fl) (x : aOp P o ρ L h next C) : aOp P o ρ' L h next' C := by
  intro ap
  replace x := x ap
  rw [he]
  cases hq : quietOp P o.op
  · rw [hq] at x; exact awp_mono (fun _ _ _ k => hK _ _ _ k) (fun _ _ k => k) _ _ _ x
  · rw [hq] at x; exact qwp_mono (fun _ _ k => ⟨k.1, hK _ _ _ k.2⟩) (fun _ _ k => k) _ _ x
def YieldsL (P : Program) (ops : Array Oper) (C : PPost) (o : Oper) (v : Value) (b : Bool) (ρ : Env) (L : H) : Prop :=
  (Region.wanted o (yld ops ρ) = true ∧ ∀ (L' h' : H) (next : Post), (b = true → Grows L L') → next (put ρ o.dst v) L' h' → aOp P o ρ L' h' next C) ∨
  (Region.wanted o (yld ops ρ) = false ∧ v = undef)
theorem swap_yields {C : PPost} {j : Nat} {oi oj : Oper} {v : Value} {b : Bool} (hj : ops[j]? = some oj) (hap : oi.apart ops oj = true)
    (hsi : ∀ cs b, oi.op ≠ .select cs b) (hsj : ∀ cs b, oj.op ≠ .select cs b) (mj : b = true → mutates oj.op = false) (T : Post) (ρ : Env) (L h : H)
    (g : YieldsL P ops C oi v b ρ L) (x : aOpI P ops C j T (put ρ oi.dst v) L h) :
    aOpI P ops C j (fun ρ L h => YieldsL P ops C oi v b ρ L ∧ T (put ρ oi.dst v) L h) ρ L h := by
  obtain ⟨h1, h2, h3⟩ := Oper.apart_spec hap
  have keep : ∀ (L' : H) (u : Value), Ag oj.op L L' → YieldsL P ops C oi v b (put ρ oj.dst u) L' := fun L' u ag => by
    rcases g with ⟨hw, hy⟩ | ⟨hw, hv⟩
    · refine .inl ⟨by rw [wanted_put' oi ρ oj.dst _ h3]; exact hw, fun L'' h'' next gr k => ?_⟩
      have := hy L'' h'' (fun ρ' => next (put ρ' oj.dst u)) (fun hb => by
        unfold Ag at ag; rw [mj hb] at ag; exact Grows.trans ag (gr hb)) (by rw [put_comm ρ _ _ h2]; exact k)
      refine aOp_env (execOp_put' oi hsi ρ oj.dst _ h3) (fun nx hf fl u' => ?_) this
      refine u'.imp id fun ⟨L3, h3', e, ap, ag, m⟩ => ⟨L3, h3', e, ap, ag, ?_⟩
      cases nx <;> first
        | (show next _ _ _; rw [← put_comm ρ _ _ h2]; exact m)
        | exact m
        | exact m.mono (fun v h'' k a => by rw [← put_comm ρ _ _ h2]; exact k a) (fun _ _ k => k)
    · exact .inr ⟨by rw [wanted_put' oi ρ oj.dst _ h3]; exact hw, hv⟩
  unfold aOpI at x ⊢
  simp only [hj] at x ⊢
  rw [wanted_put' oj ρ oi.dst _ h1] at x
  by_cases wj : Region.wanted oj (yld ops ρ) = true
  · rw [if_pos wj] at x ⊢
    refine aOp_env (execOp_put' oj hsj ρ oi.dst _ h1).symm (fun nx hf fl u' => ?_) x
    refine u'.imp id fun ⟨L3, h3', e, ap, ag, m⟩ => ⟨L3, h3', e, ap, ag, ?_⟩
    cases nx <;> first
      | exact ⟨keep _ _ ag, by rw [← put_comm ρ _ _ h2]; exact m⟩
      | exact m
      | exact m.mono (fun v h'' k a => ⟨keep _ _ ag, by rw [← put_comm ρ _ _ h2]; exact k a⟩) (fun _ _ k => k)
  · rw [if_neg wj] at x ⊢
    exact ⟨keep _ _ (.refl _ _), by rw [← put_comm ρ _ _ h2]; exact x⟩
def swapB (P : Program) (m : Nat) (oj : Oper) : Bool := match m with | 0 => true | 1 => !mutates oj.op | _ => quietOp P oj.op
def freeL (P : Program) (ops : Array Oper) (oi : Oper) (i m : Nat) : Nat → List Oper → List Bool → Bool
  | j, oj :: os, b :: bs => (Nat.beq j i || b || ((oi.apart ops oj && swapB P m oj) || anc ops ops.size i j)) && freeL P ops oi i m (j + 1) os bs
  | _, _, _ => true
theorem freeL_get {oi : Oper} {i m : Nat} : ∀ {os : List Oper} {bs : List Bool} {k : Nat}, freeL P ops oi i m k os bs = true → ∀ (j : Nat) (oj : Oper), os[j]? = some oj → bs[j]? = some false → k + j ≠ i → anc ops ops.size i (k + j) = false →
    (oi.apart ops oj && swapB P m oj) = true := by
  intro os
  induction os with
  | nil => intro bs k _ j o h; simp at h
  | cons p os ih =>
    intro bs k h j o ho hb hne ha
    cases bs with
    | nil => simp at hb
    | cons b bs =>
      rw [freeL, Bool.and_eq_true] at h
      cases j with
      | zero =>
        simp only [List.getElem?_cons_zero, Option.some.injEq] at ho hb
        subst ho; subst hb
        rw [Nat.add_zero] at hne ha
        have h1 := h.1
        have hb : Nat.beq k i = false := by rw [← Bool.not_eq_true, Nat.beq_eq]; exact hne
        rw [hb, ha, Bool.false_or, Bool.false_or, Bool.or_false] at h1
        exact h1
      | succ j => exact ih h.2 j o (by simpa using ho) (by simpa using hb) (by omega) (by rw [← ha]; congr 1; omega)
def free (P : Program) (ops : Array Oper) (listed : Array Bool) (i m : Nat) : Bool :=
  match ops[i]? with
  | none => false
  | some oi => closedB ops listed && (!listed.getD i true && oi.after.toList.all fun e => !Region.binds .any e || (maskL listed.toList).testBit e.on) && (match m with | 2 => quietOp P oi.op | _ => true) && freeL P ops oi i m 0 ops.toList listed.toList
theorem free_spec {listed : Array Bool} {i m : Nat} {oi : Oper} (hi : ops[i]? = some oi) (h : free P ops listed i m = true) :
    Closed ops listed ∧ i ∈ Region.ready .any ops listed ∧ (m = 2 → quietOp P oi.op = true) ∧ ∀ j oj, ops[j]? = some oj → pend ops listed i j oj → oi.apart ops oj = true ∧ (m = 1 → mutates oj.op = false) ∧ (m = 2 → quietOp P oj.op = true) := by
  simp only [free, hi, Bool.and_eq_true] at h
  obtain ⟨⟨⟨hc, h0, h1⟩, hq⟩, h⟩ := h
  refine ⟨closed_of hc, mem_ready.2 ⟨by simpa using h0, oi, hi, fun e he hb => ?_⟩, fun e => by subst e; exact hq, fun j oj hj hp => ?_⟩
  · rw [List.all_eq_true] at h1
    have := h1 e (Array.mem_toList_iff.2 he)
    rw [hb, Bool.not_true, Bool.false_or, mask_get] at this
    exact this
  have hlt : j < listed.size := by
    rcases Nat.lt_or_ge j listed.size with q | q
    · exact q
    · have := hp.2.1; simp [Array.getElem?_eq_none q] at this
  have h1 := freeL_get h j oj (by rw [Array.getElem?_toList]; exact hj) (by
    have := hp.2.1
    rw [Array.getElem?_toList, Array.getElem?_eq_getElem hlt]
    simp [hlt] at this
    rw [this]) (by rw [Nat.zero_add]; exact hp.1) (by rw [Nat.zero_add]; exact hp.2.2)
  rw [Bool.and_eq_true] at h1
  refine ⟨h1.1, fun e => ?_, fun e => ?_⟩
  · subst e; simpa [swapB] using h1.2
  · subst e; exact h1.2
theorem awp_bdd {α : Type} {P : Program} {K : α → H → Bool → Prop} {E : Value → H → Prop} : ∀ (s : Sem α) (h : H) (fl : Bool), Bdd h → awp P s h fl K E →
    awp P s h fl (fun x h' fl' => Bdd h' ∧ K x h' fl') E := by
  intro s
  induction s with
  | pure a => exact fun h fl b x => ⟨b, x⟩
  | load m a k ih => rintro h fl b ⟨h1, c, e, fz, v, h2, h3, h4⟩; exact ⟨h1, c, e, fz, v, h2, h3, ih v h fl b h4⟩
  | store m a v k ih => rintro h fl b ⟨h1, h2, c, e, fz, h3, h4, h5, h6⟩; exact ⟨h1, h2, c, e, fz, h3, h4, h5, ih _ _ (b.upd _ _) h6⟩
  | new o k ih => exact fun h fl bd x b hb => ih b _ _ (bd.upd b o) (x b hb)
  | shape r k ih => rintro h fl b ⟨o, h1, h2⟩; exact ⟨o, h1, ih _ _ _ b h2⟩
  | freeze a n k ih => rintro h fl b ⟨o, h1, h2, h3, h4⟩; exact ⟨o, h1, h2, h3, ih _ _ (b.upd _ _) h4⟩
  | frozen a k ih => rintro h fl b ⟨o, h1, h2⟩; exact ⟨o, h1, ih _ _ _ b h2⟩
  | getObj r k ih => rintro h fl b ⟨o, h1, h2, h3⟩; exact ⟨o, h1, h2, ih _ _ _ b h3⟩
  | setObj r o k ih => rintro h fl b ⟨o', h1, h2, h3⟩; exact ⟨o', h1, h2, ih _ _ (b.upd _ _) h3⟩
  | choose q k ih =>
    intro h fl b x
    simp only [awp] at x ⊢
    split at x
    · rename_i hf; rw [if_pos hf]; exact ih _ _ _ b x
    · rename_i hf; rw [if_neg hf]; exact fun n => ih _ _ _ b (x n)
  | sys c k ih => exact fun h fl b x => x.elim
  | program k ih => exact fun h fl b x => ih _ _ _ b x
  | mark m k ih => exact fun h fl b x => ih _ _ b x
  | halt e =>
    intro h fl b x
    cases e with
    | panic v => exact x
    | unsupported u => cases u <;> first | exact x | exact x.elim
    | _ => exact x.elim
theorem ACall.bdd {f : FuncId} {args : Array Value} {h : H} {R : Value → H → Prop} {C : List PanicEntry → H → Prop} (x : ACall P f args h R C) : ACall P f args h (fun v h' => Bdd h' ∧ R v h') C := fun w g s =>
  (x w g s).mono fun e w' r => by
    cases e with
    | returned v => obtain ⟨h', a, b, c⟩ := r; exact ⟨h', a, b, a.bdd, c⟩
    | panicked v => exact r
    | outgrown => trivial
theorem ARnd.bdd {l : Nat} {f : FuncId} {tmps : Array Value} {assign body : Code} {h : H} {R : Value → H → Prop} {C : List PanicEntry → H → Prop} (x : ARnd P l f tmps assign body h R C) : ARnd P l f tmps assign body h (fun v h' => Bdd h' ∧ R v h') C := fun m w g s =>
  (x m w g s).mono fun e w' r => by
    cases e with
    | returned v => obtain ⟨h', a, b, c⟩ := r; exact ⟨h', a, b, a.bdd, c⟩
    | panicked v => exact r
    | outgrown => trivial
theorem Bdd.un {L h : H} (a : Bdd L) (b : Bdd h) : Bdd (un L h) := by
  obtain ⟨N, hN⟩ := a
  obtain ⟨M, hM⟩ := b
  exact ⟨max N M, fun c hc => un_none.2 ⟨hN c (by omega), hM c (by omega)⟩⟩
theorem Bdd.left {L h : H} (a : Bdd (K.un L h)) : Bdd L := by
  obtain ⟨N, hN⟩ := a; exact ⟨N, fun c hc => (un_none.1 (hN c hc)).1⟩
theorem aOp_inv {o : Oper} {ρ : Env} {L h : H} {T : Post} {C : PPost} (bd : Bdd (un L h)) (ap : Apart L h) (x : aOp P o ρ L h (fun ρ L h => Bdd (un L h) → Apart L h → T ρ L h) C) : aOp P o ρ L h T C := by
  have conv : ∀ nx hf fl, Bdd hf → upon P o ρ L h (fun ρ L h => Bdd (K.un L h) → Apart L h → T ρ L h) C nx hf fl → upon P o ρ L h T C nx hf fl := fun nx hf fl b u => by
    refine u.imp id fun ⟨L', h', e, ap', ag, m⟩ => ⟨L', h', e, ap', ag, ?_⟩
    subst e
    cases nx <;> first
      | exact m b (ap' ap)
      | exact m
      | exact m.bdd.mono (fun v h'' k a => k.2 a (b.left.un k.1) a) (fun _ _ k => k)
  intro ap0
  replace x := x ap0
  cases hq : quietOp P o.op
  · rw [hq] at x; exact awp_mono (fun _ _ _ k => conv _ _ _ k.1 k.2) (fun _ _ k => k) _ _ _ (awp_bdd _ _ _ bd x)
  · rw [hq] at x; exact qwp_mono (fun _ _ k => ⟨k.2.2.1, conv _ _ _ k.2.1 k.2.2.2⟩) (fun _ _ k => k) _ _ (qwp_keeps _ _ bd x)
section takes
variable {next : Post} {fuel : Nat} {oi : Oper} {listed : Array Bool} {ρ : Env} {L h : H}
theorem at_list {i : Nat} (hi : ops.toList[i]? = some oi) : ops[i]? = some oi := by rw [← Array.getElem?_toList]; exact hi
theorem noSel (h : Region.noSelect ops = true) {j : Nat} {o : Oper} (ho : ops[j]? = some o) : ∀ cs b, o.op ≠ .select cs b := fun cs b => Region.noSelect_spec h j o cs b ho
theorem tq (i : Nat) (hi' : ops.toList[i]? = some oi) (hs : Region.noSelect ops = true) (hf : free P ops listed i 2 = true) (few : fewB listed (fuel + 1) = true) (hw : Region.wanted oi (yld ops ρ) = true)
    (x : aOp P oi ρ L h (bAny P ops next noP fuel (listed.setIfInBounds i true)) noP) : bAny P ops next noP (fuel + 1) listed ρ L h := fun bd ap => by
  have hi := at_list hi'
  obtain ⟨hcl, hr, hq, hsw⟩ := free_spec hi hf
  refine any_take (fun T => aOpI P ops noP i T) (fun _ L h => Bdd (un L h) ∧ Apart L h) (fun T ρ L h _ k => k) (fun T T' hT ρ L h k => aOpI_mono hT k) fuel listed
    (fun j oj hj hp T ρ L h g k => ?_) (few_of few) hcl hr ρ L h ⟨bd, ap⟩ ?_
  · obtain ⟨hap, _, q2⟩ := hsw j oj hj hp
    exact swap_quiet hi hj hap (noSel hs hi) (noSel hs hj) (hq rfl) (q2 rfl) T ρ L h g k
  · unfold aOpI
    simp only [hi]
    rw [if_pos hw]
    exact aOp_inv bd ap x
theorem ty {C : PPost} (i : Nat) (v : Value) (hi' : ops.toList[i]? = some oi) (hs : Region.noSelect ops = true) (hf : free P ops listed i 0 = true) (few : fewB listed (fuel + 1) = true) (hw : Region.wanted oi (yld ops ρ) = true)
    (hy : ∀ (L' h' : H) (next : Post), next (put ρ oi.dst v) L' h' → aOp P oi ρ L' h' next C)
    (x : bAny P ops next C fuel (listed.setIfInBounds i true) (put ρ oi.dst v) L h) : bAny P ops next C (fuel + 1) listed ρ L h := fun bd ap => by
  have hi := at_list hi'
  obtain ⟨hcl, hr, hq, hsw⟩ := free_spec hi hf
  refine any_take (fun T ρ L h => T (put ρ oi.dst v) L h) (fun ρ L _ => YieldsL P ops C oi v false ρ L) (fun T ρ L h g k => ?_) (fun T T' hT ρ L h k => hT _ _ _ k) fuel listed
    (fun j oj hj hp T ρ L h g k => ?_) (few_of few) hcl hr ρ L h (.inl ⟨hw, fun L' h' next _ k => hy L' h' next k⟩) (x bd ap)
  · unfold aOpI
    simp only [hi]
    rcases g with ⟨hw, hy⟩ | ⟨hw, rfl⟩
    · rw [if_pos hw]; exact hy L h T (fun e => by cases e) k
    · rw [if_neg (by rw [hw]; exact Bool.false_ne_true)]; exact k
  · obtain ⟨hap, _, _⟩ := hsw j oj hj hp
    exact swap_yields hj hap (noSel hs hi) (noSel hs hj) (fun e => by cases e) T ρ L h g k
theorem tn {C : PPost} (i : Nat) (hi' : ops.toList[i]? = some oi) (hs : Region.noSelect ops = true) (hf : free P ops listed i 0 = true) (few : fewB listed (fuel + 1) = true) (hw : Region.wanted oi (yld ops ρ) = false)
    (x : bAny P ops next C fuel (listed.setIfInBounds i true) (put ρ oi.dst undef) L h) : bAny P ops next C (fuel + 1) listed ρ L h := fun bd ap => by
  have hi := at_list hi'
  obtain ⟨hcl, hr, hq, hsw⟩ := free_spec hi hf
  refine any_take (fun T ρ L h => T (put ρ oi.dst undef) L h) (fun ρ L _ => YieldsL P ops C oi undef false ρ L) (fun T ρ L h g k => ?_) (fun T T' hT ρ L h k => hT _ _ _ k) fuel listed
    (fun j oj hj hp T ρ L h g k => ?_) (few_of few) hcl hr ρ L h (.inr ⟨hw, rfl⟩) (x bd ap)
  · unfold aOpI
    simp only [hi]
    rcases g with ⟨hw, hy⟩ | ⟨hw, -⟩
    · rw [if_pos hw]; exact hy L h T (fun e => by cases e) k
    · rw [if_neg (by rw [hw]; exact Bool.false_ne_true)]; exact k
  · obtain ⟨hap, _, _⟩ := hsw j oj hj hp
    exact swap_yields hj hap (noSel hs hi) (noSel hs hj) (fun e => by cases e) T ρ L h g k
theorem tr {C : PPost} (i : Nat) (v : Value) (hi' : ops.toList[i]? = some oi) (hs : Region.noSelect ops = true) (hf : free P ops listed i 1 = true) (few : fewB listed (fuel + 1) = true) (hw : Region.wanted oi (yld ops ρ) = true)
    (hy : ∀ (L' h' : H) (next : Post), Grows L L' → next (put ρ oi.dst v) L' h' → aOp P oi ρ L' h' next C)
    (x : bAny P ops next C fuel (listed.setIfInBounds i true) (put ρ oi.dst v) L h) : bAny P ops next C (fuel + 1) listed ρ L h := fun bd ap => by
  have hi := at_list hi'
  obtain ⟨hcl, hr, hq, hsw⟩ := free_spec hi hf
  refine any_take (fun T ρ L h => T (put ρ oi.dst v) L h) (fun ρ L _ => YieldsL P ops C oi v true ρ L) (fun T ρ L h g k => ?_) (fun T T' hT ρ L h k => hT _ _ _ k) fuel listed
    (fun j oj hj hp T ρ L h g k => ?_) (few_of few) hcl hr ρ L h (.inl ⟨hw, fun L' h' next g k => hy L' h' next (g rfl) k⟩) (x bd ap)
  · unfold aOpI
    simp only [hi]
    rcases g with ⟨hw, hy⟩ | ⟨hw, rfl⟩
    · rw [if_pos hw]; exact hy L h T (fun _ => .refl L) k
    · rw [if_neg (by rw [hw]; exact Bool.false_ne_true)]; exact k
  · obtain ⟨hap, hm, _⟩ := hsw j oj hj hp
    exact swap_yields hj hap (noSel hs hi) (noSel hs hj) (fun _ => hm rfl) T ρ L h g k
theorem t1 {C : PPost} (i : Nat) (hi' : ops.toList[i]? = some oi) (hr : Region.ready .any ops listed = [i]) (hw : Region.wanted oi (yld ops ρ) = true)
    (x : aOp P oi ρ L h (bAny P ops next C fuel (listed.setIfInBounds i true)) C) : bAny P ops next C (fuel + 1) listed ρ L h := fun bd ap => by
  have hi := at_list hi'
  refine ⟨fun h0 => (by rw [hr] at h0; cases h0), ?_⟩
  rw [hr]
  intro j hj
  obtain rfl := List.mem_singleton.1 hj
  unfold aOpI
  simp only [hi]
  rw [if_pos hw]
  exact aOp_inv bd ap x
theorem td {C : PPost} (hr : Region.ready .any ops listed = []) (x : next ρ L h) : bAny P ops next C fuel listed ρ L h := fun _ _ => by
  cases fuel with
  | zero => exact ⟨hr, x⟩
  | succ k => exact ⟨fun _ => x, by rw [hr]; simp⟩
theorem sg {C : PPost} {i : Nat} {rest : List Nat} (hi' : ops.toList[i]? = some oi) (hw : Region.wanted oi (yld ops ρ) = true) (x : aOp P oi ρ L h (aOps P ops next C rest) C) : aOps P ops next C (i :: rest) ρ L h := by
  have hi := at_list hi'
  show aOpI P ops C i (aOps P ops next C rest) ρ L h
  unfold aOpI; simp only [hi]; rw [if_pos hw]; exact x
theorem sn {C : PPost} {i : Nat} {rest : List Nat} (hi' : ops.toList[i]? = some oi) (hw : Region.wanted oi (yld ops ρ) = false) (x : aOps P ops next C rest (put ρ oi.dst undef) L h) : aOps P ops next C (i :: rest) ρ L h := by
  have hi := at_list hi'
  show aOpI P ops C i (aOps P ops next C rest) ρ L h
  unfold aOpI; simp only [hi]; rw [if_neg (by rw [hw]; exact Bool.false_ne_true)]; exact x
end takes
end
section agree
variable {P : Program} {n : Nat} {C : PPost}
def memB (D : List Nat) (t : Nat) : Bool := D.any fun d => Nat.beq t d
def Agree (D : Nat → Bool) (ρ ρ' : Env) : Prop := ∀ t, D t = false → ρ' t = ρ t
theorem Agree.refl (D : Nat → Bool) (ρ : Env) : Agree D ρ ρ := fun _ _ => rfl
theorem Agree.trans {D : Nat → Bool} {a b c : Env} (x : Agree D a b) (y : Agree D b c) : Agree D a c := fun t h => (y t h).trans (x t h)
def dstIn (D : Nat → Bool) (o : Oper) : Bool := match o.dst with | some d => D d | none => true
theorem agree_put {D : Nat → Bool} {o : Oper} (hd : dstIn D o = true) (ρ : Env) (v : Value) : Agree D ρ (put ρ o.dst v) := fun t ht => by
  unfold dstIn at hd
  cases ho : o.dst with
  | none => rfl
  | some d =>
    simp only [ho] at hd
    have b : Nat.beq t d = false := by
      rw [← Bool.not_eq_true, Nat.beq_eq]; exact fun e => by subst e; rw [hd] at ht; cases ht
    simp only [put, b, cond_false]
theorem aOp_agree {D : Nat → Bool} {o : Oper} (hd : dstIn D o = true) {ρ : Env} {L h : H} {next : Post} (x : aOp P o ρ L h next C) :
    aOp P o ρ L h (fun ρ' L' h' => Agree D ρ ρ' ∧ next ρ' L' h') C :=
  aOp_env rfl (fun nx hf fl u => u.imp id fun ⟨L', h', e, ap, ag, m⟩ => ⟨L', h', e, ap, ag, by
    cases nx <;> first
      | exact ⟨agree_put hd _ _, m⟩
      | exact m
      | exact m.mono (fun v h'' k a => ⟨agree_put hd _ _, k a⟩) (fun _ _ k => k)⟩) x
theorem aOpI_agree {D : Nat → Bool} {ops : Array Oper} (hd : ops.toList.all (dstIn D) = true) {i : Nat} {ρ : Env} {L h : H} {next : Post} (x : aOpI P ops C i next ρ L h) :
    aOpI P ops C i (fun ρ' L' h' => Agree D ρ ρ' ∧ next ρ' L' h') ρ L h := by
  unfold aOpI at *
  cases ho : ops[i]? with
  | none => simp only [ho] at x ⊢; exact ⟨.refl _ _, x⟩
  | some o =>
    simp only [ho] at x ⊢
    have hdo : dstIn D o = true := List.all_eq_true.1 hd o (Array.mem_toList_iff.2 (Array.mem_of_getElem? ho))
    split
    · rename_i hw; rw [if_pos hw] at x; exact aOp_agree hdo x
    · rename_i hw; rw [if_neg hw] at x; exact ⟨agree_put hdo _ _, x⟩
theorem aOps_agree {D : Nat → Bool} {ops : Array Oper} (hd : ops.toList.all (dstIn D) = true) {next : Post} : ∀ (l : List Nat) (ρ : Env) (L h : H), aOps P ops next C l ρ L h →
    aOps P ops (fun ρ' L' h' => Agree D ρ ρ' ∧ next ρ' L' h') C l ρ L h := by
  intro l
  induction l with
  | nil => exact fun ρ L h x => ⟨.refl _ _, x⟩
  | cons i rest ih =>
    intro ρ L h x
    refine aOpI_mono (fun ρ' L' h' k => ?_) (aOpI_agree hd (i := i) x)
    have := ih ρ' L' h' k.2
    have mono : ∀ (l : List Nat) (T T' : Post), (∀ ρ L h, T ρ L h → T' ρ L h) → ∀ ρ L h, aOps P ops T C l ρ L h → aOps P ops T' C l ρ L h := by
      intro l
      induction l with
      | nil => exact fun T T' hT ρ L h x => hT _ _ _ x
      | cons i r ih => exact fun T T' hT ρ L h x => aOpI_mono (fun ρ L h k => ih T T' hT ρ L h k) x
    exact mono rest _ _ (fun ρ'' L'' h'' k' => ⟨k.1.trans k'.1, k'.2⟩) _ _ _ this
theorem aAny_mono {ops : Array Oper} {T T' : Post} (hT : ∀ ρ L h, T ρ L h → T' ρ L h) : ∀ (fuel : Nat) (listed : Array Bool) (ρ : Env) (L h : H), aAny P ops T C fuel listed ρ L h → aAny P ops T' C fuel listed ρ L h := by
  intro fuel
  induction fuel with
  | zero => exact fun l ρ L h x => ⟨x.1, hT _ _ _ x.2⟩
  | succ f ih => exact fun l ρ L h x => ⟨fun e => hT _ _ _ (x.1 e), fun i hi => aOpI_mono (fun ρ L h k => ih _ ρ L h k) (x.2 i hi)⟩
theorem aAny_agree {D : Nat → Bool} {ops : Array Oper} (hd : ops.toList.all (dstIn D) = true) {next : Post} : ∀ (fuel : Nat) (listed : Array Bool) (ρ : Env) (L h : H), aAny P ops next C fuel listed ρ L h →
    aAny P ops (fun ρ' L' h' => Agree D ρ ρ' ∧ next ρ' L' h') C fuel listed ρ L h := by
  intro fuel
  induction fuel with
  | zero => exact fun l ρ L h x => ⟨x.1, .refl _ _, x.2⟩
  | succ f ih =>
    exact fun l ρ L h x => ⟨fun e => ⟨.refl _ _, x.1 e⟩, fun i hi => aOpI_mono (fun ρ' L' h' k => aAny_mono (fun ρ'' L'' h'' k' => ⟨k.1.trans k'.1, k'.2⟩) _ _ _ _ _ (ih _ ρ' L' h' k.2)) (aOpI_agree hd (x.2 i hi))⟩
def dstsIn (D : Nat → Bool) : Code → Bool
  | .region _ ops _ => ops.toList.all (dstIn D)
  | .seq x y => dstsIn D x && dstsIn D y
  | .cond _ x y => dstsIn D x && dstsIn D y
  | .block _ x => dstsIn D x
  | .loop x => dstsIn D x
  | .scope x => dstsIn D x
  | _ => true
theorem iter_mono {T : (Exit → Post) → Post} (hT : ∀ (Q Q' : Exit → Post), (∀ e ρ L h, Q e ρ L h → Q' e ρ L h) → ∀ ρ L h, T Q ρ L h → T Q' ρ L h) {Q Q' : Exit → Post} (hQ : ∀ e ρ L h, Q e ρ L h → Q' e ρ L h) :
    ∀ (N : Nat) (ρ : Env) (L h : H), iter T Q N ρ L h → iter T Q' N ρ L h := by
  intro N
  induction N with
  | zero => exact fun ρ L h x => x
  | succ N ih => exact fun ρ L h x => hT _ _ (thenQ_mono (fun ρ L h k => drop_mono ih k) hQ) ρ L h x
theorem iterG_mono {l : Nat} {T : (Exit → Post) → Post} (hT : ∀ (Q Q' : Exit → Post), (∀ e ρ L h, Q e ρ L h → Q' e ρ L h) → ∀ ρ L h, T Q ρ L h → T Q' ρ L h) {Q Q' : Exit → Post} (hQ : ∀ e ρ L h, Q e ρ L h → Q' e ρ L h) :
    ∀ (N : Nat) (ρ : Env) (L h : H), iterG l T Q N ρ L h → iterG l T Q' N ρ L h := by
  intro N
  induction N with
  | zero => exact fun ρ L h x => x
  | succ N ih => exact fun ρ L h x => hT _ _ (gotoQ_mono (fun ρ L h k => drop_mono ih k) hQ) ρ L h x
theorem aOps_mono {ops : Array Oper} : ∀ (l : List Nat) (T T' : Post), (∀ ρ L h, T ρ L h → T' ρ L h) → ∀ ρ L h, aOps P ops T C l ρ L h → aOps P ops T' C l ρ L h := by
  intro l
  induction l with
  | nil => exact fun T T' hT ρ L h x => hT _ _ _ x
  | cons i r ih => exact fun T T' hT ρ L h x => aOpI_mono (fun ρ L h k => ih T T' hT ρ L h k) x
theorem inQ_mono {id : Nat} {Q Q' : Exit → Post} (hQ : ∀ e ρ L h, Q e ρ L h → Q' e ρ L h) : ∀ e ρ L h, inQ id Q e ρ L h → inQ id Q' e ρ L h := by
  intro e ρ L h x
  cases e with
  | exit i =>
    simp only [inQ] at x ⊢
    cases hb : Nat.beq i id <;> rw [hb] at x
    · exact hQ _ _ _ _ x
    · exact hQ _ _ _ _ x
  | _ => exact hQ _ _ _ _ x
theorem noG_mono {Q Q' : Exit → Post} (hQ : ∀ e ρ L h, Q e ρ L h → Q' e ρ L h) : ∀ e ρ L h, noG Q e ρ L h → noG Q' e ρ L h := by
  intro e ρ L h x
  cases e with
  | goto l => exact x
  | _ => exact hQ _ _ _ _ x
theorem jumpQ_mono {Q Q' : Exit → Post} (hQ : ∀ e ρ L h, Q e ρ L h → Q' e ρ L h) : ∀ j ρ L h, jumpQ Q j ρ L h → jumpQ Q' j ρ L h
  | 0, _, _, _, x => hQ _ _ _ _ x
  | 1, _, _, _, x => hQ _ _ _ _ x
  | _ + 2, _, _, _, x => hQ _ _ _ _ x
theorem cwp_mono : ∀ (c : Code) (top : Bool) (Q Q' : Exit → Post), (∀ e ρ L h, Q e ρ L h → Q' e ρ L h) → ∀ ρ L h, cwp P n C c top Q ρ L h → cwp P n C c top Q' ρ L h := by
  intro c
  induction c using codeInd with
  | skip => exact fun _ Q Q' hQ ρ L h x => hQ _ _ _ _ x
  | region id ops draw =>
    intro _ Q Q' hQ ρ L h x
    cases draw with
    | false => exact ⟨x.1, aOps_mono _ _ _ (fun ρ L h k => hQ _ _ _ _ k) _ _ _ x.2⟩
    | true => exact ⟨x.1, x.2.1, fun bd ap => aAny_mono (fun ρ L h k => hQ _ _ _ _ k) _ _ _ _ _ (x.2.2 bd ap)⟩
  | seq x y ihx ihy => exact fun t Q Q' hQ ρ L h k => ihx t _ _ (thenQ_mono (fun ρ L h k => drop_mono (fun ρ L h k => ihy t Q Q' hQ ρ L h k) k) hQ) ρ L h k
  | cond c x y ihx ihy => exact fun tp Q Q' hQ ρ L h ⟨t, hc, ht, hf⟩ => ⟨t, hc, fun e => ihx tp Q Q' hQ ρ L h (ht e), fun e => ihy tp Q Q' hQ ρ L h (hf e)⟩
  | block id x ih => exact fun t Q Q' hQ ρ L h k => ih t _ _ (inQ_mono hQ) ρ L h k
  | loop x ih => exact fun t Q Q' hQ ρ L h ⟨N, k⟩ => ⟨N, iter_mono (fun Q Q' hQ ρ L h k => ih t Q Q' hQ ρ L h k) hQ N ρ L h k⟩
  | scope x ih ihs =>
    intro t Q Q' hQ ρ L h k
    simp only [cwp] at k ⊢
    rcases k with k | k
    · exact .inl (ih t _ _ (noG_mono hQ) ρ L h k)
    · refine .inr ?_
      split at k
      · rename_i pre l b
        obtain ⟨ih1, ih2⟩ := ihs pre l b rfl
        exact ⟨k.1, ih1 t _ _ (thenQ_mono (fun ρ L h k => drop_mono (fun ρ L h ⟨N, k⟩ => ⟨N, iterG_mono (fun Q Q' hQ ρ L h k => ih2 t Q Q' hQ ρ L h k) hQ N ρ L h k⟩) k) (noG_mono hQ)) ρ L h k.2⟩
      · exact k.elim
  | goto l => exact fun _ Q Q' hQ ρ L h x => hQ _ _ _ _ x
  | exit id => exact fun _ Q Q' hQ ρ L h x => hQ _ _ _ _ x
  | ret => exact fun _ Q Q' hQ ρ L h x => hQ _ _ _ _ x
  | label l => exact fun _ Q Q' hQ ρ L h x => hQ _ _ _ _ x
  | rangeFunc g ps as_ bd iha ihb =>
    intro t Q Q' hQ ρ L h ⟨tp, hC, hps, f, fn, first, cap, hg, cal, x⟩
    exact ⟨tp, hC, hps, f, fn, first, cap, hg, cal, fun l ob bz hl yl => (x l ob bz hl yl).mono (fun v h'' ⟨j, hj, k⟩ => ⟨j, hj, fun o => jumpQ_mono hQ _ _ _ _ (k o)⟩) fun _ _ k => k⟩
  | _ => exact fun _ Q Q' hQ ρ L h x => x
theorem cwp_agree {D : Nat → Bool} : ∀ (c : Code) (t : Bool), dstsIn D c = true → ∀ (Q : Exit → Post) ρ L h, cwp P n C c t Q ρ L h → cwp P n C c t (fun e ρ' L' h' => Agree D ρ ρ' ∧ Q e ρ' L' h') ρ L h := by
  intro c
  induction c using codeInd with
  | skip => exact fun _ _ Q ρ L h x => ⟨.refl _ _, x⟩
  | region id ops draw =>
    intro t hd Q ρ L h x
    cases draw with
    | false => exact ⟨x.1, aOps_agree hd _ _ _ _ x.2⟩
    | true => exact ⟨x.1, x.2.1, fun bd ap => aAny_agree hd _ _ _ _ _ (x.2.2 bd ap)⟩
  | seq x y ihx ihy =>
    intro t hd Q ρ L h k
    simp only [dstsIn, Bool.and_eq_true] at hd
    refine cwp_mono x t _ _ (fun e ρ' L' h' k => ?_) ρ L h (ihx t hd.1 _ ρ L h k)
    cases e with
    | normal =>
      obtain ⟨ag, L0, gr, q⟩ := k
      exact ⟨L0, gr, cwp_mono y t (fun e ρ3 L3 h3 => Agree D ρ' ρ3 ∧ Q e ρ3 L3 h3) _ (fun e ρ3 L3 h3 q => ⟨ag.trans q.1, q.2⟩) _ _ _ (ihy t hd.2 Q ρ' L0 h' q)⟩
    | _ => exact k
  | cond c x y ihx ihy =>
    intro tp hd Q ρ L h k
    simp only [dstsIn, Bool.and_eq_true] at hd
    obtain ⟨t, hc, ht, hf⟩ := k
    exact ⟨t, hc, fun e => ihx tp hd.1 Q ρ L h (ht e), fun e => ihy tp hd.2 Q ρ L h (hf e)⟩
  | block id x ih =>
    intro t hd Q ρ L h k
    refine cwp_mono x t _ _ (fun e ρ' L' h' k => ?_) ρ L h (ih t hd _ ρ L h k)
    cases e with
    | exit i =>
      simp only [inQ] at k ⊢
      cases hb : Nat.beq i id <;> rw [hb] at k <;> exact k
    | _ => exact k
  | loop x ih =>
    intro t hd Q ρ L h k
    obtain ⟨N, k⟩ := k
    refine ⟨N, ?_⟩
    have key : ∀ (N : Nat) (ρ0 ρ : Env) (L h : H), Agree D ρ0 ρ → iter (fun Q => cwp P n C x t Q) Q N ρ L h → iter (fun Q => cwp P n C x t Q) (fun e ρ' L' h' => Agree D ρ0 ρ' ∧ Q e ρ' L' h') N ρ L h := by
      intro N
      induction N with
      | zero => exact fun ρ0 ρ L h _ k => k
      | succ N ihN =>
        intro ρ0 ρ L h ag k
        refine cwp_mono x t _ _ (fun e ρ' L' h' k => ?_) ρ L h (ih t hd _ ρ L h k)
        cases e with
        | normal =>
          obtain ⟨ag', L0, gr, q⟩ := k
          exact ⟨L0, gr, ihN ρ0 ρ' L0 h' (ag.trans ag') q⟩
        | _ => exact ⟨ag.trans k.1, k.2⟩
    exact key N ρ ρ L h (.refl _ _) k
  | scope x ih ihs =>
    intro t hd Q ρ L h k
    simp only [cwp] at k ⊢
    rcases k with k | k
    · refine .inl (cwp_mono x t _ _ (fun e ρ' L' h' k => ?_) ρ L h (ih t hd _ ρ L h k))
      cases e with
      | goto l => exact k.2
      | _ => exact k
    · refine .inr ?_
      split at k
      · rename_i pre l b
        obtain ⟨ih1, ih2⟩ := ihs pre l b rfl
        simp only [dstsIn, Bool.and_eq_true] at hd
        obtain ⟨hd1, _, hd2⟩ := hd
        refine ⟨k.1, cwp_mono pre t _ _ (fun e ρ' L' h' q => ?_) ρ L h (ih1 t hd1 _ ρ L h k.2)⟩
        cases e with
        | normal =>
          obtain ⟨ag, L0, gr, N, q⟩ := q
          refine ⟨L0, gr, N, ?_⟩
          have key : ∀ (N : Nat) (ρ0 ρ : Env) (L h : H), Agree D ρ0 ρ → iterG l (fun Q => cwp P n C b t Q) Q N ρ L h → iterG l (fun Q => cwp P n C b t Q) (fun e ρ' L' h' => Agree D ρ0 ρ' ∧ Q e ρ' L' h') N ρ L h := by
            intro N
            induction N with
            | zero => exact fun ρ0 ρ L h _ k => k
            | succ N ihN =>
              intro ρ0 ρ L h ag k
              refine cwp_mono b t _ _ (fun e ρ' L' h' k => ?_) ρ L h (ih2 t hd2 _ ρ L h k)
              cases e with
              | goto l' =>
                obtain ⟨ag', e', L0, gr, q⟩ := k
                exact ⟨e', L0, gr, ihN ρ0 ρ' L0 h' (ag.trans ag') q⟩
              | _ => exact ⟨ag.trans k.1, k.2⟩
          exact key N ρ ρ' L0 h' ag q
        | goto l' => exact q.2
        | _ => exact q
      · exact k.elim
  | goto l => exact fun _ _ Q ρ L h x => ⟨.refl _ _, x⟩
  | exit id => exact fun _ _ Q ρ L h x => ⟨.refl _ _, x⟩
  | ret => exact fun _ _ Q ρ L h x => ⟨.refl _ _, x⟩
  | label l => exact fun _ _ Q ρ L h x => ⟨.refl _ _, x⟩
  | rangeFunc g ps as_ bd iha ihb =>
    intro t hd Q ρ L h ⟨tp, hC, hps, f, fn, first, cap, hg, cal, x⟩
    refine ⟨tp, hC, hps, f, fn, first, cap, hg, cal, fun l ob bz hl yl => (x l ob bz hl yl).mono (fun v h'' ⟨j, hj, k⟩ => ⟨j, hj, fun o => ?_⟩) fun _ _ k => k⟩
    have := k o
    match j, this with
    | 0, this => exact ⟨.refl _ _, this⟩
    | 1, this => exact ⟨.refl _ _, this⟩
    | _ + 2, this => exact ⟨.refl _ _, this⟩
  | _ => exact fun _ _ Q ρ L h x => x
end agree
def loopF {σ : Type} (F : (σ → H → Prop) → σ → H → Prop) : Nat → σ → H → Prop
  | 0 => fun _ _ => False
  | N + 1 => F (loopF F N)
def mLoop {σ : Type} (F : (σ → H → Prop) → σ → H → Prop) (s : σ) : H → Prop := fun h => ∃ N, loopF F N s h
def mJoin {σ : Type} (rest : σ → H → Prop) (body : (σ → H → Prop) → H → Prop) : H → Prop := body rest
def mBoth (A B : H → Prop) : H → Prop := fun h => A h ∧ B h
def iAdd (k : IntKind) (a b : Int) : Int := k.wrap (a + b)
def iSub (k : IntKind) (a b : Int) : Int := k.wrap (a - b)
def iMul (k : IntKind) (a b : Int) : Int := k.wrap (a * b)
def iAnd (k : IntKind) (a b : Int) : Int := k.wrap (BitVec.ofInt k.bits a &&& BitVec.ofInt k.bits b).toNat
def iOr (k : IntKind) (a b : Int) : Int := k.wrap (BitVec.ofInt k.bits a ||| BitVec.ofInt k.bits b).toNat
def iXor (k : IntKind) (a b : Int) : Int := k.wrap (BitVec.ofInt k.bits a ^^^ BitVec.ofInt k.bits b).toNat
def iAndNot (k : IntKind) (a b : Int) : Int := k.wrap (BitVec.ofInt k.bits a &&& ~~~BitVec.ofInt k.bits b).toNat
def iNot (k : IntKind) (a : Int) : Int := k.wrap (BitVec.ofInt k.bits (if k.signed then -1 else k.max) ^^^ BitVec.ofInt k.bits a).toNat
def iShl (k : IntKind) (a b : Int) : Int := k.wrap (a * 2 ^ (min b.toNat k.bits))
def iShr (k : IntKind) (a b : Int) : Int := a.fdiv (2 ^ (min b.toNat k.bits))
def iQuo (k : IntKind) (a b : Int) : Int := k.wrap (a.tdiv b)
def iRem (_k : IntKind) (a b : Int) : Int := a.tmod b
def iMin (a b : Int) : Int := if b < a then b else a
def iMax (a b : Int) : Int := if b > a then b else a
section pure
variable {P : Program}
def QV {α : Type} (P : Program) (s : Sem α) (v : α) : Prop := ∀ (h : H) (K : α → H → Prop) (E : Value → H → Prop), K v h → qwp P s h K E
theorem QV.pure {α : Type} (v : α) : QV P (pure v : Sem α) v := fun _ _ _ k => k
theorem QV.bind {α β : Type} {s : Sem α} {f : α → Sem β} {a : α} {b : β} (x : QV P s a) (y : QV P (f a) b) : QV P (s >>= f) b := fun h _ _ k => (qwp_bind s f h).2 (x h _ _ (y h _ _ k))
theorem QV.program : QV P program P := fun _ _ _ k => k
theorem QV.underlying {t : TypeId} {d : TypeDesc} (e : P.underlying t = some d) : QV P (underlying t) d := QV.bind QV.program (by rw [e]; exact QV.pure d)
theorem QV.typeInfo {t : TypeId} {i : TypeInfo} (e : P.info? t = some i) : QV P (typeInfo t) i := QV.bind QV.program (by rw [e]; exact QV.pure i)
theorem QV.sizeOf {t : TypeId} {i : TypeInfo} (e : P.info? t = some i) : QV P (sizeOf t) i.size := QV.bind (QV.typeInfo e) (QV.pure _)
theorem QV.zero {t : TypeId} {i : TypeInfo} {z : Value} (e : P.info? t = some i) (hz : i.zero = some z) : QV P (zeroValue t) z := QV.bind (QV.typeInfo e) (by rw [hz]; exact QV.pure z)
def aggB : TypeDesc → Bool
  | .struct _ | .array _ _ => true
  | _ => false
theorem QV.isAgg {t : TypeId} {d : TypeDesc} (e : P.underlying t = some d) : QV P (isAgg t) (aggB d) := QV.bind (QV.underlying e) (by cases d <;> exact QV.pure _)
def YE (P : Program) (o : Oper) (ρ : Env) (v : Value) : Prop := ∀ (L' h' : H) (next : Post) (C : PPost), next (put ρ o.dst v) L' h' → aOp P o ρ L' h' next C
def YR (P : Program) (o : Oper) (ρ : Env) (L : H) (v : Value) : Prop := ∀ (L' h' : H) (next : Post) (C : PPost), Grows L L' → next (put ρ o.dst v) L' h' → aOp P o ρ L' h' next C
theorem YE.of {o : Oper} {ρ : Env} {v : Value} (hq : quietOp P o.op = true) (x : QV P (execOp (ev ρ) o) (.value v)) : YE P o ρ v := fun L' h' next C k => by
  rw [aOp_quiet hq]
  exact fun _ => x _ _ _ ⟨trivial, L', h', rfl, id, .refl _ _, k⟩
theorem YE.val {o : Oper} {ρ : Env} {v : Value} {s : Sem Value} (hq : quietOp P o.op = true) (he : execOp (ev ρ) o = (do pure (.value (← s)) : Sem Next)) (x : QV P s v) : YE P o ρ v :=
  YE.of hq (by rw [he]; exact QV.bind x (QV.pure _))
variable {ρ : Env} {d : Option Tmp} {ty : TypeId} {ps : String} {af : Array Edge} {gd : Option (Nat × Bool)}
theorem y_move {x : Operand} {v : Value} (hx : ev ρ x = v) : YE P ⟨d, .move x, ty, ps, af, gd⟩ ρ v := by subst hx; exact YE.of rfl (QV.pure _)
theorem y_assign {x : Operand} {v : Value} (hx : ev ρ x = v) : YE P ⟨d, .assign x, ty, ps, af, gd⟩ ρ v := by subst hx; exact YE.of rfl (QV.pure _)
theorem y_pick {c x y : Operand} {b : Bool} (hc : ev ρ c = .bool b) : YE P ⟨d, .pick c x y, ty, ps, af, gd⟩ ρ (bif b then ev ρ x else ev ρ y) := by
  refine YE.of rfl ?_
  show QV P (do pure (Next.value (if ← asBool (ev ρ c) then ev ρ x else ev ρ y))) _
  rw [hc]
  refine QV.bind (a := b) (QV.pure b) ?_
  cases b <;> exact QV.pure _
theorem y_pickT {c x y : Operand} {b : Bool} (hc : ev ρ c = .bool b) (e : b = true) {v : Value} (hx : ev ρ x = v) : YE P ⟨d, .pick c x y, ty, ps, af, gd⟩ ρ v := by subst e; subst hx; exact y_pick hc
theorem y_pickF {c x y : Operand} {b : Bool} (hc : ev ρ c = .bool b) (e : b = false) {v : Value} (hx : ev ρ y = v) : YE P ⟨d, .pick c x y, ty, ps, af, gd⟩ ρ v := by subst e; subst hx; exact y_pick hc
theorem y_nil {x : Operand} {a : Addr} (hx : ev ρ x = .pointer (some a)) : YE P ⟨d, .nilCheck x, ty, ps, af, gd⟩ ρ (.pointer (some a)) := by
  refine YE.of rfl ?_
  simp only [execOp, hx]
  exact QV.pure _
theorem y_nilP {x : Operand} {p : Option Addr} {a : Addr} (hx : ev ρ x = .pointer p) (hp : p = some a) : YE P ⟨d, .nilCheck x, ty, ps, af, gd⟩ ρ (.pointer (some a)) := y_nil (hx.trans (by rw [hp]))
theorem y_not {x : Operand} {t : TypeId} {b : Bool} (hx : ev ρ x = .bool b) : YE P ⟨d, .unOp .not t x, ty, ps, af, gd⟩ ρ (.bool !b) := by
  refine YE.val rfl rfl ?_
  show QV P (Op.unary .not (ev ρ x)) _
  rw [hx]; exact QV.pure _
theorem y_neg {x : Operand} {t : TypeId} {k : IntKind} {a : Int} (hx : ev ρ x = .int k a) : YE P ⟨d, .unOp .neg t x, ty, ps, af, gd⟩ ρ (.int k (iSub k 0 a)) := by
  refine YE.val rfl rfl ?_
  show QV P (Op.unary .neg (ev ρ x)) _
  rw [hx]; exact QV.pure _
theorem y_xor1 {x : Operand} {t : TypeId} {k : IntKind} {a : Int} (hx : ev ρ x = .int k a) :
    YE P ⟨d, .unOp .xor t x, ty, ps, af, gd⟩ ρ (.int k (iNot k a)) := by
  refine YE.val rfl rfl ?_
  show QV P (Op.unary .xor (ev ρ x)) _
  rw [hx]; exact QV.pure _
def binI (op : BinOp) (k : IntKind) (a b : Int) : Option Value :=
  match op with
  | .add => some (.int k (iAdd k a b))
  | .sub => some (.int k (iSub k a b))
  | .mul => some (.int k (iMul k a b))
  | .and => some (.int k (iAnd k a b))
  | .or => some (.int k (iOr k a b))
  | .xor => some (.int k (iXor k a b))
  | .andNot => some (.int k (iAndNot k a b))
  | .eql => some (.bool (decide (a = b)))
  | .neq => some (.bool (!decide (a = b)))
  | .lss => some (.bool (decide (a < b)))
  | .leq => some (.bool (decide (a ≤ b)))
  | .gtr => some (.bool (decide (b < a)))
  | .geq => some (.bool (decide (b ≤ a)))
  | _ => none
theorem eqGuard_int {op : BinOp} {t : TypeId} {x y : Operand} {k : IntKind} {a : Int} {v : Value} : QV P (eqGuard op t x y (.int k a) v) () := by
  cases op <;> cases v <;> exact QV.pure _
theorem y_bin {op : BinOp} {t u : TypeId} {x y : Operand} {k : IntKind} {a b : Int} {v : Value} (hx : ev ρ x = .int k a) (hy : ev ρ y = .int k b) (hv : binI op k a b = some v) :
    YE P ⟨d, .binOp op t x y u, ty, ps, af, gd⟩ ρ v := by
  refine YE.val rfl rfl ?_
  show QV P (do eqGuard op t x y (ev ρ x) (ev ρ y); binOp op t (ev ρ x) (ev ρ y)) v
  rw [hx, hy]
  refine QV.bind eqGuard_int ?_
  unfold binI at hv
  cases op <;> cases hv <;> first | exact (by unfold binOp; simp only [ne_eq, not_true_eq_false, if_false]; exact QV.pure _) | skip
end pure
structure Sl where
  a : Option Addr
  len : Nat
  cap : Nat
def Sl.val (s : Sl) : Value := .slice s.a s.len s.cap
def Sl.nil : Sl := ⟨none, 0, 0⟩
def grab (c : Array Value) (off : Nat) : Nat → Option (List Value)
  | 0 => some []
  | n + 1 => match c[off]?, grab c (off + 1) n with
    | some v, some l => some (v :: l)
    | _, _ => none
def lay (c : Array Value) (off : Nat) : List Value → Array Value
  | [] => c
  | v :: r => lay (c.setIfInBounds off v) (off + 1) r
def mIf (c : Bool) (A B : H → Prop) : H → Prop := fun h => (c = true → A h) ∧ (c = false → B h)
def mDeref (p : Option Addr) (k : Addr → H → Prop) : H → Prop := fun h => ∃ a, p = some a ∧ k a h
def isIdx (s : Sl) (i : Int) (size : Nat) (x : Addr) : Prop := ∃ a, s.a = some a ∧ 0 ≤ i ∧ i < s.len ∧ x = a.add (i.toNat * size)
def mIdx (s : Sl) (i : Int) (size : Nat) (k : Addr → H → Prop) : H → Prop := fun h => ∃ x, isIdx s i size x ∧ k x h
def At (h : H) (a : Addr) (l : List Value) : Prop := a.spot = none ∧ ∃ c e fz, h a.block = some (.cells c e fz) ∧ grab c a.off l.length = some l
def cInt (k : IntKind) (n : Int) : List Value := [.int k n]
def cBool (b : Bool) : List Value := [.bool b]
def cStr (s : ByteArray) : List Value := [.string s]
def cSl (s : Sl) : List Value := [s.val]
def cPtr (p : Option Addr) : List Value := [.pointer p]
def cMap (p : Option Nat) : List Value := [.map p]
def mLoad {T : Type} (cells : T → List Value) (a : Addr) (k : T → H → Prop) : H → Prop := fun h => ∃ x, At h a (cells x) ∧ k x h
def mStore (a : Addr) (l : List Value) (k : H → Prop) : H → Prop := fun h => a.spot = none ∧ ∃ c e fz, h a.block = some (.cells c e fz) ∧ a.off + l.length ≤ c.size ∧
  (∀ i, i < l.length → frozenIn (.cells c e fz) (a.off + i) = false) ∧ k (upd h a.block (.cells (lay c a.off l) e fz))
def mNew (t : TypeId) (c : Array Value) (k : Addr → H → Prop) : H → Prop := fun h => ∀ b, h b = none → k ⟨b, 0, none⟩ (upd h b (.cells c t (0, 0)))
def isCut (s : Sl) (lo hi : Int) (size : Nat) (x : Sl) : Prop := 0 ≤ lo ∧ lo ≤ hi ∧ hi ≤ s.cap ∧ x = ⟨if s.cap = lo.toNat then s.a else s.a.map (·.add (lo.toNat * size)), hi.toNat - lo.toNat, s.cap - lo.toNat⟩
def mCut (s : Sl) (lo hi : Int) (size : Nat) (k : Sl → H → Prop) : H → Prop := fun h => ∃ x, isCut s lo hi size x ∧ k x h
def mPure {R : Type} (m : (R → H → Prop) → H → Prop) (k : R → H → Prop) : H → Prop := fun h => ∃ r, (∀ (h' : H) (k' : R → H → Prop), k' r h' → m k' h') ∧ k r h
section rules
variable {P : Program} {C : PPost} {ops : Array Oper} {next : Post} {ρ : Env} {L h : H} {oi : Oper} {i fuel : Nat} {v : Value} {listed : Array Bool}
theorem tnn (i : Nat) (d : Option Tmp) (hi : ops.toList[i]? = some oi) (hd : oi.dst = d) (hs : Region.noSelect ops = true) (hf : free P ops listed i 0 = true) (few : fewB listed (fuel + 1) = true) (hw : Region.wanted oi (yld ops ρ) = false)
    (x : bAny P ops next C fuel (listed.setIfInBounds i true) (put ρ d undef) L h) : bAny P ops next C (fuel + 1) listed ρ L h := by
  subst hd; exact tn i hi hs hf few hw x
theorem tyy (i : Nat) (d : Option Tmp) (v : Value) (hi : ops.toList[i]? = some oi) (hd : oi.dst = d) (hs : Region.noSelect ops = true) (hf : free P ops listed i 0 = true) (few : fewB listed (fuel + 1) = true) (hw : Region.wanted oi (yld ops ρ) = true)
    (y : YE P oi ρ v) (x : bAny P ops next C fuel (listed.setIfInBounds i true) (put ρ d v) L h) : bAny P ops next C (fuel + 1) listed ρ L h := by
  subst hd
  exact ty i v hi hs hf few hw (fun L' h' next k => y L' h' next C k) x
theorem trr (i : Nat) (d : Option Tmp) (v : Value) (hi : ops.toList[i]? = some oi) (hd : oi.dst = d) (hs : Region.noSelect ops = true) (hf : free P ops listed i 1 = true) (few : fewB listed (fuel + 1) = true) (hw : Region.wanted oi (yld ops ρ) = true)
    (y : YR P oi ρ L v) (x : bAny P ops next C fuel (listed.setIfInBounds i true) (put ρ d v) L h) : bAny P ops next C (fuel + 1) listed ρ L h := by
  subst hd
  exact tr i v hi hs hf few hw (fun L' h' next g k => y L' h' next C g k) x
variable {d : Option Tmp} {ty : TypeId} {ps : String} {af : Array Edge} {gd : Option (Nat × Bool)}
theorem load_scalar {t : TypeId} {td : TypeDesc} {a : Addr} {hf : H} {c : Array Value} {e : TypeId} {fz : Nat × Nat} {E : Value → H → Prop} {K : Value → H → Prop} (hu : P.underlying t = some td)
    (hs : aggB td = false) (hsp : a.spot = none) (hb : hf a.block = some (.cells c e fz)) (hv : c[a.off]? = some v) (k : K v hf) : qwp P (loadVar t a) hf K E := by
  refine (qwp_bind _ _ _).2 (QV.isAgg hu hf _ _ ?_)
  rw [hs]
  exact ⟨hsp, c, e, fz, v, hb, hv, k⟩
theorem loadFrom_run {a : Addr} {hf : H} {c : Array Value} {e : TypeId} {fz : Nat × Nat} {E : Value → H → Prop} (hsp : a.spot = none) (hb : hf a.block = some (.cells c e fz)) :
    ∀ (n i : Nat) (acc : Array Value) (l : List Value) (K : Array Value → H → Prop), grab c (a.off + i) n = some l → K (acc ++ l.toArray) hf → qwp P (loadCellsFrom a i n acc) hf K E := by
  intro n
  induction n with
  | zero => intro i acc l K hg k; simp only [grab, Option.some.injEq] at hg; subst hg; show K acc hf; simpa using k
  | succ n ih =>
    intro i acc l K hg k
    simp only [grab] at hg
    cases h1 : c[a.off + i]? with
    | none => rw [h1] at hg; simp at hg
    | some x =>
      cases h2 : grab c (a.off + i + 1) n with
      | none => rw [h1, h2] at hg; simp at hg
      | some r =>
        rw [h1, h2] at hg
        simp only [Option.some.injEq] at hg
        subst hg
        refine (qwp_bind _ _ _).2 ?_
        have ha : (a.add i).block = a.block ∧ (a.add i).off = a.off + i ∧ (a.add i).spot = none := by
          unfold Addr.add; split
          · subst_vars; exact ⟨rfl, rfl, hsp⟩
          · exact ⟨rfl, rfl, rfl⟩
        refine ⟨ha.2.2, c, e, fz, x, by rw [ha.1]; exact hb, by rw [ha.2.1]; exact h1, ih (i + 1) _ r K h2 ?_⟩
        simpa using k
theorem load_agg {t : TypeId} {td : TypeDesc} {ti : TypeInfo} {a : Addr} {hf : H} {c : Array Value} {e : TypeId} {fz : Nat × Nat} {l : List Value} {E : Value → H → Prop} {K : Value → H → Prop} (hu : P.underlying t = some td)
    (hs : aggB td = true) (hi : P.info? t = some ti) (hsp : a.spot = none) (hb : hf a.block = some (.cells c e fz)) (hv : grab c a.off ti.size = some l) (k : K (.agg l.toArray) hf) :
    qwp P (loadVar t a) hf K E := by
  refine (qwp_bind _ _ _).2 (QV.isAgg hu hf _ _ ?_)
  rw [hs]
  refine (qwp_bind _ _ _).2 (QV.sizeOf hi hf _ _ ?_)
  exact (qwp_bind _ _ _).2 (loadFrom_run hsp hb ti.size 0 #[] l _ hv (by show K (.agg (#[] ++ l.toArray)) hf; simpa using k))
theorem execOp_load {t : TypeId} {x : Operand} {a : Addr} (hx : ev ρ x = .pointer (some a)) : execOp (ev ρ) ⟨d, .load t x, ty, ps, af, gd⟩ = (do pure (.value (← loadVar t a)) : Sem Next) := by
  show (do pure (.value (← Instr.loadAt t (ev ρ x))) : Sem Next) = _
  rw [hx]; rfl
theorem r_load {t : TypeId} {td : TypeDesc} {x : Operand} {b off : Nat} {c : Array Value} {e : TypeId} {fz : Nat × Nat} (hx : ev ρ x = .pointer (some ⟨b, off, none⟩)) (hk : L b = some (.cells c e fz))
    (hu : P.underlying t = some td) (hs : aggB td = false) (hv : c[off]? = some v) : YR P ⟨d, .load t x, ty, ps, af, gd⟩ ρ L v := fun L' h' next C gr kk => by
  rw [aOp_quiet rfl, execOp_load hx]
  exact fun _ => (qwp_bind _ _ _).2 (load_scalar hu hs rfl (un_left (gr _ _ hk)) hv ⟨trivial, L', h', rfl, id, .refl _ _, kk⟩)
theorem r_loadA {t : TypeId} {td : TypeDesc} {ti : TypeInfo} {x : Operand} {b off : Nat} {c : Array Value} {e : TypeId} {fz : Nat × Nat} {l : List Value} (hx : ev ρ x = .pointer (some ⟨b, off, none⟩)) (hk : L b = some (.cells c e fz))
    (hu : P.underlying t = some td) (hs : aggB td = true) (hi : P.info? t = some ti) (hv : grab c off ti.size = some l) : YR P ⟨d, .load t x, ty, ps, af, gd⟩ ρ L (.agg l.toArray) := fun L' h' next C gr kk => by
  rw [aOp_quiet rfl, execOp_load hx]
  exact fun _ => (qwp_bind _ _ _).2 (load_agg hu hs hi rfl (un_left (gr _ _ hk)) hv ⟨trivial, L', h', rfl, id, .refl _ _, kk⟩)
theorem aOp_q {o : Oper} {K : Value → H → Prop} {s : Sem Value} (hq : quietOp P o.op = true) (he : execOp (ev ρ) o = (do pure (.value (← s)) : Sem Next)) (x : Apart L h → qwp P s (un L h) K (fun v hf => C [{ v, recovered := false }] hf))
    (k : ∀ v hf, K v hf → ∃ L' h', hf = un L' h' ∧ (Apart L h → Apart L' h') ∧ Ag o.op L L' ∧ next (put ρ o.dst v) L' h') : aOp P o ρ L h next C := by
  rw [aOp_quiet hq, he]
  exact fun ap => (qwp_bind _ _ _).2 (qwp_mono (fun v hf kk => ⟨trivial, k v hf kk⟩) (fun _ _ k => k) _ _ (x ap))
theorem At_un {a : Addr} {l : List Value} (ap : Apart L h) (x : At h a l) : At (un L h) a l := by
  obtain ⟨hs, c, e, fz, hb, hg⟩ := x
  refine ⟨hs, c, e, fz, ?_, hg⟩
  rcases ap a.block with q | q
  · rw [un_right q]; exact hb
  · rw [q] at hb; cases hb
theorem grab_len : ∀ {n : Nat} {c : Array Value} {off : Nat} {l : List Value}, grab c off n = some l → l.length = n := by
  intro n
  induction n with
  | zero => intro c off l h; simp only [grab, Option.some.injEq] at h; subst h; rfl
  | succ n ih =>
    intro c off l h
    simp only [grab] at h
    cases h1 : c[off]? with
    | none => rw [h1] at h; simp at h
    | some x =>
      cases h2 : grab c (off + 1) n with
      | none => rw [h1, h2] at h; simp at h
      | some r => rw [h1, h2] at h; simp only [Option.some.injEq] at h; subst h; simp [ih h2]
theorem grab_one {c : Array Value} {off : Nat} {v : Value} (h : grab c off 1 = some [v]) : c[off]? = some v := by
  simp only [grab] at h
  cases h1 : c[off]? with
  | none => rw [h1] at h; simp at h
  | some x => rw [h1] at h; simp only [Option.some.injEq, List.cons.injEq, and_true] at h; rw [h]
theorem v_load {T : Type} {cells : T → List Value} {a : Addr} {k : T → H → Prop} {t : TypeId} {td : TypeDesc} {x : Operand} (hm : mLoad cells a k h) (hx : ev ρ x = .pointer (some a)) (hu : P.underlying t = some td) (hs : aggB td = false)
    (val : T → Value) (hv : ∀ y, cells y = [val y]) (nx : ∀ y, k y h → next (put ρ d (val y)) L h) : aOp P ⟨d, .load t x, ty, ps, af, gd⟩ ρ L h next C := by
  obtain ⟨y, hat, ky⟩ := hm
  rw [hv y] at hat
  refine aOp_q (K := fun v hf => v = val y ∧ hf = un L h) rfl (execOp_load hx) (fun ap => ?_) (fun v hf kk => ⟨L, h, kk.2, id, .refl _ _, by rw [kk.1]; exact nx y ky⟩)
  obtain ⟨hsp, c, e, fz, hb, hg⟩ := At_un ap hat
  exact load_scalar hu hs hsp hb (grab_one hg) ⟨rfl, rfl⟩
theorem v_loadA {T : Type} {cells : T → List Value} {a : Addr} {k : T → H → Prop} {t : TypeId} {td : TypeDesc} {ti : TypeInfo} {x : Operand} (hm : mLoad cells a k h) (hx : ev ρ x = .pointer (some a)) (hu : P.underlying t = some td) (hs : aggB td = true) (hi : P.info? t = some ti)
    (val : T → Value) (hv : ∀ y, val y = .agg (cells y).toArray ∧ (cells y).length = ti.size) (nx : ∀ y, k y h → next (put ρ d (val y)) L h) : aOp P ⟨d, .load t x, ty, ps, af, gd⟩ ρ L h next C := by
  obtain ⟨y, hat, ky⟩ := hm
  refine aOp_q (K := fun v hf => v = val y ∧ hf = un L h) rfl (execOp_load hx) (fun ap => ?_) (fun v hf kk => ⟨L, h, kk.2, id, .refl _ _, by rw [kk.1]; exact nx y ky⟩)
  obtain ⟨hsp, c, e, fz, hb, hg⟩ := At_un ap hat
  rw [(hv y).2] at hg
  exact load_agg hu hs hi hsp hb hg ⟨(hv y).1.symm, rfl⟩
theorem storeCells_run {a : Addr} {e : TypeId} {fz : Nat × Nat} (hsp : a.spot = none) {E : Value → H → Prop} : ∀ (l : List Value) (i : Nat) (hf : H) (c : Array Value) (fl : Bool) (K : Unit → H → Bool → Prop), l.all plainVal = true →
    hf a.block = some (.cells c e fz) → a.off + i + l.length ≤ c.size → (∀ j, j < l.length → frozenIn (.cells c e fz) (a.off + i + j) = false) → K () (upd hf a.block (.cells (lay c (a.off + i) l) e fz)) fl → awp P (storeCells a l i) hf fl K E := by
  intro l
  induction l with
  | nil => intro i hf c fl K _ hb _ _ k; rw [lay, upd_self hb] at k; exact k
  | cons v r ih =>
    intro i hf c fl K hp hb hsz hfz k
    simp only [List.all_cons, Bool.and_eq_true] at hp
    simp only [List.length_cons] at hsz hfz
    refine (awp_bind _ _ _ _).2 ?_
    have ha : (a.add i).block = a.block ∧ (a.add i).off = a.off + i ∧ (a.add i).spot = none := by
      unfold Addr.add; split
      · subst_vars; exact ⟨rfl, rfl, hsp⟩
      · exact ⟨rfl, rfl, rfl⟩
    refine ⟨ha.2.2, hp.1, c, e, fz, by rw [ha.1]; exact hb, by rw [ha.2.1]; omega, by rw [ha.2.1]; have := hfz 0 (by omega); simpa using this, ?_⟩
    show awp P (storeCells a r (i + 1)) _ _ _ _
    rw [ha.1, ha.2.1]
    refine ih (i + 1) _ (c.setIfInBounds (a.off + i) v) fl K hp.2 (upd_same _ _ _) (by simp; omega) (fun j hj => ?_) ?_
    · have := hfz (j + 1) (by omega)
      rw [show a.off + i + (j + 1) = a.off + (i + 1) + j from by omega] at this
      exact this
    · rw [upd_upd, show a.off + (i + 1) = a.off + i + 1 from by omega]
      exact k
theorem storeVar_run {t : TypeId} {ti : TypeInfo} {a : Addr} {e : TypeId} {fz : Nat × Nat} {w : Value} (hi : P.info? t = some ti) (hsz : w.cells.size = ti.size) (hsp : a.spot = none) {E : Value → H → Prop} {hf : H} {c : Array Value} {fl : Bool} {K : Unit → H → Bool → Prop} (hp : w.cells.toList.all plainVal = true)
    (hb : hf a.block = some (.cells c e fz)) (hl : a.off + w.cells.size ≤ c.size) (hfz : ∀ j, j < w.cells.size → frozenIn (.cells c e fz) (a.off + j) = false) (k : K () (upd hf a.block (.cells (lay c a.off w.cells.toList) e fz)) fl) : awp P (storeVar t a w) hf fl K E := by
  unfold storeVar
  refine (awp_bind _ _ _ _).2 ?_
  have q : awp P (sizeOf t) hf fl (fun n hf' fl' => n = ti.size ∧ hf' = hf ∧ fl' = fl) E := by
    show awp P (do pure (← typeInfo t).size) hf fl _ E
    refine (awp_bind _ _ _ _).2 ((awp_bind _ _ _ _).2 ?_)
    show awp P (match P.info? t with | some i => pure i | none => stuck "no such type") hf fl _ E
    rw [hi]
    exact ⟨rfl, rfl, rfl⟩
  refine awp_mono (fun n hf' fl' kk => ?_) (fun _ _ k => k) _ _ _ q
  obtain ⟨rfl, rfl, rfl⟩ := kk
  rw [if_neg (by rw [hsz]; exact fun h => h rfl)]
  exact storeCells_run hsp _ 0 hf' c _ K hp hb (by simpa using hl) (by simpa using hfz) k
theorem v_store {a : Addr} {w : Value} {l : List Value} {k : H → Prop} {t : TypeId} {ti : TypeInfo} {x y : Operand} (hm : mStore a l k h) (hx : ev ρ x = .pointer (some a)) (hy : ev ρ y = w) (hw : w.cells.toList = l) (hi : P.info? t = some ti) (hsz : l.length = ti.size) (hp : l.all plainVal = true)
    (nx : ∀ h', k h' → next (put ρ d undef) L h') : aOp P ⟨d, .store t x y, ty, ps, af, gd⟩ ρ L h next C := fun ap => by
  obtain ⟨hsp, c, e, fz, hb, hl, hfz, kk⟩ := hm
  show awp P (do Instr.storeAt t (ev ρ x) (ev ρ y); pure Next.skip) _ _ _ _
  rw [hx, hy]
  refine (awp_bind _ _ _ _).2 ?_
  have hb' : un L h a.block = some (.cells c e fz) := by
    rcases ap a.block with q | q
    · rw [un_right q]; exact hb
    · rw [q] at hb; cases hb
  obtain ⟨e1, e2⟩ := un_put (o' := .cells (lay c a.off l) e fz) ap hb
  have hn : w.cells.size = l.length := by rw [← hw, Array.length_toList]
  refine storeVar_run (w := w) hi (by rw [hn]; exact hsz) hsp (by rw [hw]; exact hp) hb' (by rw [hn]; exact hl) (by rw [hn]; exact hfz) ?_
  rw [hw, e1]
  exact ⟨trivial, L, _, rfl, fun _ => e2, .refl _ _, nx _ kk⟩
theorem b_store {b off : Nat} {w : Value} {t : TypeId} {ti : TypeInfo} {x y : Operand} {c : Array Value} {e : TypeId} (hx : ev ρ x = .pointer (some ⟨b, off, none⟩)) (hy : ev ρ y = w) (hk : L b = some (.cells c e (0, 0)))
    (hi : P.info? t = some ti) (hsz : w.cells.size = ti.size) (hp : w.cells.toList.all plainVal = true) (hl : off + w.cells.size ≤ c.size) (nx : next (put ρ d undef) (upd L b (.cells (lay c off w.cells.toList) e (0, 0))) h) :
    aOp P ⟨d, .store t x y, ty, ps, af, gd⟩ ρ L h next C := fun ap => by
  show awp P (do Instr.storeAt t (ev ρ x) (ev ρ y); pure Next.skip) _ _ _ _
  rw [hx, hy]
  refine (awp_bind _ _ _ _).2 ?_
  have hb : h b = none := by
    rcases ap b with q | q
    · rw [hk] at q; cases q
    · exact q
  have e1 : upd (un L h) b (.cells (lay c off w.cells.toList) e (0, 0)) = un (upd L b (.cells (lay c off w.cells.toList) e (0, 0))) h := by
    funext x
    unfold upd un
    by_cases e : x = b <;> simp [e]
  refine storeVar_run (w := w) (a := ⟨b, off, none⟩) hi hsz rfl hp (un_left hk) hl (fun j _ => by simp [frozenIn]) ?_
  rw [e1]
  refine ⟨trivial, _, h, rfl, fun _ z => ?_, ?_, nx⟩
  · by_cases e : z = b
    · subst e; exact .inr hb
    · rw [upd_ne _ _ e]; exact ap z
  · intro z hz
    unfold upd
    split
    · simp
    · exact hz
theorem newRow_q {t : TypeId} {c : Array Value} {hf : H} {K : Value → H → Prop} {E : Value → H → Prop} (k : ∀ b, hf b = none → K (.pointer (some ⟨b, 0, none⟩)) (upd hf b (.cells c t (0, 0)))) : qwp P (do pure (.pointer (some (← newRow t c))) : Sem Value) hf K E := fun b hb => k b hb
theorem v_box {k : Addr → H → Prop} {t : TypeId} {x : Operand} {c : Array Value} (hm : mNew t c k h) (hc : (ev ρ x).cells = c) (nx : ∀ a h', k a h' → next (put ρ d (.pointer (some a))) L h') : aOp P ⟨d, .box t x, ty, ps, af, gd⟩ ρ L h next C := by
  refine aOp_q (K := fun v hf => ∃ b, un L h b = none ∧ v = .pointer (some ⟨b, 0, none⟩) ∧ hf = upd (un L h) b (.cells c t (0, 0))) (s := Instr.box t (ev ρ x)) rfl rfl (fun _ => ?_) (fun v hf kk => ?_)
  · show qwp P (do pure (.pointer (some (← newRow t (ev ρ x).cells))) : Sem Value) _ _ _
    rw [hc]
    exact newRow_q fun b hb => ⟨b, hb, rfl, rfl⟩
  · obtain ⟨b, hb, rfl, rfl⟩ := kk
    obtain ⟨e1, _, e3⟩ := un_new (o := .cells c t (0, 0)) hb
    exact ⟨L, _, e1, fun ap => (e3 ap).1, .refl _ _, nx _ _ (hm b (un_none.1 hb).2)⟩
theorem b_box {t : TypeId} {x : Operand} {c : Array Value} (hc : (ev ρ x).cells = c) (nx : ∀ b, L b = none → next (put ρ d (.pointer (some ⟨b, 0, none⟩))) (upd L b (.cells c t (0, 0))) h) :
    aOp P ⟨d, .box t x, ty, ps, af, gd⟩ ρ L h next C := by
  refine aOp_q (K := fun v hf => ∃ b, un L h b = none ∧ v = .pointer (some ⟨b, 0, none⟩) ∧ hf = upd (un L h) b (.cells c t (0, 0))) (s := Instr.box t (ev ρ x)) rfl rfl (fun _ => ?_) (fun v hf kk => ?_)
  · show qwp P (do pure (.pointer (some (← newRow t (ev ρ x).cells))) : Sem Value) _ _ _
    rw [hc]
    exact newRow_q fun b hb => ⟨b, hb, rfl, rfl⟩
  · obtain ⟨b, hb, rfl, rfl⟩ := kk
    obtain ⟨_, e2, e3⟩ := un_new (o := .cells c t (0, 0)) hb
    refine ⟨_, h, e2, fun ap => (e3 ap).2, ?_, nx b (un_none.1 hb).1⟩
    intro z o hz
    rw [upd_ne _ _ (fun e => by rw [e, (un_none.1 hb).1] at hz; cases hz)]; exact hz
theorem alloc_qv {t : TypeId} {ti : TypeInfo} {z : Value} {c : Array Value} {hf : H} {K : Value → H → Prop} {E : Value → H → Prop} (hi : P.info? t = some ti) (hz : ti.zero = some z) (hc : z.cells = c) (k : ∀ b, hf b = none → K (.pointer (some ⟨b, 0, none⟩)) (upd hf b (.cells c t (0, 0)))) :
    qwp P (Instr.alloc t true (.tuple #[])) hf K E := by
  refine (qwp_bind _ _ _).2 (QV.zero hi hz hf _ _ ?_)
  show qwp P (do pure (.pointer (some (← newRow t z.cells))) : Sem Value) _ _ _
  rw [hc]
  exact newRow_q k
theorem v_alloc {k : Addr → H → Prop} {t : TypeId} {ti : TypeInfo} {z : Value} {c : Array Value} (hm : mNew t c k h) (hi : P.info? t = some ti) (hz : ti.zero = some z) (hc : z.cells = c) (nx : ∀ a h', k a h' → next (put ρ d (.pointer (some a))) L h') : aOp P ⟨d, .alloc t, ty, ps, af, gd⟩ ρ L h next C := by
  refine aOp_q (K := fun v hf => ∃ b, un L h b = none ∧ v = .pointer (some ⟨b, 0, none⟩) ∧ hf = upd (un L h) b (.cells c t (0, 0))) (s := Instr.alloc t true (.tuple #[])) rfl rfl (fun _ => alloc_qv hi hz hc fun b hb => ⟨b, hb, rfl, rfl⟩) (fun v hf kk => ?_)
  obtain ⟨b, hb, rfl, rfl⟩ := kk
  obtain ⟨e1, _, e3⟩ := un_new (o := .cells c t (0, 0)) hb
  exact ⟨L, _, e1, fun ap => (e3 ap).1, .refl _ _, nx _ _ (hm b (un_none.1 hb).2)⟩
theorem b_alloc {t : TypeId} {ti : TypeInfo} {z : Value} {c : Array Value} (hi : P.info? t = some ti) (hz : ti.zero = some z) (hc : z.cells = c)
    (nx : ∀ b, L b = none → next (put ρ d (.pointer (some ⟨b, 0, none⟩))) (upd L b (.cells c t (0, 0))) h) : aOp P ⟨d, .alloc t, ty, ps, af, gd⟩ ρ L h next C := by
  refine aOp_q (K := fun v hf => ∃ b, un L h b = none ∧ v = .pointer (some ⟨b, 0, none⟩) ∧ hf = upd (un L h) b (.cells c t (0, 0))) (s := Instr.alloc t true (.tuple #[])) rfl rfl (fun _ => alloc_qv hi hz hc fun b hb => ⟨b, hb, rfl, rfl⟩) (fun v hf kk => ?_)
  obtain ⟨b, hb, rfl, rfl⟩ := kk
  obtain ⟨_, e2, e3⟩ := un_new (o := .cells c t (0, 0)) hb
  refine ⟨_, h, e2, fun ap => (e3 ap).2, ?_, nx b (un_none.1 hb).1⟩
  intro z o hz
  rw [upd_ne _ _ (fun e => by rw [e, (un_none.1 hb).1] at hz; cases hz)]; exact hz
end rules
def isByte (s : ByteArray) (i x : Int) : Prop := ∃ b : UInt8, 0 ≤ i ∧ s[i.toNat]? = some b ∧ x = b.toNat
def mByte (s : ByteArray) (i : Int) (k : Int → H → Prop) : H → Prop := fun h => ∃ x, isByte s i x ∧ k x h
def isSub (s : ByteArray) (lo hi : Int) (x : ByteArray) : Prop := 0 ≤ lo ∧ lo ≤ hi ∧ hi ≤ s.size ∧ x = s.extract lo.toNat hi.toNat
def mSub (s : ByteArray) (lo hi : Int) (k : ByteArray → H → Prop) : H → Prop := fun h => ∃ x, isSub s lo hi x ∧ k x h
def isCat (s t x : ByteArray) : Prop := ((s.size + t.size : Nat) : Int) ≤ IntKind.i64.max ∧ x = s ++ t
def mCat (s t : ByteArray) (k : ByteArray → H → Prop) : H → Prop := fun h => ∃ x, isCat s t x ∧ k x h
def mNZ (b : Int) (k : H → Prop) : H → Prop := fun h => b ≠ 0 ∧ k h
def mNN (b : Int) (k : H → Prop) : H → Prop := fun h => 0 ≤ b ∧ k h
def Row (h : H) (a : Option Addr) (l : List Value) : Prop := match a with | none => l = [] | some a => l = [] ∨ At h a l
def mText (s : Sl) (k : ByteArray → H → Prop) : H → Prop := fun h => ∃ l : List UInt8, Row h s.a (l.map fun b => Value.int .u8 b.toNat) ∧ (s.a.isSome = true → l.length = s.len) ∧ k ⟨l.toArray⟩ h
def mBytes (elem : TypeId) (s : ByteArray) (k : Sl → H → Prop) : H → Prop := fun h => ∀ b cap, h b = none → s.size ≤ cap →
  k ⟨some ⟨b, 0, none⟩, s.size, cap⟩ (upd h b (.cells ((s.data.map fun b => Value.int .u8 b.toNat) ++ Array.replicate (cap - s.size) (.int .u8 0)) elem (s.size + (cap - s.size), s.size + (cap - s.size) + 1)))
def Room (by_ : Nat) (need cap : Nat) : Prop := Builtin.nextslicecap need cap * by_ ≤ 2 ^ 48
def mApp (elem : TypeId) (sz by_ : Nat) (zero : Array Value) (m : Nat) (new : List Value) (s : Sl) (k : Sl → H → Prop) : H → Prop := fun h =>
  (s.len + m ≤ s.cap → match s.a with
    | none => new = [] ∧ k ⟨none, s.len + m, s.cap⟩ h
    | some a => (new = [] ∧ k ⟨some a, s.len + m, s.cap⟩ h) ∨ (a.add (s.len * sz)).spot = none ∧ ∃ c e fz, h a.block = some (.cells c e fz) ∧ (a.add (s.len * sz)).off + new.length ≤ c.size ∧
        (∀ i, i < new.length → frozenIn (.cells c e fz) ((a.add (s.len * sz)).off + i) = false) ∧ k ⟨some a, s.len + m, s.cap⟩ (upd h a.block (.cells (lay c (a.add (s.len * sz)).off new) e fz))) ∧
  (¬ s.len + m ≤ s.cap → ∃ old, Row h s.a old ∧ (s.a.isSome = true → old.length = s.len * sz) ∧ Room by_ (s.len + m) s.cap ∧
      ∀ b cap, h b = none → s.len + m ≤ cap → k ⟨some ⟨b, 0, none⟩, s.len + m, cap⟩ (upd h b (.cells (old.toArray ++ new.toArray ++ Builtin.zeroCells zero (cap - (s.len + m))) elem (0, 0))))
def mAppend (elem : TypeId) (sz by_ : Nat) (zero : Array Value) (s x : Sl) (k : Sl → H → Prop) : H → Prop := fun h => ∃ new, Row h x.a new ∧ (x.a.isSome = true → new.length = x.len * sz) ∧ new.all plainVal = true ∧
  mApp elem sz by_ zero x.len new s k h
section rules
variable {P : Program} {C : PPost} {ops : Array Oper} {next : Post} {ρ : Env} {L h : H} {v : Value}
variable {d : Option Tmp} {ty : TypeId} {ps : String} {af : Array Edge} {gd : Option (Nat × Bool)}
theorem y_extract {x : Operand} {i : Nat} {vs : Array Value} (hx : ev ρ x = .tuple vs) (hv : vs[i]? = some v) : YE P ⟨d, .extract x i, ty, ps, af, gd⟩ ρ v := by
  refine YE.val rfl rfl ?_
  show QV P (Instr.extract (ev ρ x) i) v
  rw [hx]; unfold Instr.extract; simp only [hv]; exact QV.pure v
theorem y_field {t : TypeId} {x : Operand} {i : Nat} {cs : Array Value} {fs : Array Field} {f : Field} {td : TypeDesc} (hx : ev ρ x = .agg cs) (hu : P.underlying t = some (.struct fs)) (hf : fs[i]? = some f) (ht : P.underlying f.type = some td) (hs : aggB td = false) (hv : cs[f.offset]? = some v) :
    YE P ⟨d, .field t x i, ty, ps, af, gd⟩ ρ v := by
  refine YE.val rfl rfl ?_
  show QV P (Instr.field t (ev ρ x) i) v
  rw [hx]
  refine QV.bind (QV.underlying hu) ?_
  simp only [hf]
  refine QV.bind (QV.pure cs) (QV.bind (QV.isAgg ht) ?_)
  rw [hs]; simp only [hv]; exact QV.pure v
theorem y_fieldA {t : TypeId} {x : Operand} {i : Nat} {cs : Array Value} {fs : Array Field} {f : Field} {td : TypeDesc} {ti : TypeInfo} (hx : ev ρ x = .agg cs) (hu : P.underlying t = some (.struct fs)) (hf : fs[i]? = some f) (ht : P.underlying f.type = some td) (hs : aggB td = true)
    (hi : P.info? f.type = some ti) (hv : Value.agg (cs.extract f.offset (f.offset + ti.size)) = v) : YE P ⟨d, .field t x i, ty, ps, af, gd⟩ ρ v := by
  refine YE.val rfl rfl ?_
  show QV P (Instr.field t (ev ρ x) i) v
  rw [hx]
  refine QV.bind (QV.underlying hu) ?_
  simp only [hf]
  refine QV.bind (QV.pure cs) (QV.bind (QV.isAgg ht) ?_)
  rw [hs, ← hv]
  exact QV.bind (QV.sizeOf hi) (QV.pure _)
theorem y_fieldAddr {t : TypeId} {x : Operand} {i : Nat} {a : Addr} {fs : Array Field} {f : Field} {ti : TypeInfo} (hx : ev ρ x = .pointer (some a)) (hu : P.underlying t = some (.struct fs)) (hf : fs[i]? = some f) (hi : P.info? f.type = some ti) (hs : Nat.beq ti.size 0 = false) :
    YE P ⟨d, .fieldAddr t x i, ty, ps, af, gd⟩ ρ (.pointer (some (a.add f.offset))) := by
  refine YE.val rfl rfl ?_
  show QV P (Instr.fieldAt t (ev ρ x) i) _
  rw [hx]
  refine QV.bind (QV.underlying hu) ?_
  simp only [hf]
  refine QV.bind (QV.pure a) (QV.bind (a := a.add f.offset) (QV.bind (QV.sizeOf hi) ?_) (QV.pure _))
  rw [if_neg (fun e => by rw [e] at hs; cases hs)]
  exact QV.pure _
theorem y_idx {t : TypeId} {x j : Operand} {s : Sl} {k : IntKind} {i : Int} {e : TypeId} {ti : TypeInfo} {a' : Addr} (hu : P.underlying t = some (.slice e)) (hi : P.info? e = some ti) (hx : ev ρ x = s.val) (hj : ev ρ j = .int k i) (hq : isIdx s i ti.size a') :
    YE P ⟨d, .indexAddr t x j, ty, ps, af, gd⟩ ρ (.pointer (some a')) := by
  obtain ⟨a, ha, h0, h1, rfl⟩ := hq
  refine YE.val rfl rfl ?_
  show QV P (Instr.indexAt t (ev ρ x) (ev ρ j)) _
  rw [hx, hj]
  unfold Instr.indexAt Sl.val
  refine QV.bind (a := (k, i)) (QV.pure _) (QV.bind (QV.underlying hu) ?_)
  refine QV.bind (a := (s.a, s.len, e)) (QV.pure _) (QV.bind (QV.underlying hu) ?_)
  simp only [ha]
  rw [if_pos ⟨h0, h1⟩]
  exact QV.bind (QV.sizeOf hi) (QV.pure _)
theorem y_idxA {t : TypeId} {x j : Operand} {a : Addr} {n : Nat} {k : IntKind} {i : Int} {e : TypeId} {ti : TypeInfo} {a' : Addr} (hu : P.underlying t = some (.array n e)) (hi : P.info? e = some ti) (hx : ev ρ x = .pointer (some a)) (hj : ev ρ j = .int k i) (hq : isIdx ⟨some a, n, n⟩ i ti.size a') :
    YE P ⟨d, .indexAddr t x j, ty, ps, af, gd⟩ ρ (.pointer (some a')) := by
  obtain ⟨a0, ha, h0, h1, rfl⟩ := hq
  cases ha
  refine YE.val rfl rfl ?_
  show QV P (Instr.indexAt t (ev ρ x) (ev ρ j)) _
  rw [hx, hj]
  unfold Instr.indexAt
  refine QV.bind (a := (k, i)) (QV.pure _) (QV.bind (QV.underlying hu) ?_)
  refine QV.bind (a := (some a, n, e)) (QV.pure _) (QV.bind (QV.underlying hu) ?_)
  simp only []
  rw [if_pos ⟨h0, h1⟩]
  exact QV.bind (QV.sizeOf hi) (QV.pure _)
theorem y_idxS {t : TypeId} {x j : Operand} {s : ByteArray} {k : IntKind} {i x' : Int} (hu : P.underlying t = some .string) (hx : ev ρ x = .string s) (hj : ev ρ j = .int k i) (hq : isByte s i x') :
    YE P ⟨d, .index t x j, ty, ps, af, gd⟩ ρ (.int .u8 x') := by
  obtain ⟨b, h0, h1, rfl⟩ := hq
  refine YE.val rfl rfl ?_
  show QV P (Instr.index t (ev ρ x) (ev ρ j)) _
  rw [hx, hj]
  unfold Instr.index
  refine QV.bind (a := (k, i)) (QV.pure _) (QV.bind (QV.underlying hu) ?_)
  simp only []
  rw [if_pos h0, h1]
  exact QV.pure _
theorem exec_builtin {b : Builtin} {xs : Array Operand} {ts : Array TypeId} : execOp (ev ρ) ⟨d, .call ⟨.builtin b, xs, ts⟩, ty, ps, af, gd⟩ = builtin b ts ty (xs.map fun | .const _ => true | _ => false) (xs.map (ev ρ)) := rfl
theorem YE.bi {b : Builtin} {xs : Array Operand} {ts : Array TypeId} {vs : Array Value} {s : Sem Value} (hq : quietOp P (.call ⟨.builtin b, xs, ts⟩) = true) (hv : xs.map (ev ρ) = vs) (hb : ∀ cs, builtin b ts ty cs vs = (do pure (.value (← s)) : Sem Next)) (x : QV P s v) :
    YE P ⟨d, .call ⟨.builtin b, xs, ts⟩, ty, ps, af, gd⟩ ρ v := by
  refine YE.of hq ?_
  rw [exec_builtin, hv, hb]
  exact QV.bind x (QV.pure _)
theorem y_lenS {t : TypeId} {x : Operand} {ts : Array TypeId} {s : ByteArray} (hx : ev ρ x = .string s) (ht : ts[0]? = some t) (hu : P.underlying t = some .string) : YE P ⟨d, .call ⟨.builtin .len, #[x], ts⟩, ty, ps, af, gd⟩ ρ (.int .i64 s.size) := by
  refine YE.bi (s := Builtin.len_ ts ty #[.string s]) rfl (by simp [hx]) (fun _ => rfl) ?_
  unfold Builtin.len_
  simp only [ht]
  exact QV.bind (QV.underlying hu) (QV.pure _)
theorem y_len {t e : TypeId} {x : Operand} {ts : Array TypeId} {s : Sl} (hx : ev ρ x = s.val) (ht : ts[0]? = some t) (hu : P.underlying t = some (.slice e)) : YE P ⟨d, .call ⟨.builtin .len, #[x], ts⟩, ty, ps, af, gd⟩ ρ (.int .i64 s.len) := by
  refine YE.bi (s := Builtin.len_ ts ty #[s.val]) rfl (by simp [hx]) (fun _ => rfl) ?_
  unfold Builtin.len_
  simp only [ht]
  exact QV.bind (QV.underlying hu) (QV.pure _)
theorem y_min {x y : Operand} {ts : Array TypeId} {k : IntKind} {a b : Int} (hx : ev ρ x = .int k a) (hy : ev ρ y = .int k b) : YE P ⟨d, .call ⟨.builtin .min, #[x, y], ts⟩, ty, ps, af, gd⟩ ρ (.int k (iMin a b)) := by
  refine YE.bi (s := Builtin.min_ ts ty #[.int k a, .int k b]) rfl (by simp [hx, hy]) (fun _ => rfl) ?_
  exact QV.pure _
theorem y_max {x y : Operand} {ts : Array TypeId} {k : IntKind} {a b : Int} (hx : ev ρ x = .int k a) (hy : ev ρ y = .int k b) : YE P ⟨d, .call ⟨.builtin .max, #[x, y], ts⟩, ty, ps, af, gd⟩ ρ (.int k (iMax a b)) := by
  refine YE.bi (s := Builtin.max_ ts ty #[.int k a, .int k b]) rfl (by simp [hx, hy]) (fun _ => rfl) ?_
  exact QV.pure _
theorem y_shl {t u : TypeId} {x y : Operand} {k j : IntKind} {a b : Int} (hx : ev ρ x = .int k a) (hy : ev ρ y = .int j b) (hb : 0 ≤ b) : YE P ⟨d, .binOp .shl t x y u, ty, ps, af, gd⟩ ρ (.int k (iShl k a b)) := by
  refine YE.val rfl rfl ?_
  show QV P (do eqGuard .shl t x y (ev ρ x) (ev ρ y); binOp .shl t (ev ρ x) (ev ρ y)) _
  rw [hx, hy]
  refine QV.bind eqGuard_int ?_
  show QV P (Op.shift .shl k a j b) _
  unfold Op.shift
  rw [if_neg (by omega)]
  exact QV.pure _
theorem y_shr {t u : TypeId} {x y : Operand} {k j : IntKind} {a b : Int} (hx : ev ρ x = .int k a) (hy : ev ρ y = .int j b) (hb : 0 ≤ b) : YE P ⟨d, .binOp .shr t x y u, ty, ps, af, gd⟩ ρ (.int k (iShr k a b)) := by
  refine YE.val rfl rfl ?_
  show QV P (do eqGuard .shr t x y (ev ρ x) (ev ρ y); binOp .shr t (ev ρ x) (ev ρ y)) _
  rw [hx, hy]
  refine QV.bind eqGuard_int ?_
  show QV P (Op.shift .shr k a j b) _
  unfold Op.shift
  rw [if_neg (by omega)]
  exact QV.pure _
theorem y_quo {t u : TypeId} {x y : Operand} {k : IntKind} {a b : Int} (hx : ev ρ x = .int k a) (hy : ev ρ y = .int k b) (hb : b ≠ 0) : YE P ⟨d, .binOp .quo t x y u, ty, ps, af, gd⟩ ρ (.int k (iQuo k a b)) := by
  refine YE.val rfl rfl ?_
  show QV P (do eqGuard .quo t x y (ev ρ x) (ev ρ y); binOp .quo t (ev ρ x) (ev ρ y)) _
  rw [hx, hy]
  refine QV.bind eqGuard_int ?_
  unfold binOp
  simp only [ne_eq, not_true_eq_false, if_false]
  unfold Op.intDiv
  rw [if_neg hb]
  exact QV.pure _
theorem y_rem {t u : TypeId} {x y : Operand} {k : IntKind} {a b : Int} (hx : ev ρ x = .int k a) (hy : ev ρ y = .int k b) (hb : b ≠ 0) : YE P ⟨d, .binOp .rem t x y u, ty, ps, af, gd⟩ ρ (.int k (iRem k a b)) := by
  refine YE.val rfl rfl ?_
  show QV P (do eqGuard .rem t x y (ev ρ x) (ev ρ y); binOp .rem t (ev ρ x) (ev ρ y)) _
  rw [hx, hy]
  refine QV.bind eqGuard_int ?_
  unfold binOp
  simp only [ne_eq, not_true_eq_false, if_false]
  unfold Op.intDiv
  rw [if_neg hb]
  exact QV.pure _
def binS (op : BinOp) (a b : ByteArray) : Option Value :=
  match op with
  | .eql => some (.bool (a.toList == b.toList))
  | .neq => some (.bool !(a.toList == b.toList))
  | .lss => some (.bool (Op.bytesLess a.toList b.toList))
  | .leq => some (.bool (Op.bytesLess a.toList b.toList || a.toList == b.toList))
  | .gtr => some (.bool !(Op.bytesLess a.toList b.toList || a.toList == b.toList))
  | .geq => some (.bool !(Op.bytesLess a.toList b.toList))
  | _ => none
theorem eqGuard_str {op : BinOp} {t : TypeId} {x y : Operand} {a : ByteArray} {v : Value} : QV P (eqGuard op t x y (.string a) v) () := by
  cases op <;> cases v <;> exact QV.pure _
theorem y_binS {op : BinOp} {t u : TypeId} {x y : Operand} {a b : ByteArray} (hx : ev ρ x = .string a) (hy : ev ρ y = .string b) (hv : binS op a b = some v) : YE P ⟨d, .binOp op t x y u, ty, ps, af, gd⟩ ρ v := by
  refine YE.val rfl rfl ?_
  show QV P (do eqGuard op t x y (ev ρ x) (ev ρ y); binOp op t (ev ρ x) (ev ρ y)) v
  rw [hx, hy]
  refine QV.bind eqGuard_str ?_
  unfold binS at hv
  cases op <;> cases hv <;> exact QV.pure _
theorem y_cat {t u : TypeId} {x y : Operand} {a b r : ByteArray} (hx : ev ρ x = .string a) (hy : ev ρ y = .string b) (hq : isCat a b r) : YE P ⟨d, .binOp .add t x y u, ty, ps, af, gd⟩ ρ (.string r) := by
  obtain ⟨hl, rfl⟩ := hq
  refine YE.val rfl rfl ?_
  show QV P (do eqGuard .add t x y (ev ρ x) (ev ρ y); binOp .add t (ev ρ x) (ev ρ y)) _
  rw [hx, hy]
  refine QV.bind eqGuard_str ?_
  show QV P (Op.stringOp .add a b) _
  unfold Op.stringOp
  simp only []
  rw [if_neg (by omega)]
  exact QV.pure _
theorem y_conv {s t : TypeId} {sd : TypeDesc} {x : Operand} {k j : IntKind} {a : Int} (hx : ev ρ x = .int j a) (hu : P.underlying s = some sd) (ht : P.underlying t = some (.int k)) : YE P ⟨d, .convert s t x, ty, ps, af, gd⟩ ρ (.int k (k.wrap a)) := by
  refine YE.val (by simp only [quietOp, ht]) rfl ?_
  show QV P (convert s t (ev ρ x)) _
  rw [hx]
  unfold convert
  refine QV.bind (QV.underlying hu) (QV.bind (QV.underlying ht) ?_)
  cases sd <;> exact QV.pure _
theorem sub_bounds {s : Nat} {lo hi : Int} {kl kh : IntKind} (h0 : 0 ≤ lo) (h1 : lo ≤ hi) (h2 : hi ≤ s) (isS : Bool) (len : Nat) (l r : Option Value) (hl : l = none ∧ lo = 0 ∨ l = some (.int kl lo)) (hr : r = none ∧ hi = len ∨ r = some (.int kh hi)) :
    QV P (Instr.sliceBounds isS len s l r none) (lo.toNat, hi.toNat, s) := by
  have fin : ∀ (h : Nat), h = hi.toNat → QV P (do
      let l ← match l with
        | some v => Instr.sliceBound v h .sliceB
        | none => pure 0
      pure (l, h, s)) (lo.toNat, hi.toNat, s) := fun h e => by
    subst e
    rcases hl with ⟨rfl, rfl⟩ | rfl
    · exact QV.pure _
    · refine QV.bind (a := lo.toNat) (QV.bind (a := (kl, lo)) (QV.pure _) ?_) (QV.pure _)
      simp only []
      rw [if_pos ⟨by omega, by omega⟩]
      exact QV.pure _
  unfold Instr.sliceBounds
  refine QV.bind (a := s) (QV.pure s) ?_
  rcases hr with ⟨rfl, rfl⟩ | rfl
  · refine QV.bind (a := len) (QV.pure len) ?_
    exact fin len (by simp)
  · refine QV.bind (a := hi.toNat) (QV.bind (a := (kh, hi)) (QV.pure _) ?_) (fin _ rfl)
    simp only []
    rw [if_pos ⟨by omega, by omega⟩]
    exact QV.pure _
def bnd (ρ : Env) (o : Option Operand) (dflt : Int) (x : Int) : Prop := match o with | none => x = dflt | some y => ∃ k, ev ρ y = .int k x
theorem y_cut {t e : TypeId} {ti : TypeInfo} {x : Operand} {l r : Option Operand} {s : Sl} {lo hi : Int} {s' : Sl} (hu : P.underlying t = some (.slice e)) (hi' : P.info? e = some ti) (hx : ev ρ x = s.val) (hl : bnd ρ l 0 lo) (hr : bnd ρ r s.len hi) (hq : isCut s lo hi ti.size s') :
    YE P ⟨d, .slice t x l r none, ty, ps, af, gd⟩ ρ s'.val := by
  obtain ⟨h0, h1, h2, rfl⟩ := hq
  refine YE.val rfl rfl ?_
  show QV P (Instr.sliceAt t (ev ρ x) (l.map (ev ρ)) (r.map (ev ρ)) none) _
  rw [hx]
  unfold Instr.sliceAt
  refine QV.bind (QV.underlying hu) ?_
  simp only []
  unfold Instr.slice Sl.val
  refine QV.bind (QV.underlying hu) ?_
  simp only []
  obtain ⟨kl, hl⟩ : ∃ k, (l.map (ev ρ) = none ∧ lo = 0 ∨ l.map (ev ρ) = some (.int k lo)) := by
    cases l with
    | none => exact ⟨.i64, .inl ⟨rfl, hl⟩⟩
    | some y => obtain ⟨k, hk⟩ := hl; exact ⟨k, .inr (by rw [Option.map_some, hk])⟩
  obtain ⟨kr, hr⟩ : ∃ k, (r.map (ev ρ) = none ∧ hi = s.len ∨ r.map (ev ρ) = some (.int k hi)) := by
    cases r with
    | none => exact ⟨.i64, .inl ⟨rfl, hr⟩⟩
    | some y => obtain ⟨k, hk⟩ := hr; exact ⟨k, .inr (by rw [Option.map_some, hk])⟩
  refine QV.bind (sub_bounds h0 h1 h2 true s.len _ _ hl hr) (QV.bind (QV.sizeOf hi') ?_)
  exact QV.pure _
theorem y_cutA {t e : TypeId} {ti : TypeInfo} {x : Operand} {l r : Option Operand} {a : Addr} {n : Nat} {lo hi : Int} {s' : Sl} (hu : P.underlying t = some (.array n e)) (hi' : P.info? e = some ti) (hx : ev ρ x = .pointer (some a)) (hl : bnd ρ l 0 lo) (hr : bnd ρ r n hi) (hq : isCut ⟨some a, n, n⟩ lo hi ti.size s') :
    YE P ⟨d, .slice t x l r none, ty, ps, af, gd⟩ ρ s'.val := by
  obtain ⟨h0, h1, h2, rfl⟩ := hq
  refine YE.val rfl rfl ?_
  show QV P (Instr.sliceAt t (ev ρ x) (l.map (ev ρ)) (r.map (ev ρ)) none) _
  rw [hx]
  unfold Instr.sliceAt
  refine QV.bind (QV.underlying hu) ?_
  simp only []
  obtain ⟨kl, hl⟩ : ∃ k, (l.map (ev ρ) = none ∧ lo = 0 ∨ l.map (ev ρ) = some (.int k lo)) := by
    cases l with
    | none => exact ⟨.i64, .inl ⟨rfl, hl⟩⟩
    | some y => obtain ⟨k, hk⟩ := hl; exact ⟨k, .inr (by rw [Option.map_some, hk])⟩
  obtain ⟨kr, hr⟩ : ∃ k, (r.map (ev ρ) = none ∧ hi = n ∨ r.map (ev ρ) = some (.int k hi)) := by
    cases r with
    | none => exact ⟨.i64, .inl ⟨rfl, hr⟩⟩
    | some y => obtain ⟨k, hk⟩ := hr; exact ⟨k, .inr (by rw [Option.map_some, hk])⟩
  refine QV.bind (a := a) (QV.pure a) (QV.bind (sub_bounds h0 h1 h2 false n _ _ hl hr) (QV.bind (QV.sizeOf hi') ?_))
  unfold Sl.val
  show QV P _ (Value.slice (if n = lo.toNat then some a else (some a).map (·.add (lo.toNat * ti.size))) _ _)
  by_cases q : n = lo.toNat
  · rw [if_pos q]; simp only [if_pos q]; exact QV.pure _
  · rw [if_neg q]; simp only [if_neg q]; exact QV.pure _
theorem y_sub {t : TypeId} {x : Operand} {l r : Option Operand} {s : ByteArray} {lo hi : Int} {s' : ByteArray} (hu : P.underlying t = some .string) (hx : ev ρ x = .string s) (hl : bnd ρ l 0 lo) (hr : bnd ρ r s.size hi) (hq : isSub s lo hi s') :
    YE P ⟨d, .slice t x l r none, ty, ps, af, gd⟩ ρ (.string s') := by
  obtain ⟨h0, h1, h2, rfl⟩ := hq
  refine YE.val rfl rfl ?_
  show QV P (Instr.sliceAt t (ev ρ x) (l.map (ev ρ)) (r.map (ev ρ)) none) _
  rw [hx]
  unfold Instr.sliceAt
  refine QV.bind (QV.underlying hu) ?_
  simp only []
  unfold Instr.slice
  refine QV.bind (QV.underlying hu) ?_
  simp only [Option.isSome_none, Bool.false_eq_true, if_false]
  obtain ⟨kl, hl⟩ : ∃ k, (l.map (ev ρ) = none ∧ lo = 0 ∨ l.map (ev ρ) = some (.int k lo)) := by
    cases l with
    | none => exact ⟨.i64, .inl ⟨rfl, hl⟩⟩
    | some y => obtain ⟨k, hk⟩ := hl; exact ⟨k, .inr (by rw [Option.map_some, hk])⟩
  obtain ⟨kr, hr⟩ : ∃ k, (r.map (ev ρ) = none ∧ hi = s.size ∨ r.map (ev ρ) = some (.int k hi)) := by
    cases r with
    | none => exact ⟨.i64, .inl ⟨rfl, hr⟩⟩
    | some y => obtain ⟨k, hk⟩ := hr; exact ⟨k, .inr (by rw [Option.map_some, hk])⟩
  exact QV.bind (sub_bounds h0 h1 h2 false s.size _ _ hl hr) (QV.pure _)
end rules
end Go.Proofs.YtdleanjofhghnaaDoor.K
