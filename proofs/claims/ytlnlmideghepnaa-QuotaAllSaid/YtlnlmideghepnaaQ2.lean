/- What the effects of operations say is what the model's operations do. -/
import Derived.Test.YtlnlmideghepnaaQ1
import Derived.Test.YtlnlmideghepnaaL1
namespace Go.Proofs.Ytlnlmideghepnaa.K
open Go

theorem findB_some : ∀ {l : List Bx} {i : Nat} {e : Bx}, findB l i = some e → e ∈ l ∧ e.key = i := by
  intro l
  induction l with
  | nil => intro i e h; cases h
  | cons x r ih =>
    intro i e h
    simp only [findB] at h
    cases hb : Nat.beq x.key i <;> rw [hb] at h
    · obtain ⟨h1, h2⟩ := ih h
      exact ⟨List.mem_cons_of_mem _ h1, h2⟩
    · cases h
      exact ⟨List.mem_cons_self .., by rwa [Nat.beq_eq] at hb⟩
theorem takeS_some : ∀ {n : Nat} {l : List (Option Value)} {vs : List Value}, takeS n l = some vs → vs.length = n ∧ ∀ (i : Nat) (v : Value), vs[i]? = some v → l[i]? = some (some v) := by
  intro n
  induction n with
  | zero => intro l vs h; cases l <;> cases h <;> exact ⟨rfl, fun i v e => by simp at e⟩
  | succ n ih =>
    intro l vs h
    match l, h with
    | some v :: r, h =>
      simp only [takeS] at h
      split at h
      · rename_i l' e
        cases h
        obtain ⟨h1, h2⟩ := ih e
        refine ⟨by simp [h1], fun i w hi => ?_⟩
        cases i with
        | zero => simpa using hi
        | succ i => simpa using h2 i w (by simpa using hi)
      · cases h
theorem grabO_grab {c : Array Value} {l : List (Option Value)} {off n : Nat} {vs : List Value} (k : Known c l) (h : grabO l off n = some vs) : grab c off n = some vs := by
  obtain ⟨h1, h2⟩ := takeS_some h
  subst h1
  refine grab_iff.2 fun i v hi => k.2 _ _ ?_
  have := h2 i v hi
  rw [List.getElem?_drop] at this
  exact this
theorem layO_len : ∀ (l : List (Option Value)) (off : Nat) (vs : List Value), (layO l off vs).length = l.length := by
  intro l
  induction l with
  | nil => intro off vs; rfl
  | cons x r ih =>
    intro off vs
    cases off with
    | zero => cases vs with
      | nil => rfl
      | cons v vs => simp [layO, ih]
    | succ n => simp [layO, ih]
theorem layO_known : ∀ (vs : List Value) (l : List (Option Value)) (c : Array Value) (off : Nat), off + vs.length ≤ l.length → Known c l → Known (lay c off vs) (layO l off vs) := by
  have step : ∀ (l : List (Option Value)) (off : Nat) (v : Value) (vs : List Value), off < l.length → layO l off (v :: vs) = layO (l.set off (some v)) (off + 1) vs := by
    intro l
    induction l with
    | nil => intro off v vs h; cases h
    | cons x r ih =>
      intro off v vs h
      cases off with
      | zero => simp [layO]
      | succ n => simp only [layO, List.set_cons_succ]; rw [ih n v vs (by simpa using h)]
  intro vs
  induction vs with
  | nil =>
    intro l c off h k
    have : layO l off [] = l := by
      clear h k c
      induction l generalizing off with
      | nil => rfl
      | cons x r ih => cases off <;> simp [layO, ih]
    rw [this]; exact k
  | cons v vs ih =>
    intro l c off h k
    rw [List.length_cons] at h
    rw [step l off v vs (by omega)]
    refine ih _ _ _ (by rw [List.length_set]; omega) ⟨by rw [List.length_set, Array.size_setIfInBounds]; exact k.1, fun j w hj => ?_⟩
    rw [List.getElem?_set] at hj
    rw [Array.getElem?_setIfInBounds]
    split at hj
    · rename_i e
      rw [if_pos e]
      split at hj
      · cases hj; rw [if_pos (by rw [k.1]; omega)]
      · cases hj
    · rename_i e
      rw [if_neg e]; exact k.2 _ _ hj
theorem SV.is.rel {s : SV} {v : Value} (h : s.is v) (l : List Bx) (β : Nat → Nat) : Rel l β v s := by
  cases s <;> first | exact h | exact h.elim

def litV (b : Nat) : Option Nat → Value
  | none => .pointer (some ⟨b, 0, none⟩)
  | some n => .slice (some ⟨b, 0, none⟩) n n
/-- What an effect says of the model's operation. -/
def EffOk (P : Program) (o : Oper) (β : Nat → Nat) (st : St) (ρ : Env) (L : H) : Eff → Prop
  | .bad => True
  | .ret s => ∃ v, Rel st.bx β v s ∧ YE P o ρ v
  | .ask X w f => ∀ (k : X → HP) (h : H), w k h → ∃ x v, (f x).is v ∧ YE P o ρ v ∧ k x h
  | .own s => ∃ v, Rel st.bx β v s ∧ YR P o ρ L v
  | .mem X w f => ∀ (k : X → HP) (h : H) (next : Post), w k h → (∀ x v h', k x h' → (f x = .no ∨ (f x).is v) → next (put ρ o.dst v) L h') → aOp P o ρ L h next noP
  | .box t c lit => ∀ (h : H) (next : Post), (∀ b, L b = none → next (put ρ o.dst (litV b lit)) (upd L b (.cells c.toArray t (0, 0))) h) → aOp P o ρ L h next noP
  | .set i c => ∃ e c', findB st.bx i = some e ∧ c.length = e.cells.length ∧ Known c' c ∧ ∀ (h : H) (next : Post), next (put ρ o.dst undef) (upd L (β i) (.cells c' e.ty (0, 0))) h → aOp P o ρ L h next noP

section oks
variable {P : Program} {X : Cx P} {β : Nat → Nat} {st : St} {ρ : Env} {L : H}
theorem Ok.val (k : Ok β st ρ L) (x : Operand) : Rel st.bx β (ev ρ x) (sv st x) := by
  cases x with
  | tmp t => exact k.slots t
  | _ => rfl
theorem Ok.v (k : Ok β st ρ L) {x : Operand} {w : Value} (e : sv st x = .v w) : ev ρ x = w := by
  have := k.val x; rw [e] at this; exact this
theorem Ok.pl (k : Ok β st ρ L) {x : Operand} {w : PV} (e : sv st x = .pl w) : ev ρ x = w.1 := by
  have := k.val x; rw [e] at this; exact this
theorem Ok.adr (k : Ok β st ρ L) {x : Operand} {a : Addr} (e : sv st x = .adr a) : ev ρ x = .pointer (some a) := by
  have := k.val x; rw [e] at this; exact this
theorem Ok.box (k : Ok β st ρ L) {x : Operand} {i off : Nat} (e : sv st x = .box i off) {b : Bx} (hb : findB st.bx i = some b) : ev ρ x = .pointer (some ⟨β i, off, none⟩) := by
  have := k.val x; rw [e] at this
  obtain ⟨h1, h2⟩ := findB_some hb
  exact this ⟨b, h1, h2⟩
theorem Ok.box' (k : Ok β st ρ L) {x : Operand} {i off : Nat} (e : sv st x = .box i off) {b : Bx} (hb : findB st.bx i = some b) : ev ρ x = .pointer (some ⟨β i, off, none⟩) := by
  have := k.val x; rw [e] at this
  obtain ⟨h1, h2⟩ := findB_some hb
  exact this ⟨b, h1, h2⟩
theorem Ok.lit (k : Ok β st ρ L) {x : Operand} {i n : Nat} (e : sv st x = .lit i n) {b : Bx} (hb : findB st.bx i = some b) : ev ρ x = .slice (some ⟨β i, 0, none⟩) n n := by
  have := k.val x; rw [e] at this
  obtain ⟨h1, h2⟩ := findB_some hb
  exact this ⟨b, h1, h2⟩
theorem Ok.at (k : Ok β st ρ L) {i : Nat} {b : Bx} (hb : findB st.bx i = some b) : ∃ c, L (β i) = some (.cells c b.ty (0, 0)) ∧ Known c b.cells := by
  obtain ⟨h1, rfl⟩ := findB_some hb
  exact k.boxes _ h1
theorem Ok.at' (k : Ok β st ρ L) {i : Nat} {b : Bx} (hb : findB st.bx i = some b) : ∃ c, L (β i) = some (.cells c b.ty (0, 0)) ∧ Known c b.cells := by
  obtain ⟨h1, rfl⟩ := findB_some hb
  exact k.boxes _ h1
theorem valOf_ok (k : Ok β st ρ L) {x : Operand} {w : Value} (e : valOf? (sv st x) = some w) : ev ρ x = w := by
  have := k.val x
  unfold valOf? at e
  split at e <;> rename_i q <;> first | (rw [q] at this; cases e; exact this) | cases e
theorem valsOf_ok (k : Ok β st ρ L) : ∀ {l : List Operand} {vl : List Value}, valsOf st l = some vl → l.map (ev ρ) = vl := by
  intro l
  induction l with
  | nil => intro vl e; cases e; rfl
  | cons x r ih =>
    intro vl e
    simp only [valsOf] at e
    split at e
    · rename_i v l' h1 h2
      cases e
      rw [List.map_cons, valOf_ok k h1, ih h2]
    · cases e
theorem partsOf_ok (k : Ok β st ρ L) : ∀ {l : List (Nat × Operand)} {vl : List (Nat × Value)}, partsOf st l = some vl → (l.map fun p => (p.1, ev ρ p.2)) = vl := by
  intro l
  induction l with
  | nil => intro vl e; cases e; rfl
  | cons x r ih =>
    intro vl e
    obtain ⟨i, x⟩ := x
    simp only [partsOf] at e
    split at e
    · rename_i v l' h1 h2
      cases e
      rw [List.map_cons, ih h2]
      simp only [valOf_ok k h1]
    · cases e
theorem spec_some : ∀ {l : List (Spec P)} {f : FuncId} {s : Spec P}, spec l f = some s → s.f = f := by
  intro l
  induction l with
  | nil => intro f s h; cases h
  | cons x r ih =>
    intro f s h
    simp only [spec] at h
    cases hb : Nat.beq x.f f <;> rw [hb] at h
    · exact ih h
    · cases h; rwa [Nat.beq_eq] at hb
theorem decs_ok (k : Ok β st ρ L) : ∀ {A : List Ty} {l : List Operand} {a : Den A}, decs A (svsOf st l) = some a → l.map (ev ρ) = valsD A a := by
  have one : ∀ {τ : Ty} {x : Operand} {a : τ.T}, τ.dec (sv st x) = some a → ev ρ x = τ.val a := fun {τ x a} e => by
    have h1 := τ.law _ _ e
    have h2 := k.val x
    revert h1 h2
    cases sv st x <;> intro h1 h2 <;> first | (exact h2.trans (Eq.symm h1)) | exact h1.elim
  intro A
  induction A with
  | nil =>
    intro l a e
    cases l with
    | nil => rfl
    | cons => cases e
  | cons t r ih =>
    intro l a e
    cases r with
    | nil =>
      match l, e with
      | [x], e => show [ev ρ x] = [t.val a]; rw [one e]
      | x :: y :: r, e => cases e
    | cons u r =>
      match l, e with
      | x :: xs, e =>
        have e : (match t.dec (sv st x), decs (u :: r) (svsOf st xs) with | some p, some q => some (p, q) | _, _ => none) = some a := e
        split at e
        · rename_i p q h1 h2
          cases e
          rw [List.map_cons, one h1, ih h2]; rfl
        · cases e

variable {d : Option Tmp} {ty : TypeId} {ps : String} {af : Array Edge} {gd : Option (Nat × Bool)}
theorem mv_ok {o : Oper} {x : Operand} (k : Ok β st ρ L) (y : YE P o ρ (ev ρ x)) : EffOk P o β st ρ L (mv (sv st x)) := by
  have := k.val x
  unfold mv
  split
  · trivial
  · exact ⟨_, this, y⟩
theorem tyOk_spec {t : TypeId} {τ : Ty} (h : tyOk P t τ = true) : ∃ td, P.underlying t = some td ∧ ((aggB td = false ∧ τ.agg = false) ∨ ∃ ti, P.info? t = some ti ∧ aggB td = true ∧ τ.agg = true ∧ ti.size = τ.n) := by
  unfold tyOk at h
  split at h
  · rename_i td ti h1 h2
    refine ⟨td, h1, ?_⟩
    split at h
    · rename_i ha
      rw [Bool.and_eq_true, Nat.beq_eq] at h
      exact .inr ⟨ti, h2, h.1, ha, h.2⟩
    · rename_i ha
      exact .inl ⟨by simpa using h, ha⟩
  · cases h
theorem oLoad (k : Ok β st ρ L) {t : TypeId} {x : Operand} : EffOk P ⟨d, .load t x, ty, ps, af, gd⟩ β st ρ L (eLoad P X st t x) := by
  unfold eLoad
  split
  · rename_i i off hx
    split
    · rename_i e td ti h1 h2 h3
      obtain ⟨c, hc, kn⟩ := k.at h1
      have hv := k.box hx h1
      split
      · rename_i ha
        split
        · rename_i l hl
          exact ⟨_, rfl, r_loadA hv hc h2 ha h3 (grabO_grab kn hl)⟩
        · trivial
      · rename_i ha
        split
        · rename_i v hl
          exact ⟨_, rfl, r_load hv hc h2 ha (grab_one (grabO_grab kn hl))⟩
        · trivial
    · trivial
  · rename_i a hx
    have hv := k.adr hx
    split
    · rename_i τ hτ
      split
      · rename_i ho
        obtain ⟨td, hu, hor⟩ := tyOk_spec ho
        intro q h next hw hn
        have is : ∀ y, (τ.sv y).is (τ.val y) := τ.svl
        rcases hor with ⟨h1, h2⟩ | ⟨ti, hi, h1, h2, h3⟩
        · rcases τ.hc with ⟨c1, _⟩ | ⟨_, c2⟩
          · rw [h2] at c1; cases c1
          · exact v_load hw hv hu h1 τ.val c2 fun y ky => hn y _ _ ky (.inr (is y))
        · rcases τ.hc with ⟨_, c2⟩ | ⟨c1, _⟩
          · exact v_loadA hw hv hu h1 hi τ.val (fun y => ⟨(c2 y).1, by rw [(c2 y).2, h3]⟩) fun y ky => hn y _ _ ky (.inr (is y))
          · rw [h2] at c1; cases c1
      · trivial
    · trivial
  · trivial
theorem plains_ok (k : Ok β st ρ L) {y : Operand} {l : List Value} (h : plains (sv st y) = some l) : (ev ρ y).cells.toList = l ∧ l.all plainVal = true := by
  have hv := k.val y
  unfold plains at h
  split at h
  · rename_i c e
    rw [e] at hv
    cases ha : c.toList.all plainVal <;> rw [ha] at h
    · cases h
    · cases h
      rw [show ev ρ y = _ from hv]
      exact ⟨rfl, ha⟩
  · cases h
  · rename_i v h1 h2 e
    rw [e] at hv
    cases h
    rw [show ev ρ y = _ from hv]
    cases v <;> first | exact ⟨rfl, rfl⟩ | exact (h1 _ rfl).elim | exact (h2 _ rfl).elim
  · rename_i x e
    rw [e] at hv
    cases h
    rw [show ev ρ y = _ from hv, x.2.2]
    exact ⟨rfl, by simp [x.2.1]⟩
  · rename_i a e
    rw [e] at hv
    cases h
    rw [show ev ρ y = _ from hv]
    exact ⟨rfl, rfl⟩
  · cases h
theorem oStore (k : Ok β st ρ L) {t : TypeId} {x y : Operand} : EffOk P ⟨d, .store t x y, ty, ps, af, gd⟩ β st ρ L (eStore P st t x y) := by
  unfold eStore
  split
  · rename_i l ti h1 h2
    obtain ⟨hw, hp⟩ := plains_ok k h1
    split
    · rename_i hs
      rw [Nat.beq_eq] at hs
      have hs : l.length = ti.size := hs
      split
      · rename_i i off hx
        split
        · rename_i e he
          obtain ⟨c, hc, kn⟩ := k.at' he
          have hv := k.box' hx he
          split
          · rename_i hle
            have hle := Nat.le_of_ble_eq_true hle
            have hsz : (ev ρ y).cells.size = l.length := by rw [← hw, Array.length_toList]
            refine ⟨e, _, he, layO_len .., layO_known l _ c off hle kn, fun h next hn => ?_⟩
            refine b_store hv rfl hc h2 (by rw [hsz]; exact hs) (by rw [hw]; exact hp) (by rw [hsz, kn.1]; exact hle) ?_
            rw [hw]; exact hn
          · trivial
        · trivial
      · rename_i a hx
        exact fun q h next hm hn => v_store hm (k.adr hx) rfl hw h2 hs hp fun h' kk => hn () _ h' kk (.inl rfl)
      · trivial
    · trivial
  · trivial
theorem oNew (o : Oper) {t : TypeId} {c : Array Value} (hb : ∀ (h : H) (next : Post), (∀ b, L b = none → next (put ρ o.dst (.pointer (some ⟨b, 0, none⟩))) (upd L b (.cells c t (0, 0))) h) → aOp P o ρ L h next noP)
    (hm : ∀ (q : Addr → HP) (h : H) (next : Post), mNew t c q h → (∀ a h', q a h' → next (put ρ o.dst (.pointer (some a))) L h') → aOp P o ρ L h next noP) : EffOk P o β st ρ L (newE P X o.dst t c) := by
  unfold newE
  split
  · split
    · exact fun h next hn => hb h next hn
    · exact fun q h next hw hn => hm q h next hw fun a h' ka => hn a _ h' ka (.inr rfl)
  · trivial
theorem oAlloc {t : TypeId} : EffOk P ⟨d, .alloc t, ty, ps, af, gd⟩ β st ρ L (eAlloc P X d t) := by
  unfold eAlloc
  split
  · rename_i ti hi
    split
    · rename_i z hz
      exact oNew ⟨d, .alloc t, ty, ps, af, gd⟩ (fun h next hn => b_alloc hi hz rfl hn) (fun q h next hw hn => v_alloc hw hi hz rfl hn)
    · trivial
  · trivial
theorem oBox (k : Ok β st ρ L) {t : TypeId} {x : Operand} : EffOk P ⟨d, .box t x, ty, ps, af, gd⟩ β st ρ L (eBox P X st d t x) := by
  unfold eBox
  have fin : ∀ c, (ev ρ x).cells = c → EffOk P ⟨d, .box t x, ty, ps, af, gd⟩ β st ρ L (newE P X d t c) := fun c hc =>
    oNew ⟨d, .box t x, ty, ps, af, gd⟩ (fun h next hn => b_box hc hn) (fun q h next hw hn => v_box hw hc hn)
  split
  · rename_i w e; exact fin _ (by rw [k.v e])
  · rename_i w e; exact fin _ (by rw [k.pl e, w.2.2])
  · rename_i a e; exact fin _ (by rw [k.adr e]; rfl)
  · trivial
theorem oPick (k : Ok β st ρ L) {c x y : Operand} : EffOk P ⟨d, .pick c x y, ty, ps, af, gd⟩ β st ρ L (ePick st c x y) := by
  unfold ePick
  split
  · rename_i b e
    have hc := k.v e
    cases b
    · exact mv_ok k (y_pickF hc rfl rfl)
    · exact mv_ok k (y_pickT hc rfl rfl)
  · trivial
theorem y_nil' {x : Operand} {a : Addr} (hx : ev ρ x = .pointer (some a)) : YE P ⟨d, .nilCheck x, ty, ps, af, gd⟩ ρ (ev ρ x) := by rw [hx]; exact y_nil hx
theorem oNil (k : Ok β st ρ L) {x : Operand} : EffOk P ⟨d, .nilCheck x, ty, ps, af, gd⟩ β st ρ L (eNil st x) := by
  unfold eNil
  split
  · rename_i a e; exact ⟨_, rfl, y_nil (k.adr e)⟩
  · rename_i p e
    rintro q h ⟨a, hp, ka⟩
    exact ⟨a, _, rfl, y_nilP (k.v e) hp, ka⟩
  · trivial
theorem addr_add (b o i : Nat) : (⟨b, o, none⟩ : Addr).add i = ⟨b, o + i, none⟩ := by
  unfold Addr.add; split
  · rename_i e; subst e; rfl
  · rfl
end oks
end Go.Proofs.Ytlnlmideghepnaa.K
