/- Rules by which a printed proof walks through code: joins, loops, the function's frame; boxes; operations that only compute. -/
import Derived.Test.YtlnlmideghepnaaK3
namespace Go.Proofs.Ytlnlmideghepnaa.K
open Go

section agree
variable {P : Program} {n : Nat} {C : PPost}
def memB (D : List Nat) (t : Nat) : Bool := D.any fun d => Nat.beq t d
def Agree (D : Nat → Bool) (ρ ρ' : Env) : Prop := ∀ t, D t = false → ρ' t = ρ t
theorem Agree.refl (D : Nat → Bool) (ρ : Env) : Agree D ρ ρ := fun _ _ => rfl
theorem Agree.trans {D : Nat → Bool} {a b c : Env} (x : Agree D a b) (y : Agree D b c) : Agree D a c := fun t h => (y t h).trans (x t h)
def dstIn (D : Nat → Bool) (o : Oper) : Bool := match o.dst with | some d => D d | none => true
theorem agree_put {D : Nat → Bool} {o : Oper} (hd : dstIn D o = true) (ρ : Env) (v : Value) : Agree D ρ (put ρ o.dst v) := fun t ht => by
  unfold dstIn at hd
  cases ho : o.dst with
  | none => rfl
  | some d =>
    simp only [ho] at hd
    have b : Nat.beq t d = false := by
      rw [← Bool.not_eq_true, Nat.beq_eq]; exact fun e => by subst e; rw [hd] at ht; cases ht
    simp only [put, b, cond_false]
theorem aOp_agree {D : Nat → Bool} {o : Oper} (hd : dstIn D o = true) {ρ : Env} {L h : H} {next : Post} (x : aOp P o ρ L h next C) :
    aOp P o ρ L h (fun ρ' L' h' => Agree D ρ ρ' ∧ next ρ' L' h') C :=
  aOp_env rfl (fun nx hf fl u => u.imp id fun ⟨L', h', e, ap, ag, m⟩ => ⟨L', h', e, ap, ag, by
    cases nx <;> first
      | exact ⟨agree_put hd _ _, m⟩
      | exact m
      | exact m.mono (fun v h'' k a => ⟨agree_put hd _ _, k a⟩) (fun _ _ k => k)⟩) x
theorem aOpI_agree {D : Nat → Bool} {ops : Array Oper} (hd : ops.toList.all (dstIn D) = true) {i : Nat} {ρ : Env} {L h : H} {next : Post} (x : aOpI P ops C i next ρ L h) :
    aOpI P ops C i (fun ρ' L' h' => Agree D ρ ρ' ∧ next ρ' L' h') ρ L h := by
  unfold aOpI at *
  cases ho : ops[i]? with
  | none => simp only [ho] at x ⊢; exact ⟨.refl _ _, x⟩
  | some o =>
    simp only [ho] at x ⊢
    have hdo : dstIn D o = true := List.all_eq_true.1 hd o (Array.mem_toList_iff.2 (Array.mem_of_getElem? ho))
    split
    · rename_i hw; rw [if_pos hw] at x; exact aOp_agree hdo x
    · rename_i hw; rw [if_neg hw] at x; exact ⟨agree_put hdo _ _, x⟩
theorem aOps_agree {D : Nat → Bool} {ops : Array Oper} (hd : ops.toList.all (dstIn D) = true) {next : Post} : ∀ (l : List Nat) (ρ : Env) (L h : H), aOps P ops next C l ρ L h →
    aOps P ops (fun ρ' L' h' => Agree D ρ ρ' ∧ next ρ' L' h') C l ρ L h := by
  intro l
  induction l with
  | nil => exact fun ρ L h x => ⟨.refl _ _, x⟩
  | cons i rest ih =>
    intro ρ L h x
    refine aOpI_mono (fun ρ' L' h' k => ?_) (aOpI_agree hd (i := i) x)
    have := ih ρ' L' h' k.2
    have mono : ∀ (l : List Nat) (T T' : Post), (∀ ρ L h, T ρ L h → T' ρ L h) → ∀ ρ L h, aOps P ops T C l ρ L h → aOps P ops T' C l ρ L h := by
      intro l
      induction l with
      | nil => exact fun T T' hT ρ L h x => hT _ _ _ x
      | cons i r ih => exact fun T T' hT ρ L h x => aOpI_mono (fun ρ L h k => ih T T' hT ρ L h k) x
    exact mono rest _ _ (fun ρ'' L'' h'' k' => ⟨k.1.trans k'.1, k'.2⟩) _ _ _ this
theorem aAny_mono {ops : Array Oper} {T T' : Post} (hT : ∀ ρ L h, T ρ L h → T' ρ L h) : ∀ (fuel : Nat) (listed : Array Bool) (ρ : Env) (L h : H), aAny P ops T C fuel listed ρ L h → aAny P ops T' C fuel listed ρ L h := by
  intro fuel
  induction fuel with
  | zero => exact fun l ρ L h x => ⟨x.1, hT _ _ _ x.2⟩
  | succ f ih => exact fun l ρ L h x => ⟨fun e => hT _ _ _ (x.1 e), fun i hi => aOpI_mono (fun ρ L h k => ih _ ρ L h k) (x.2 i hi)⟩
theorem aAny_agree {D : Nat → Bool} {ops : Array Oper} (hd : ops.toList.all (dstIn D) = true) {next : Post} : ∀ (fuel : Nat) (listed : Array Bool) (ρ : Env) (L h : H), aAny P ops next C fuel listed ρ L h →
    aAny P ops (fun ρ' L' h' => Agree D ρ ρ' ∧ next ρ' L' h') C fuel listed ρ L h := by
  intro fuel
  induction fuel with
  | zero => exact fun l ρ L h x => ⟨x.1, .refl _ _, x.2⟩
  | succ f ih =>
    exact fun l ρ L h x => ⟨fun e => ⟨.refl _ _, x.1 e⟩, fun i hi => aOpI_mono (fun ρ' L' h' k => aAny_mono (fun ρ'' L'' h'' k' => ⟨k.1.trans k'.1, k'.2⟩) _ _ _ _ _ (ih _ ρ' L' h' k.2)) (aOpI_agree hd (x.2 i hi))⟩

def dstsIn (D : Nat → Bool) : Code → Bool
  | .region _ ops _ => ops.toList.all (dstIn D)
  | .seq x y => dstsIn D x && dstsIn D y
  | .cond _ x y => dstsIn D x && dstsIn D y
  | .block _ x => dstsIn D x
  | .loop x => dstsIn D x
  | .scope x => dstsIn D x
  | _ => true
theorem iter_mono {T : (Exit → Post) → Post} (hT : ∀ (Q Q' : Exit → Post), (∀ e ρ L h, Q e ρ L h → Q' e ρ L h) → ∀ ρ L h, T Q ρ L h → T Q' ρ L h) {Q Q' : Exit → Post} (hQ : ∀ e ρ L h, Q e ρ L h → Q' e ρ L h) :
    ∀ (N : Nat) (ρ : Env) (L h : H), iter T Q N ρ L h → iter T Q' N ρ L h := by
  intro N
  induction N with
  | zero => exact fun ρ L h x => x
  | succ N ih => exact fun ρ L h x => hT _ _ (thenQ_mono (fun ρ L h k => drop_mono ih k) hQ) ρ L h x
theorem aOps_mono {ops : Array Oper} : ∀ (l : List Nat) (T T' : Post), (∀ ρ L h, T ρ L h → T' ρ L h) → ∀ ρ L h, aOps P ops T C l ρ L h → aOps P ops T' C l ρ L h := by
  intro l
  induction l with
  | nil => exact fun T T' hT ρ L h x => hT _ _ _ x
  | cons i r ih => exact fun T T' hT ρ L h x => aOpI_mono (fun ρ L h k => ih T T' hT ρ L h k) x
theorem inQ_mono {id : Nat} {Q Q' : Exit → Post} (hQ : ∀ e ρ L h, Q e ρ L h → Q' e ρ L h) : ∀ e ρ L h, inQ id Q e ρ L h → inQ id Q' e ρ L h := by
  intro e ρ L h x
  cases e with
  | exit i =>
    simp only [inQ] at x ⊢
    cases hb : Nat.beq i id <;> rw [hb] at x
    · exact hQ _ _ _ _ x
    · exact hQ _ _ _ _ x
  | _ => exact hQ _ _ _ _ x
theorem noG_mono {Q Q' : Exit → Post} (hQ : ∀ e ρ L h, Q e ρ L h → Q' e ρ L h) : ∀ e ρ L h, noG Q e ρ L h → noG Q' e ρ L h := by
  intro e ρ L h x
  cases e with
  | goto l => exact x
  | _ => exact hQ _ _ _ _ x
theorem cwp_mono : ∀ (c : Code) (Q Q' : Exit → Post), (∀ e ρ L h, Q e ρ L h → Q' e ρ L h) → ∀ ρ L h, cwp P n C c Q ρ L h → cwp P n C c Q' ρ L h := by
  intro c
  induction c with
  | skip => exact fun Q Q' hQ ρ L h x => hQ _ _ _ _ x
  | region id ops draw =>
    intro Q Q' hQ ρ L h x
    cases draw with
    | false => exact ⟨x.1, aOps_mono _ _ _ (fun ρ L h k => hQ _ _ _ _ k) _ _ _ x.2⟩
    | true => exact ⟨x.1, x.2.1, fun bd ap => aAny_mono (fun ρ L h k => hQ _ _ _ _ k) _ _ _ _ _ (x.2.2 bd ap)⟩
  | seq x y ihx ihy => exact fun Q Q' hQ ρ L h k => ihx _ _ (thenQ_mono (fun ρ L h k => drop_mono (fun ρ L h k => ihy Q Q' hQ ρ L h k) k) hQ) ρ L h k
  | cond c x y ihx ihy => exact fun Q Q' hQ ρ L h ⟨t, hc, ht, hf⟩ => ⟨t, hc, fun e => ihx Q Q' hQ ρ L h (ht e), fun e => ihy Q Q' hQ ρ L h (hf e)⟩
  | block id x ih => exact fun Q Q' hQ ρ L h k => ih _ _ (inQ_mono hQ) ρ L h k
  | loop x ih => exact fun Q Q' hQ ρ L h ⟨N, k⟩ => ⟨N, iter_mono (fun Q Q' hQ ρ L h k => ih Q Q' hQ ρ L h k) hQ N ρ L h k⟩
  | scope x ih => exact fun Q Q' hQ ρ L h k => ih _ _ (noG_mono hQ) ρ L h k
  | exit id => exact fun Q Q' hQ ρ L h x => hQ _ _ _ _ x
  | ret => exact fun Q Q' hQ ρ L h x => hQ _ _ _ _ x
  | label l => exact fun Q Q' hQ ρ L h x => hQ _ _ _ _ x
  | _ => exact fun Q Q' hQ ρ L h x => x
/-- Code turns no temporary but those that it names. -/
theorem cwp_agree {D : Nat → Bool} : ∀ (c : Code), dstsIn D c = true → ∀ (Q : Exit → Post) ρ L h, cwp P n C c Q ρ L h → cwp P n C c (fun e ρ' L' h' => Agree D ρ ρ' ∧ Q e ρ' L' h') ρ L h := by
  intro c
  induction c with
  | skip => exact fun _ Q ρ L h x => ⟨.refl _ _, x⟩
  | region id ops draw =>
    intro hd Q ρ L h x
    cases draw with
    | false => exact ⟨x.1, aOps_agree hd _ _ _ _ x.2⟩
    | true => exact ⟨x.1, x.2.1, fun bd ap => aAny_agree hd _ _ _ _ _ (x.2.2 bd ap)⟩
  | seq x y ihx ihy =>
    intro hd Q ρ L h k
    simp only [dstsIn, Bool.and_eq_true] at hd
    refine cwp_mono x _ _ (fun e ρ' L' h' k => ?_) ρ L h (ihx hd.1 _ ρ L h k)
    cases e with
    | normal =>
      obtain ⟨ag, L0, gr, q⟩ := k
      exact ⟨L0, gr, cwp_mono y (fun e ρ3 L3 h3 => Agree D ρ' ρ3 ∧ Q e ρ3 L3 h3) _ (fun e ρ3 L3 h3 q => ⟨ag.trans q.1, q.2⟩) _ _ _ (ihy hd.2 Q ρ' L0 h' q)⟩
    | _ => exact k
  | cond c x y ihx ihy =>
    intro hd Q ρ L h k
    simp only [dstsIn, Bool.and_eq_true] at hd
    obtain ⟨t, hc, ht, hf⟩ := k
    exact ⟨t, hc, fun e => ihx hd.1 Q ρ L h (ht e), fun e => ihy hd.2 Q ρ L h (hf e)⟩
  | block id x ih =>
    intro hd Q ρ L h k
    refine cwp_mono x _ _ (fun e ρ' L' h' k => ?_) ρ L h (ih hd _ ρ L h k)
    cases e with
    | exit i =>
      simp only [inQ] at k ⊢
      cases hb : Nat.beq i id <;> rw [hb] at k <;> exact k
    | _ => exact k
  | loop x ih =>
    intro hd Q ρ L h k
    obtain ⟨N, k⟩ := k
    refine ⟨N, ?_⟩
    have key : ∀ (N : Nat) (ρ0 ρ : Env) (L h : H), Agree D ρ0 ρ → iter (fun Q => cwp P n C x Q) Q N ρ L h → iter (fun Q => cwp P n C x Q) (fun e ρ' L' h' => Agree D ρ0 ρ' ∧ Q e ρ' L' h') N ρ L h := by
      intro N
      induction N with
      | zero => exact fun ρ0 ρ L h _ k => k
      | succ N ihN =>
        intro ρ0 ρ L h ag k
        refine cwp_mono x _ _ (fun e ρ' L' h' k => ?_) ρ L h (ih hd _ ρ L h k)
        cases e with
        | normal =>
          obtain ⟨ag', L0, gr, q⟩ := k
          exact ⟨L0, gr, ihN ρ0 ρ' L0 h' (ag.trans ag') q⟩
        | _ => exact ⟨ag.trans k.1, k.2⟩
    exact key N ρ ρ L h (.refl _ _) k
  | scope x ih =>
    intro hd Q ρ L h k
    refine cwp_mono x _ _ (fun e ρ' L' h' k => ?_) ρ L h (ih hd _ ρ L h k)
    cases e with
    | goto l => exact k.2
    | _ => exact k
  | exit id => exact fun _ Q ρ L h x => ⟨.refl _ _, x⟩
  | ret => exact fun _ Q ρ L h x => ⟨.refl _ _, x⟩
  | label l => exact fun _ Q ρ L h x => ⟨.refl _ _, x⟩
  | _ => exact fun _ Q ρ L h x => x
end agree

def loopF {σ : Type} (F : (σ → H → Prop) → σ → H → Prop) : Nat → σ → H → Prop
  | 0 => fun _ _ => False
  | N + 1 => F (loopF F N)
/-- A loop of the printed functions. -/
def mLoop {σ : Type} (F : (σ → H → Prop) → σ → H → Prop) (s : σ) : H → Prop := fun h => ∃ N, loopF F N s h
/-- Where ways of a printed function meet. -/
def mJoin {σ : Type} (rest : σ → H → Prop) (body : (σ → H → Prop) → H → Prop) : H → Prop := body rest
/-- Two orders: both must do. -/
def mBoth (A B : H → Prop) : H → Prop := fun h => A h ∧ B h

/-! Operations that only compute. -/
def iAdd (k : IntKind) (a b : Int) : Int := k.wrap (a + b)
def iSub (k : IntKind) (a b : Int) : Int := k.wrap (a - b)
def iMul (k : IntKind) (a b : Int) : Int := k.wrap (a * b)
def iAnd (k : IntKind) (a b : Int) : Int := k.wrap (BitVec.ofInt k.bits a &&& BitVec.ofInt k.bits b).toNat
def iOr (k : IntKind) (a b : Int) : Int := k.wrap (BitVec.ofInt k.bits a ||| BitVec.ofInt k.bits b).toNat
def iXor (k : IntKind) (a b : Int) : Int := k.wrap (BitVec.ofInt k.bits a ^^^ BitVec.ofInt k.bits b).toNat
def iAndNot (k : IntKind) (a b : Int) : Int := k.wrap (BitVec.ofInt k.bits a &&& ~~~BitVec.ofInt k.bits b).toNat
def iNot (k : IntKind) (a : Int) : Int := k.wrap (BitVec.ofInt k.bits (if k.signed then -1 else k.max) ^^^ BitVec.ofInt k.bits a).toNat
def iShl (k : IntKind) (a b : Int) : Int := k.wrap (a * 2 ^ (min b.toNat k.bits))
def iShr (k : IntKind) (a b : Int) : Int := a.fdiv (2 ^ (min b.toNat k.bits))
def iQuo (k : IntKind) (a b : Int) : Int := k.wrap (a.tdiv b)
def iRem (_k : IntKind) (a b : Int) : Int := a.tmod b
def iMin (a b : Int) : Int := if b < a then b else a
def iMax (a b : Int) : Int := if b > a then b else a
section pure
variable {P : Program}
/-- 's' comes to 'v' and turns nothing. -/
def QV {α : Type} (P : Program) (s : Sem α) (v : α) : Prop := ∀ (h : H) (K : α → H → Prop) (E : Value → H → Prop), K v h → qwp P s h K E
theorem QV.pure {α : Type} (v : α) : QV P (pure v : Sem α) v := fun _ _ _ k => k
theorem QV.bind {α β : Type} {s : Sem α} {f : α → Sem β} {a : α} {b : β} (x : QV P s a) (y : QV P (f a) b) : QV P (s >>= f) b := fun h _ _ k => (qwp_bind s f h).2 (x h _ _ (y h _ _ k))
theorem QV.program : QV P program P := fun _ _ _ k => k
theorem QV.underlying {t : TypeId} {d : TypeDesc} (e : P.underlying t = some d) : QV P (underlying t) d := QV.bind QV.program (by rw [e]; exact QV.pure d)
theorem QV.typeInfo {t : TypeId} {i : TypeInfo} (e : P.info? t = some i) : QV P (typeInfo t) i := QV.bind QV.program (by rw [e]; exact QV.pure i)
theorem QV.sizeOf {t : TypeId} {i : TypeInfo} (e : P.info? t = some i) : QV P (sizeOf t) i.size := QV.bind (QV.typeInfo e) (QV.pure _)
theorem QV.zero {t : TypeId} {i : TypeInfo} {z : Value} (e : P.info? t = some i) (hz : i.zero = some z) : QV P (zeroValue t) z := QV.bind (QV.typeInfo e) (by rw [hz]; exact QV.pure z)
def aggB : TypeDesc → Bool
  | .struct _ | .array _ _ => true
  | _ => false
theorem QV.isAgg {t : TypeId} {d : TypeDesc} (e : P.underlying t = some d) : QV P (isAgg t) (aggB d) := QV.bind (QV.underlying e) (by cases d <;> exact QV.pure _)

/-- The operation comes to 'v' whatever memory holds. -/
def YE (P : Program) (o : Oper) (ρ : Env) (v : Value) : Prop := ∀ (L' h' : H) (next : Post) (C : PPost), next (put ρ o.dst v) L' h' → aOp P o ρ L' h' next C
/-- .. in all memory that has the boxes 'L'. -/
def YR (P : Program) (o : Oper) (ρ : Env) (L : H) (v : Value) : Prop := ∀ (L' h' : H) (next : Post) (C : PPost), Grows L L' → next (put ρ o.dst v) L' h' → aOp P o ρ L' h' next C
theorem YE.of {o : Oper} {ρ : Env} {v : Value} (hq : quietOp P o.op = true) (x : QV P (execOp (ev ρ) o) (.value v)) : YE P o ρ v := fun L' h' next C k => by
  rw [aOp_quiet hq]
  exact fun _ => x _ _ _ ⟨trivial, L', h', rfl, id, .refl _ _, k⟩
theorem YE.val {o : Oper} {ρ : Env} {v : Value} {s : Sem Value} (hq : quietOp P o.op = true) (he : execOp (ev ρ) o = (do pure (.value (← s)) : Sem Next)) (x : QV P s v) : YE P o ρ v :=
  YE.of hq (by rw [he]; exact QV.bind x (QV.pure _))
variable {ρ : Env} {d : Option Tmp} {ty : TypeId} {ps : String} {af : Array Edge} {gd : Option (Nat × Bool)}
theorem yv {o : Oper} {ρ : Env} {v' v : Value} (x : YE P o ρ v') (e : v' = v) : YE P o ρ v := e ▸ x
theorem y_move {x : Operand} {v : Value} (hx : ev ρ x = v) : YE P ⟨d, .move x, ty, ps, af, gd⟩ ρ v := by subst hx; exact YE.of rfl (QV.pure _)
theorem y_assign {x : Operand} {v : Value} (hx : ev ρ x = v) : YE P ⟨d, .assign x, ty, ps, af, gd⟩ ρ v := by subst hx; exact YE.of rfl (QV.pure _)
theorem y_pick {c x y : Operand} {b : Bool} (hc : ev ρ c = .bool b) : YE P ⟨d, .pick c x y, ty, ps, af, gd⟩ ρ (bif b then ev ρ x else ev ρ y) := by
  refine YE.of rfl ?_
  show QV P (do pure (Next.value (if ← asBool (ev ρ c) then ev ρ x else ev ρ y))) _
  rw [hc]
  refine QV.bind (a := b) (QV.pure b) ?_
  cases b <;> exact QV.pure _
theorem y_pickT {c x y : Operand} {b : Bool} (hc : ev ρ c = .bool b) (e : b = true) {v : Value} (hx : ev ρ x = v) : YE P ⟨d, .pick c x y, ty, ps, af, gd⟩ ρ v := by subst e; subst hx; exact y_pick hc
theorem y_pickF {c x y : Operand} {b : Bool} (hc : ev ρ c = .bool b) (e : b = false) {v : Value} (hx : ev ρ y = v) : YE P ⟨d, .pick c x y, ty, ps, af, gd⟩ ρ v := by subst e; subst hx; exact y_pick hc
theorem y_pickB {c x y : Operand} {b p q : Bool} (hc : ev ρ c = .bool b) (hx : ev ρ x = .bool p) (hy : ev ρ y = .bool q) : YE P ⟨d, .pick c x y, ty, ps, af, gd⟩ ρ (.bool (bif b then p else q)) := by
  have := y_pick (P := P) (d := d) (ty := ty) (ps := ps) (af := af) (gd := gd) (x := x) (y := y) hc
  rw [hx, hy] at this
  cases b <;> exact this
theorem y_nil {x : Operand} {a : Addr} (hx : ev ρ x = .pointer (some a)) : YE P ⟨d, .nilCheck x, ty, ps, af, gd⟩ ρ (.pointer (some a)) := by
  refine YE.of rfl ?_
  simp only [execOp, hx]
  exact QV.pure _
theorem y_nilP {x : Operand} {p : Option Addr} {a : Addr} (hx : ev ρ x = .pointer p) (hp : p = some a) : YE P ⟨d, .nilCheck x, ty, ps, af, gd⟩ ρ (.pointer (some a)) := y_nil (hx.trans (by rw [hp]))
theorem y_not {x : Operand} {t : TypeId} {b : Bool} (hx : ev ρ x = .bool b) : YE P ⟨d, .unOp .not t x, ty, ps, af, gd⟩ ρ (.bool !b) := by
  refine YE.val rfl rfl ?_
  show QV P (Op.unary .not (ev ρ x)) _
  rw [hx]; exact QV.pure _
theorem y_neg {x : Operand} {t : TypeId} {k : IntKind} {a : Int} (hx : ev ρ x = .int k a) : YE P ⟨d, .unOp .neg t x, ty, ps, af, gd⟩ ρ (.int k (iSub k 0 a)) := by
  refine YE.val rfl rfl ?_
  show QV P (Op.unary .neg (ev ρ x)) _
  rw [hx]; exact QV.pure _
theorem y_xor1 {x : Operand} {t : TypeId} {k : IntKind} {a : Int} (hx : ev ρ x = .int k a) :
    YE P ⟨d, .unOp .xor t x, ty, ps, af, gd⟩ ρ (.int k (iNot k a)) := by
  refine YE.val rfl rfl ?_
  show QV P (Op.unary .xor (ev ρ x)) _
  rw [hx]; exact QV.pure _
/-- Two integers of one kind, each operation but the division and the shift. -/
def binI (op : BinOp) (k : IntKind) (a b : Int) : Option Value :=
  match op with
  | .add => some (.int k (iAdd k a b))
  | .sub => some (.int k (iSub k a b))
  | .mul => some (.int k (iMul k a b))
  | .and => some (.int k (iAnd k a b))
  | .or => some (.int k (iOr k a b))
  | .xor => some (.int k (iXor k a b))
  | .andNot => some (.int k (iAndNot k a b))
  | .eql => some (.bool (decide (a = b)))
  | .neq => some (.bool (!decide (a = b)))
  | .lss => some (.bool (decide (a < b)))
  | .leq => some (.bool (decide (a ≤ b)))
  | .gtr => some (.bool (decide (b < a)))
  | .geq => some (.bool (decide (b ≤ a)))
  | _ => none
theorem eqGuard_int {op : BinOp} {t : TypeId} {x y : Operand} {k : IntKind} {a : Int} {v : Value} : QV P (eqGuard op t x y (.int k a) v) () := by
  cases op <;> cases v <;> exact QV.pure _
theorem y_bin {op : BinOp} {t u : TypeId} {x y : Operand} {k : IntKind} {a b : Int} {v : Value} (hx : ev ρ x = .int k a) (hy : ev ρ y = .int k b) (hv : binI op k a b = some v) :
    YE P ⟨d, .binOp op t x y u, ty, ps, af, gd⟩ ρ v := by
  refine YE.val rfl rfl ?_
  show QV P (do eqGuard op t x y (ev ρ x) (ev ρ y); binOp op t (ev ρ x) (ev ρ y)) v
  rw [hx, hy]
  refine QV.bind eqGuard_int ?_
  unfold binI at hv
  cases op <;> cases hv <;> first | exact (by unfold binOp; simp only [ne_eq, not_true_eq_false, if_false]; exact QV.pure _) | skip
end pure
end Go.Proofs.Ytlnlmideghepnaa.K
