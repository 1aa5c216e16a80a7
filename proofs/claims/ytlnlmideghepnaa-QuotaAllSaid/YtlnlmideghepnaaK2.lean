/- Code over a known part of memory: 'aCode' (structured code), 'ACall' (a call of a function), their soundness against the model's own 'Calls'. The state: the temporaries 'ρ', the function's own boxes 'L', the known memory 'h'. -/
import Derived.Scope
import Derived.Test.YtlnlmideghepnaaK1
import Derived.Orders
namespace Go.Proofs.Ytlnlmideghepnaa.K
open Go

abbrev Env := Nat → Value
def ev (ρ : Env) : Operand → Value
  | .tmp t => ρ t
  | .const v => v
  | .global g => .pointer (some ⟨g, 0, none⟩)
  | .func f => .func (.func f) #[] #[]
def put (ρ : Env) (d : Option Tmp) (v : Value) : Env :=
  match d with
  | some d => fun t => bif Nat.beq t d then v else ρ t
  | none => ρ
structure EnvOf (n : Nat) (a : Act) (ρ : Env) : Prop where
  size : a.tmps.size = n
  defers : a.defers = []
  val : ∀ t, a.tmps.getD t undef = ρ t
theorem EnvOf.eval {n : Nat} {a : Act} {ρ : Env} (e : EnvOf n a ρ) : a.eval = ev ρ := by
  funext x; cases x <;> first | exact e.val _ | rfl
theorem EnvOf.put {n : Nat} {a : Act} {ρ : Env} (e : EnvOf n a ρ) (d : Option Tmp) (v : Value) (hd : ∀ t, d = some t → t < n) : EnvOf n (a.put d v) (K.put ρ d v) := by
  cases d with
  | none => exact e
  | some d =>
    have hlt : d < a.tmps.size := by rw [e.size]; exact hd d rfl
    refine ⟨by simp [Act.put, e.size], e.defers, fun t => ?_⟩
    simp only [Act.put, K.put]
    by_cases ht : t = d
    · subst ht; simp [hlt, Nat.beq_refl]
    · have hb : Nat.beq t d = false := by rw [← Bool.not_eq_true, Nat.beq_eq]; exact ht
      rw [hb, cond_false, ← e.val t]
      simp [Array.getElem?_setIfInBounds_ne (Ne.symm ht)]
def yld (ops : Array Oper) (ρ : Env) (j : Nat) : Option Bool :=
  match (ops[j]?).bind (·.dst) with
  | some d => match ρ d with | .bool b => some b | _ => none
  | none => none
theorem EnvOf.yielded {n : Nat} {a : Act} {ρ : Env} (e : EnvOf n a ρ) (ops : Array Oper) : yielded ops a.tmps = yld ops ρ := by
  funext j
  unfold Go.yielded yld
  cases (ops[j]?).bind (·.dst) with
  | none => rfl
  | some d =>
    have := e.val d
    simp only [Option.bind_some]
    cases h : a.tmps[d]? with
    | none => simp [Array.getD_eq_getD_getElem?, h] at this; rw [← this]; rfl
    | some v => simp [Array.getD_eq_getD_getElem?, h] at this; rw [← this]; cases v <;> rfl

/-- The function's own boxes beside the known memory. -/
def un (L h : H) : H := fun b => match L b with | some o => some o | none => h b
theorem un_left {L h : H} {b : Nat} {o : Obj} (e : L b = some o) : un L h b = some o := by simp [un, e]
theorem un_right {L h : H} {b : Nat} (e : L b = none) : un L h b = h b := by simp [un, e]
theorem un_none {L h : H} {b : Nat} : un L h b = none ↔ L b = none ∧ h b = none := by
  unfold un; cases L b <;> simp
def Grows (L L' : H) : Prop := ∀ b o, L b = some o → L' b = some o
def Covers (L L' : H) : Prop := ∀ b, L b ≠ none → L' b ≠ none
theorem Grows.refl (L : H) : Grows L L := fun _ _ e => e
theorem Grows.trans {a b c : H} (x : Grows a b) (y : Grows b c) : Grows a c := fun _ _ e => y _ _ (x _ _ e)
theorem Grows.covers {L L' : H} (g : Grows L L') : Covers L L' := fun b e => by
  cases h : L b with
  | none => exact absurd h e
  | some o => rw [g b o h]; simp
structure Sat3 (w : World) (L h g : H) : Prop where
  sat : Sat2 w (un L h) g
  ap : Apart L h
theorem Sat3.mem {w : World} {L h g : H} (s : Sat3 w L h g) : Sat2 w h (un L g) := by
  refine ⟨fun b o e => s.sat.hs b o ?_, fun b o e => ?_, fun b => ?_⟩
  · rcases s.ap b with k | k
    · rw [un_right k]; exact e
    · rw [k] at e; cases e
  · unfold un at e
    split at e
    · rename_i o' ho; cases e; exact s.sat.hs b _ (un_left ho)
    · exact s.sat.gs b o e
  · cases hL : L b with
    | some o =>
      rcases s.ap b with k | k
      · rw [hL] at k; cases k
      · exact .inl k
    | none =>
      rw [un_right hL]
      rcases s.sat.ap b with k | k
      · exact .inl (un_none.1 k).2
      · exact .inr k
theorem Sat3.back {w w' : World} {L h h' g : H} (s : Sat3 w L h g) (s' : Sat2 w' h' (un L g)) : Sat3 w' L h' g ∧ Apart L h' := by
  have ap : Apart L h' := fun b => by
    rcases s'.ap b with k | k
    · exact .inr k
    · exact .inl (un_none.1 k).1
  refine ⟨⟨⟨fun b o e => ?_, fun b o e => ?_, fun b => ?_⟩, ap⟩, ap⟩
  · unfold un at e
    split at e
    · rename_i o' ho; cases e; exact s'.gs b _ (un_left ho)
    · exact s'.hs b o e
  · cases hL : L b with
    | none => exact s'.gs b o (by rw [un_right hL]; exact e)
    | some x =>
      rcases s.sat.ap b with k | k
      · rw [un_left hL] at k; cases k
      · rw [k] at e; cases e
  · cases hL : L b with
    | none =>
      rcases s'.ap b with k | k
      · exact .inl (by rw [un_right hL]; exact k)
      · rw [un_right hL] at k; exact .inr k
    | some x =>
      rcases s.sat.ap b with k | k
      · rw [un_left hL] at k; cases k
      · exact .inr k

/-- A call: from the known memory 'h' it comes back with a value and memory of which 'R' holds, or panics as 'C' tells; whatever lies beside 'h' stays. -/
def ACall (P : Program) (f : FuncId) (args : Array Value) (h : H) (R : Value → H → Prop) (C : List PanicEntry → H → Prop) : Prop :=
  ∀ (w : World) (g : H), Sat2 w h g → Calls P f args w fun e w' => match e with
    | .returned v => ∃ h', Sat2 w' h' g ∧ Ext w w' ∧ R v h'
    | .panicked c => ∃ h', Sat2 w' h' g ∧ Ext w w' ∧ C c h'
    | .outgrown => False
theorem ACall.mono {P : Program} {f : FuncId} {args : Array Value} {h : H} {R R' : Value → H → Prop} {C C' : List PanicEntry → H → Prop}
    (x : ACall P f args h R C) (hR : ∀ v h', R v h' → R' v h') (hC : ∀ v h', C v h' → C' v h') : ACall P f args h R' C' := fun w g s =>
  (x w g s).mono fun e w' r => by
    cases e with
    | returned v => obtain ⟨h', a, b, c⟩ := r; exact ⟨h', a, b, hR _ _ c⟩
    | panicked v => obtain ⟨h', a, b, c⟩ := r; exact ⟨h', a, b, hC _ _ c⟩
    | outgrown => trivial

def mutates : Op → Bool
  | .store .. => true
  | .call { callee := .builtin b, .. } => match b with | .close => true | _ => false
  | _ => false
/-- How an operation may leave the own boxes. -/
def Ag (op : Op) (L L' : H) : Prop := if mutates op then Covers L L' else Grows L L'
theorem Ag.covers {op : Op} {L L' : H} (a : Ag op L L') : Covers L L' := by
  unfold Ag at a; split at a
  · exact a
  · exact a.covers
theorem Ag.refl (op : Op) (L : H) : Ag op L L := by
  unfold Ag; split
  · exact fun _ e => e
  · exact .refl L

abbrev Post := Env → H → H → Prop
abbrev PPost := List PanicEntry → H → Prop
/-- What one operation leads to. -/
def upon (P : Program) (o : Oper) (ρ : Env) (L h : H) (next : Post) (C : PPost) (nx : Next) (hf : H) (_fl : Bool) : Prop :=
  True ∧ ∃ L' h', hf = un L' h' ∧ (Apart L h → Apart L' h') ∧ Ag o.op L L' ∧ match nx with
    | .value v => next (put ρ o.dst v) L' h'
    | .skip => next (put ρ o.dst undef) L' h'
    | .enter f args => ACall P f args h' (fun v h'' => Apart L' h'' → next (put ρ o.dst v) L' h'') (fun c h'' => Apart L' h'' → C c (un L' h''))
    | _ => False
/-- Operations that write nothing. -/
def quietOp (P : Program) : Op → Bool
  | .move _ | .assign _ | .pick .. | .load .. | .extract .. | .fieldAddr .. | .field .. | .indexAddr .. | .index .. | .alloc _ | .box .. | .unOp .. | .nilCheck _ | .binOp .. | .build .. | .buildSlice .. | .slice .. | .makeInterface .. | .makeFunc .. | .makeMap .. | .lookup .. | .typeAssert .. => true
  | .convert _ dst _ => match P.underlying dst with | some (.slice _) => false | _ => true
  | .call { callee := .builtin b, .. } => match b with | .len | .cap | .min | .max => true | _ => false
  | _ => false
def isVal : Next → Prop
  | .value _ | .skip => True
  | _ => False
def aOp (P : Program) (o : Oper) (ρ : Env) (L h : H) (next : Post) (C : PPost) : Prop :=
  Apart L h → bif quietOp P o.op then qwp P (execOp (ev ρ) o) (un L h) (fun nx hf => isVal nx ∧ upon P o ρ L h next C nx hf false) (fun v hf => C [{ v, recovered := false }] hf)
  else awp P (execOp (ev ρ) o) (un L h) false (upon P o ρ L h next C) (fun v hf => C [{ v, recovered := false }] hf)
theorem aOp_awp {P : Program} {o : Oper} {ρ : Env} {L h : H} {next : Post} {C : PPost} (x : aOp P o ρ L h next C) (ap : Apart L h) :
    awp P (execOp (ev ρ) o) (un L h) false (upon P o ρ L h next C) (fun v hf => C [{ v, recovered := false }] hf) := by
  replace x := x ap
  cases hq : quietOp P o.op
  · rw [hq] at x; exact x
  · rw [hq] at x
    exact awp_mono (fun a h fl k => by obtain ⟨rfl, _, k⟩ := k; exact k) (fun _ _ k => k) _ _ _ (qwp_awp _ _ x)
def aOpI (P : Program) (ops : Array Oper) (C : PPost) (i : Nat) (next : Post) (ρ : Env) (L h : H) : Prop :=
  match ops[i]? with
  | none => next ρ L h
  | some o => if Region.wanted o (yld ops ρ) then aOp P o ρ L h next C else next (put ρ o.dst undef) L h
def aOps (P : Program) (ops : Array Oper) (next : Post) (C : PPost) : List Nat → Post
  | [] => next
  | i :: rest => fun ρ L h => aOpI P ops C i (aOps P ops next C rest) ρ L h
def aAny (P : Program) (ops : Array Oper) (next : Post) (C : PPost) : Nat → Array Bool → Post
  | 0, listed => fun ρ L h => Region.ready .any ops listed = [] ∧ next ρ L h
  | fuel + 1, listed => fun ρ L h => (Region.ready .any ops listed = [] → next ρ L h) ∧
      ∀ i ∈ Region.ready .any ops listed, aOpI P ops C i (aAny P ops next C fuel (listed.setIfInBounds i true)) ρ L h

theorem upon_mono {P : Program} {o : Oper} {ρ : Env} {L h : H} {next next' : Post} {C : PPost} (hn : ∀ ρ L h, next ρ L h → next' ρ L h) {nx : Next} {hf : H} {fl : Bool}
    (u : upon P o ρ L h next C nx hf fl) : upon P o ρ L h next' C nx hf fl := by
  refine u.imp id fun ⟨L', h', e, ap, ag, m⟩ => ⟨L', h', e, ap, ag, ?_⟩
  cases nx <;> first | exact hn _ _ _ m | exact m.mono (fun v h'' k a => hn _ _ _ (k a)) (fun _ _ k => k) | exact m
theorem aOp_mono {P : Program} {o : Oper} {ρ : Env} {L h : H} {next next' : Post} {C : PPost} (hn : ∀ ρ L h, next ρ L h → next' ρ L h)
    (x : aOp P o ρ L h next C) : aOp P o ρ L h next' C := by
  intro ap
  replace x := x ap
  cases hq : quietOp P o.op
  · rw [hq] at x; exact awp_mono (fun _ _ _ => upon_mono hn) (fun _ _ k => k) _ _ _ x
  · rw [hq] at x; exact qwp_mono (fun _ _ k => ⟨k.1, upon_mono hn k.2⟩) (fun _ _ k => k) _ _ x
theorem aOpI_mono {P : Program} {ops : Array Oper} {C : PPost} {i : Nat} {next next' : Post} (hn : ∀ ρ L h, next ρ L h → next' ρ L h) {ρ : Env} {L h : H}
    (x : aOpI P ops C i next ρ L h) : aOpI P ops C i next' ρ L h := by
  unfold aOpI at *
  split
  · rename_i e; simp only [e] at x; exact hn _ _ _ x
  · rename_i o e
    simp only [e] at x
    split
    · rename_i hw; rw [if_pos hw] at x; exact aOp_mono hn x
    · rename_i hw; rw [if_neg hw] at x; exact hn _ _ _ x

/-- What holds of the model's world behind code, told by 'next' and 'C'. -/
def lift (n : Nat) (w : World) (g : H) (Q : Exit → Post) (C : PPost) : Exit → Act → World → Prop
  | .outgrown, _, _ => False
  | .panic c, a, w' => ∃ hf, a.defers = [] ∧ Sat2 w' hf g ∧ Ext w w' ∧ C c hf
  | e, a, w' => ∃ ρ L h, EnvOf n a ρ ∧ Sat3 w' L h g ∧ Ext w w' ∧ Q e ρ L h

def fits (n : Nat) (ops : Array Oper) : Bool := ops.toList.all fun o => match o.dst with | some d => Nat.blt d n | none => true
theorem fits_spec {n : Nat} {ops : Array Oper} (f : fits n ops = true) {i : Nat} {o : Oper} (hi : ops[i]? = some o) : ∀ t, o.dst = some t → t < n := by
  intro t ht
  have := List.all_eq_true.1 f o (Array.mem_toList_iff.2 (Array.mem_of_getElem? hi))
  rw [ht] at this
  simpa [Nat.blt_eq] using this

theorem aOp_sound {P : Program} {n : Nat} {o : Oper} {ρ : Env} {L h g : H} {next : Post} {C : PPost} {w0 w : World} {a : Act} {Q : Exit → Post} {nextW : Act → World → Prop}
    (hd : ∀ t, o.dst = some t → t < n) (x : aOp P o ρ L h next C) (hE : EnvOf n a ρ) (hs : Sat3 w L h g) (hx : Ext w0 w)
    (hnext : ∀ a' ρ' L' h' w', EnvOf n a' ρ' → Sat3 w' L' h' g → Ext w0 w' → next ρ' L' h' → nextW a' w') :
    o.wp P a w nextW (lift n w0 g Q C) ∨ (o.asks P a w ∧ LetsOut (lift n w0 g Q C)) := by
  replace x := aOp_awp x hs.ap
  rw [← hE.eval] at x
  have d := awp_sound (execOp a.eval o) (un L h) false x w #[] g hs.sat
  rcases d with ⟨nx, w', hf, fl, hr, hsat, hext, hu, hfl⟩ | ⟨v, w', hf, hr, hsat, hext, hc⟩
  · obtain ⟨-, L', h', rfl, ap, ag, m⟩ := hu
    · refine .inl ?_
      unfold Oper.wp
      rw [hr]
      have s3 : Sat3 w' L' h' g := ⟨hsat, ap hs.ap⟩
      cases nx with
      | value v => exact hnext _ _ _ _ _ (hE.put o.dst v hd) s3 (hx.trans hext) m
      | skip => exact hnext _ _ _ _ _ (hE.put o.dst _ hd) s3 (hx.trans hext) m
      | enter f args =>
        rw [Oper.upon_enter]
        refine (m w' (un L' g) s3.mem).mono fun e w'' r => ?_
        cases e with
        | returned v =>
          obtain ⟨h'', s'', x'', k⟩ := r
          obtain ⟨s4, ap'⟩ := s3.back s''
          exact hnext _ _ _ _ _ (hE.put o.dst v hd) s4 ((hx.trans hext).trans x'') (k ap')
        | panicked c =>
          obtain ⟨h'', s'', x'', k⟩ := r
          obtain ⟨s4, ap'⟩ := s3.back s''
          exact ⟨_, hE.defers, s4.sat, (hx.trans hext).trans x'', k ap'⟩
        | outgrown => exact r.elim
      | _ => exact m.elim
  · refine .inl ?_
    unfold Oper.wp
    rw [hr, Oper.upon_panic]
    exact ⟨hf, hE.defers, hsat, hx.trans hext, hc⟩

theorem aOps_sound {P : Program} {n : Nat} {ops : Array Oper} (hfit : fits n ops = true) {next : Post} {C : PPost} {g : H} {w0 : World} {Q : Exit → Post}
    (hQ : Q .normal = next) : ∀ (l : List Nat) (ρ : Env) (L h : H) (a : Act) (w : World), aOps P ops next C l ρ L h → EnvOf n a ρ → Sat3 w L h g → Ext w0 w →
      wpOps P ops (lift n w0 g Q C) l a w := by
  intro l
  induction l with
  | nil => intro ρ L h a w x hE hs hx; exact ⟨ρ, L, h, hE, hs, hx, by rw [hQ]; exact x⟩
  | cons i rest ih =>
    intro ρ L h a w x hE hs hx
    rw [wpOps_cons]
    unfold wpOp
    simp only [aOps, aOpI] at x
    cases ho : ops[i]? with
    | none => simp only [ho] at x; exact ih _ _ _ _ _ x hE hs hx
    | some o =>
      simp only [ho] at x
      rw [hE.yielded]
      by_cases hw : Region.wanted o (yld ops ρ) = true
      · rw [if_pos hw] at x
        simp only [hw, if_true]
        exact aOp_sound (fits_spec hfit ho) x hE hs hx fun a' ρ' L' h' w' e s y k => ih _ _ _ _ _ k e s y
      · rw [if_neg hw] at x
        simp only [hw]
        exact ih _ _ _ _ _ x (hE.put o.dst _ (fits_spec hfit ho)) hs hx

theorem aAny_sound {P : Program} {ops : Array Oper} {next : Post} {C : PPost} : ∀ (fuel t : Nat) (listed : Array Bool) (ρ : Env) (L h : H), aAny P ops next C fuel listed ρ L h →
    aOps P ops next C (Region.linearise.go .any ops fuel t listed []) ρ L h := by
  intro fuel
  induction fuel with
  | zero => intro t listed ρ L h x; simpa [Region.linearise.go, aOps] using x.2
  | succ fuel ih =>
    intro t listed ρ L h x
    obtain ⟨h₀, h₁⟩ := x
    simp only [Region.linearise.go]
    change aOps P ops next C (match (Region.ready .any ops listed)[t % (Region.ready .any ops listed).length]? with
      | some i => Region.linearise.go .any ops fuel (t / (Region.ready .any ops listed).length) (listed.setIfInBounds i true) [i]
      | none => [].reverse) ρ L h
    cases hi : (Region.ready .any ops listed)[t % (Region.ready .any ops listed).length]? with
    | none =>
      have hnil : Region.ready .any ops listed = [] := by
        cases hr : Region.ready .any ops listed with
        | nil => rfl
        | cons x xs =>
          rw [hr] at hi
          have hlt : t % (x :: xs).length < (x :: xs).length := Nat.mod_lt _ (by simp)
          simp at hi
          simp at hlt
          omega
      simpa [aOps] using h₀ hnil
    | some i =>
      simp only []
      rw [linearise_go_acc, List.reverse_singleton, List.singleton_append]
      exact aOpI_mono (fun ρ L h => ih _ _ ρ L h) (h₁ i (List.mem_of_getElem? hi))

/-- Taking 'i' next is what all ways of the draw allow; the state's memory is of bounded extent and lies beside the boxes. -/
def Bdd (h : H) : Prop := ∃ N, ∀ b, N ≤ b → h b = none
theorem Sat2.bdd {w : World} {h g : H} (s : Sat2 w h g) : Bdd h := ⟨w.heap.size, fun _ hb => s.hs.fresh hb⟩
def bAny (P : Program) (ops : Array Oper) (next : Post) (C : PPost) (fuel : Nat) (listed : Array Bool) : Post := fun ρ L h => Bdd (un L h) → Apart L h → aAny P ops next C fuel listed ρ L h

/-- Structured code from the state (ρ, L, h), against the model. -/
def aCode (P : Program) (n : Nat) (c : Code) (Q : Exit → Post) (C : PPost) (ρ : Env) (L h : H) : Prop :=
  ∀ (w0 w : World) (a : Act) (g : H), EnvOf n a ρ → Sat3 w L h g → Ext w0 w → c.wp P (lift n w0 g Q C) a w
def thenQ (k : Post) (Q : Exit → Post) : Exit → Post
  | .normal => k
  | e => Q e
def inQ (id : Nat) (Q : Exit → Post) : Exit → Post
  | .exit id' => bif Nat.beq id' id then Q .normal else Q (.exit id')
  | e => Q e
def noG (Q : Exit → Post) : Exit → Post
  | .goto _ => fun _ _ _ => False
  | e => Q e
/-- Boxes that nobody needs any more are let go. -/
def drop (K : Post) : Post := fun ρ L h => ∃ L0, Grows L0 L ∧ K ρ L0 h
theorem drop.of {K : Post} {ρ : Env} {L h : H} (k : K ρ L h) : drop K ρ L h := ⟨L, .refl L, k⟩
def iter (T : (Exit → Post) → Post) (Q : Exit → Post) : Nat → Post
  | 0 => fun _ _ _ => False
  | N + 1 => T (thenQ (drop (iter T Q N)) Q)
/-- Structured code, by its text. -/
def cwp (P : Program) (n : Nat) (C : PPost) : Code → (Exit → Post) → Post
  | .skip, Q => Q .normal
  | .region _ ops false, Q => fun ρ L h => fits n ops = true ∧ aOps P ops (Q .normal) C (List.range ops.size) ρ L h
  | .region _ ops true, Q => fun ρ L h => P.follows .mixedOrders = true ∧ fits n ops = true ∧ bAny P ops (Q .normal) C ops.size (Array.replicate ops.size false) ρ L h
  | .seq x y, Q => cwp P n C x (thenQ (drop (cwp P n C y Q)) Q)
  | .cond c x y, Q => fun ρ L h => ∃ t, ev ρ c = .bool t ∧ (t = true → cwp P n C x Q ρ L h) ∧ (t = false → cwp P n C y Q ρ L h)
  | .block id x, Q => cwp P n C x (inQ id Q)
  | .loop x, Q => fun ρ L h => ∃ N, iter (fun Q => cwp P n C x Q) Q N ρ L h
  | .scope x, Q => cwp P n C x (noG Q)
  | .exit id, Q => Q (.exit id)
  | .ret, Q => Q .ret
  | .label _, Q => Q .normal
  | _, _ => fun _ _ _ => False

/-- A world in which more lies beside: what is let go belongs to the frame. -/
theorem Sat3.drop {w : World} {L L0 h g : H} (s : Sat3 w L h g) (gr : Grows L0 L) : Sat3 w L0 h (un (fun b => match L0 b with | some _ => none | none => L b) g) := by
  refine ⟨⟨fun b o e => ?_, fun b o e => ?_, fun b => ?_⟩, fun b => ?_⟩
  · refine s.sat.hs b o ?_
    unfold un at e
    split at e
    · rename_i o' ho; cases e; exact un_left (gr _ _ ho)
    · cases hL : L b with
      | none => rw [un_right hL]; exact e
      | some x =>
        rcases s.ap b with k | k
        · rw [hL] at k; cases k
        · rw [k] at e; cases e
  · unfold un at e
    split at e
    · rename_i o' ho
      cases e
      dsimp only at ho
      split at ho
      · cases ho
      · exact s.sat.hs b _ (un_left ho)
    · exact s.sat.gs b o e
  · cases h0 : L0 b with
    | some x =>
      refine .inr ?_
      rw [un_none]
      refine ⟨by simp [h0], ?_⟩
      rcases s.sat.ap b with k | k
      · rw [un_left (gr _ _ h0)] at k; cases k
      · exact k
    | none =>
      cases hL : L b with
      | none =>
        rw [un_right h0]
        rcases s.sat.ap b with k | k
        · rw [un_right hL] at k; exact .inl k
        · exact .inr (by rw [un_none]; exact ⟨by simp [h0, hL], k⟩)
      | some x =>
        rw [un_right h0]
        rcases s.ap b with k | k
        · rw [hL] at k; cases k
        · exact .inl k
  · cases h0 : L0 b with
    | none => exact .inl rfl
    | some x =>
      rcases s.ap b with k | k
      · rw [gr _ _ h0] at k; cases k
      · exact .inr k
theorem Sat3.less {w : World} {L h g g' : H} (s : Sat3 w L h g') (gr : Grows g g') : Sat3 w L h g := by
  refine ⟨⟨s.sat.hs, fun b o e => s.sat.gs b o (gr b o e), fun b => ?_⟩, s.ap⟩
  rcases s.sat.ap b with k | k
  · exact .inl k
  · refine .inr ?_
    cases hg : g b with
    | none => rfl
    | some o => rw [gr b o hg] at k; cases k
theorem lift_less {n : Nat} {w0 : World} {g g' : H} {Q : Exit → Post} {C : PPost} (gr : Grows g g') {e : Exit} {a : Act} {w : World} (l : lift n w0 g' Q C e a w) : lift n w0 g Q C e a w := by
  have put : ∀ {e'}, (∃ ρ L h, EnvOf n a ρ ∧ Sat3 w L h g' ∧ Ext w0 w ∧ Q e' ρ L h) → ∃ ρ L h, EnvOf n a ρ ∧ Sat3 w L h g ∧ Ext w0 w ∧ Q e' ρ L h :=
    fun ⟨ρ, L, h, x, y, z, k⟩ => ⟨ρ, L, h, x, y.less gr, z, k⟩
  cases e with
  | outgrown => trivial
  | panic c =>
    obtain ⟨hf, x, y, z, k⟩ := l
    refine ⟨hf, x, ⟨y.hs, fun b o e => y.gs b o (gr b o e), fun b => ?_⟩, z, k⟩
    rcases y.ap b with q | q
    · exact .inl q
    · refine .inr ?_
      cases hg : g b with
      | none => rfl
      | some o => rw [gr b o hg] at q; cases q
  | normal => exact put l
  | exit id => exact put l
  | goto l' => exact put l
  | ret => exact put l
section rules
variable {P : Program} {n : Nat} {Q : Exit → Post} {C : PPost} {ρ : Env} {L h : H}
theorem ac_region {id : Nat} {ops : Array Oper} (hfit : fits n ops = true) (x : aOps P ops (Q .normal) C (List.range ops.size) ρ L h) :
    aCode P n (.region id ops false) Q C ρ L h := fun _ w a _ hE hs hx => wp_region (aOps_sound hfit rfl _ ρ L h a w x hE hs hx)
theorem ac_region_draw {id : Nat} {ops : Array Oper} (hm : P.follows .mixedOrders = true) (hfit : fits n ops = true)
    (x : bAny P ops (Q .normal) C ops.size (Array.replicate ops.size false) ρ L h) : aCode P n (.region id ops true) Q C ρ L h := fun w0 w a g hE hs hx => by
  refine wp_region_draw fun t => ?_
  simp only [Region.schedule, hm, Bool.true_or, if_true]
  exact aOps_sound hfit rfl _ ρ L h a { w with drawn := w.drawn + 1 } (aAny_sound _ t _ ρ L h (x hs.sat.bdd hs.ap)) hE ⟨⟨hs.sat.hs, hs.sat.gs, hs.sat.ap⟩, hs.ap⟩ (hx.trans ⟨rfl, rfl, rfl, Nat.le_refl _⟩)
theorem ac_drop {c : Code} (x : drop (aCode P n c Q C) ρ L h) : aCode P n c Q C ρ L h := fun w0 w a g hE hs hx => by
  obtain ⟨L0, gr, k⟩ := x
  refine wp_mono (k w0 w a _ hE (hs.drop gr) hx) fun e a' w' l => lift_less (fun b o e => ?_) l
  cases h0 : L0 b with
  | some x =>
    rcases hs.sat.ap b with q | q
    · rw [un_left (gr _ _ h0)] at q; cases q
    · rw [q] at e; cases e
  | none =>
    cases hL : L b with
    | none => rw [un_right (by simp [h0, hL])]; exact e
    | some x =>
      rcases hs.sat.ap b with q | q
      · rw [un_left hL] at q; cases q
      · rw [q] at e; cases e
theorem drop_mono {K K' : Post} (hk : ∀ ρ L h, K ρ L h → K' ρ L h) (x : drop K ρ L h) : drop K' ρ L h := by
  obtain ⟨L0, gr, k⟩ := x; exact ⟨L0, gr, hk _ _ _ k⟩
theorem ac_mono {c : Code} {Q' : Exit → Post} (x : aCode P n c Q C ρ L h) (hQ : ∀ e ρ L h, Q e ρ L h → Q' e ρ L h) : aCode P n c Q' C ρ L h := fun w0 w a g hE hs hx =>
  wp_mono (x w0 w a g hE hs hx) fun e a' w' l => by
    cases e <;> first | exact l | (obtain ⟨ρ, L, h, p, q, r, s⟩ := l; exact ⟨ρ, L, h, p, q, r, hQ _ _ _ _ s⟩)
theorem ac_seq {x y : Code} (hxy : aCode P n x (thenQ (aCode P n y Q C) Q) C ρ L h) : aCode P n (.seq x y) Q C ρ L h := fun w0 w a g hE hs hx =>
  wp_seq (wp_mono (hxy w0 w a g hE hs hx) fun e a' w' l => by
    cases e with
    | normal => obtain ⟨ρ', L', h', e', s', x', k⟩ := l; exact k w0 w' a' g e' s' x'
    | _ => exact l)
theorem ac_skip (x : Q .normal ρ L h) : aCode P n .skip Q C ρ L h := fun _ _ _ _ hE hs hx => wp_skip ⟨ρ, L, h, hE, hs, hx, x⟩
theorem ac_label {l : Nat} (x : Q .normal ρ L h) : aCode P n (.label l) Q C ρ L h := fun _ _ _ _ hE hs hx => wp_label ⟨ρ, L, h, hE, hs, hx, x⟩
theorem ac_ret (x : Q .ret ρ L h) : aCode P n .ret Q C ρ L h := fun _ _ _ _ hE hs hx => wp_ret ⟨ρ, L, h, hE, hs, hx, x⟩
theorem ac_exit {id : Nat} (x : Q (.exit id) ρ L h) : aCode P n (.exit id) Q C ρ L h := fun _ _ _ _ hE hs hx => wp_exit ⟨ρ, L, h, hE, hs, hx, x⟩
theorem ac_cond {c : Operand} {x y : Code} {t : Bool} (hc : ev ρ c = .bool t) (ht : t = true → aCode P n x Q C ρ L h) (hf : t = false → aCode P n y Q C ρ L h) :
    aCode P n (.cond c x y) Q C ρ L h := fun w0 w a g hE hs hx =>
  wp_cond_split (t := t) (by rw [hE.eval]; exact hc) (fun e => ht e w0 w a g hE hs hx) (fun e => hf e w0 w a g hE hs hx)
theorem ac_block {id : Nat} {c : Code} (x : aCode P n c (inQ id Q) C ρ L h) : aCode P n (.block id c) Q C ρ L h := fun w0 w a g hE hs hx =>
  wp_block (wp_mono (x w0 w a g hE hs hx) fun e a' w' l => by
    cases e with
    | exit id' =>
      obtain ⟨ρ', L', h', e', s', x', k⟩ := l
      simp only [Exit.inBlock]
      simp only [inQ] at k
      by_cases hi : id' = id
      · rw [if_pos hi]
        have hb : Nat.beq id' id = true := by rw [Nat.beq_eq]; exact hi
        rw [hb, cond_true] at k
        exact ⟨ρ', L', h', e', s', x', k⟩
      · rw [if_neg hi]
        have hb : Nat.beq id' id = false := by rw [← Bool.not_eq_true, Nat.beq_eq]; exact hi
        rw [hb, cond_false] at k
        exact ⟨ρ', L', h', e', s', x', k⟩
    | _ => exact l)
theorem ac_scope {c : Code} (x : aCode P n c (noG Q) C ρ L h) : aCode P n (.scope c) Q C ρ L h := fun w0 w a g hE hs hx =>
  wp_scope_straight (wp_mono (x w0 w a g hE hs hx) fun e a' w' l => by
    cases e with
    | goto l' => obtain ⟨_, _, _, _, _, _, k⟩ := l; exact k.elim
    | _ => exact l)
/-- A loop that ends after so many rounds. -/
def loopN (P : Program) (n : Nat) (c : Code) (Q : Exit → Post) (C : PPost) : Nat → Post
  | 0 => fun _ _ _ => False
  | N + 1 => aCode P n c (thenQ (drop (loopN P n c Q C N)) Q) C
theorem ac_loop {c : Code} (N : Nat) (x : loopN P n c Q C N ρ L h) : aCode P n (.loop c) Q C ρ L h := by
  intro w0 w a g hE hs hx b k cs
  have key : ∀ N ρ L h g a w, loopN P n c Q C N ρ L h → EnvOf n a ρ → Sat3 w L h g → Ext w0 w →
      ∃ e a' w', lift n w0 g Q C e a' w' ∧ Arrives P (lone (b.at a (.code c :: .inLoop c :: k)) cs w) b k cs e a' w' := by
    intro N
    induction N with
    | zero => intro ρ L h g a w x; exact x.elim
    | succ N ih =>
      intro ρ L h g a w x hE hs hx
      obtain ⟨e, a₁, w₁, hq, harr⟩ := x w0 w a g hE hs hx b (.inLoop c :: k) cs
      cases e with
      | normal =>
        obtain ⟨ρ', L', h', e', s', x', L0, gr, kk⟩ := hq
        obtain ⟨e₂, a₂, w₂, hq₂, harr₂⟩ := ih _ _ _ _ _ _ kk e' (s'.drop gr) x'
        refine ⟨e₂, a₂, w₂, lift_less (fun b o e => ?_) hq₂, .of_steps (Steps.trans harr (.one step_inLoop)) harr₂⟩
        cases h0 : L0 b with
        | some x =>
          rcases s'.sat.ap b with q | q
          · rw [un_left (gr _ _ h0)] at q; cases q
          · rw [q] at e; cases e
        | none =>
          cases hL : L' b with
          | none => rw [un_right (by simp [h0, hL])]; exact e
          | some x =>
            rcases s'.sat.ap b with q | q
            · rw [un_left hL] at q; cases q
            · rw [q] at e; cases e
      | exit id => exact ⟨_, a₁, w₁, (show lift n w0 g Q C (.exit id) a₁ w₁ from hq), .pass (x := .inLoop c) rfl (fun _ _ => .inl (by simp)) harr⟩
      | goto l => exact ⟨_, a₁, w₁, (show lift n w0 g Q C (.goto l) a₁ w₁ from hq), .pass (x := .inLoop c) rfl (fun _ _ => .inl (by simp)) harr⟩
      | ret => exact ⟨_, a₁, w₁, (show lift n w0 g Q C (.ret) a₁ w₁ from hq), .pass (x := .inLoop c) rfl (fun _ _ => .inl (by simp)) harr⟩
      | panic ch => exact ⟨_, a₁, w₁, (show lift n w0 g Q C (.panic ch) a₁ w₁ from hq), .pass (x := .inLoop c) rfl (fun _ _ => .inl (by simp)) harr⟩
      | outgrown => exact ⟨_, a₁, w₁, (show lift n w0 g Q C (.outgrown) a₁ w₁ from hq), .pass (x := .inLoop c) rfl (fun _ _ => .inl (by simp)) harr⟩
  obtain ⟨e, a', w', hq, harr⟩ := key N ρ L h g a w x hE hs hx
  exact ⟨e, a', w', hq, .of_steps (.one step_loop) harr⟩
end rules
theorem thenQ_mono {K K' : Post} {Q Q' : Exit → Post} (hK : ∀ ρ L h, K ρ L h → K' ρ L h) (hQ : ∀ e ρ L h, Q e ρ L h → Q' e ρ L h) : ∀ e ρ L h, thenQ K Q e ρ L h → thenQ K' Q' e ρ L h := by
  intro e ρ L h
  cases e with
  | normal => exact hK _ _ _
  | _ => exact hQ _ _ _ _
theorem cwp_sound {P : Program} {n : Nat} {C : PPost} : ∀ (c : Code) (Q : Exit → Post) (ρ : Env) (L h : H), cwp P n C c Q ρ L h → aCode P n c Q C ρ L h := by
  intro c
  induction c with
  | skip => exact fun Q ρ L h x => ac_skip x
  | region id ops draw =>
    intro Q ρ L h x
    cases draw with
    | false => exact ac_region x.1 x.2
    | true => exact ac_region_draw x.1 x.2.1 x.2.2
  | seq x y ihx ihy =>
    intro Q ρ L h k
    exact ac_seq (ac_mono (ihx _ ρ L h k) (thenQ_mono (fun ρ L h k => ac_drop (drop_mono (fun ρ L h k => ihy Q ρ L h k) k)) fun _ _ _ _ k => k))
  | cond c x y ihx ihy =>
    intro Q ρ L h k
    obtain ⟨t, hc, ht, hf⟩ := k
    exact ac_cond hc (fun e => ihx Q ρ L h (ht e)) (fun e => ihy Q ρ L h (hf e))
  | block id x ih => exact fun Q ρ L h k => ac_block (ih _ ρ L h k)
  | loop x ih =>
    intro Q ρ L h k
    obtain ⟨N, k⟩ := k
    refine ac_loop N ?_
    have key : ∀ N ρ L h, iter (fun Q => cwp P n C x Q) Q N ρ L h → loopN P n x Q C N ρ L h := by
      intro N
      induction N with
      | zero => exact fun ρ L h k => k
      | succ N ihN => exact fun ρ L h k => ac_mono (ih _ ρ L h k) (thenQ_mono (fun ρ L h k => drop_mono ihN k) fun _ _ _ _ k => k)
    exact key N ρ L h k
  | scope x ih => exact fun Q ρ L h k => ac_scope (ih _ ρ L h k)
  | exit id => exact fun Q ρ L h k => ac_exit k
  | ret => exact fun Q ρ L h k => ac_ret k
  | label l => exact fun Q ρ L h k => ac_label k
  | _ => exact fun Q ρ L h k => k.elim

/-- A reading that changes nothing: a function's results. -/
def rds {α : Type} (P : Program) (h : H) (v : α) : Sem α → Prop
  | .pure a => a = v
  | .load _ a k => a.spot = none ∧ ∃ c e fz x, h a.block = some (.cells c e fz) ∧ c[a.off]? = some x ∧ rds P h v (k x)
  | .program k => rds P h v (k P)
  | _ => False
theorem rds_run {α : Type} {P : Program} {h : H} {v : α} {w : World} (s : Sat w h) : ∀ (x : Sem α), rds P h v x → x.run P w = .ok v w := by
  intro x
  induction x with
  | pure a => intro r; cases r; rfl
  | load m a k ih =>
    rintro ⟨h1, c, e, fz, y, h2, h3, h4⟩
    simp only [Sem.run, cell_of s h1 h2 h3]
    exact ih _ h4
  | program k ih => intro r; exact ih _ r
  | _ => intro r; exact r.elim
theorem rds_bind' {α β : Type} {P : Program} {h : H} {v : β} {x : α} {f : α → Sem β} (b : rds P h v (f x)) : ∀ (s : Sem α), rds P h x s → rds P h v (s.bind f) := by
  intro s
  induction s with
  | pure a => intro r; cases r; exact b
  | load m a k ih => rintro ⟨h1, c, e, fz, y, h2, h3, h4⟩; exact ⟨h1, c, e, fz, y, h2, h3, ih _ h4⟩
  | program k ih => intro r; exact ih _ r
  | _ => intro r; exact r.elim
theorem rds_bind {α β : Type} {P : Program} {h : H} {v : β} {x : α} {s : Sem α} {f : α → Sem β} (a : rds P h x s) (b : rds P h v (f x)) : rds P h v (s >>= f) := rds_bind' b s a

/-- The results of a function, read off the temporaries. -/
def resultsE (fn : Func) (ρ : Env) : Sem Value := do
  let vs ← fn.results.mapM fun
    | .tmp t => pure (ρ t)
    | .cell a t => do loadVar t (← asAddr (ρ a))
  pure (if h : vs.size = 1 then vs[0] else .tuple vs)
theorem results_env {n : Nat} {fn : Func} {a : Act} {ρ : Env} (e : EnvOf n a ρ) : results fn a.tmps = resultsE fn ρ := by
  have hv : (fun t => a.tmps.getD t undef) = ρ := funext e.val
  subst hv
  rfl
/-- How a body ends: the results are read, the own boxes are dropped. -/
structure Out (P : Program) (fn : Func) (R : Value → H → Prop) (ρ : Env) (L h : H) : Prop where
  ex : ∃ v, rds P (un L h) v (resultsE fn ρ) ∧ R v h
def outQ (P : Program) (fn : Func) (R : Value → H → Prop) : Exit → Post
  | .normal, ρ, L, h | .ret, ρ, L, h => Out P fn R ρ L h
  | _, _, _, _ => False
def start (args : Array Value) : Env := fun t => args.getD t undef
theorem ac_func {P : Program} {f : FuncId} {fn : Func} {c : Code} {args : Array Value} {h : H} {R : Value → H → Prop} {C : PPost}
    (hf : P.funcs[f]? = some fn) (hb : fn.body = some c) (hn : args.size ≤ fn.ntmps)
    (x : aCode P fn.ntmps c (outQ P fn R) C (start args) (fun _ => none) h) : ACall P f args h R C := by
  intro w g sat
  refine calls_of_wp hf hb ?_
  have hun : un (fun _ => none) h = h := by funext b; rfl
  have hE : EnvOf fn.ntmps { tmps := args ++ Array.replicate (fn.ntmps - args.size) undef, defers := [] } (start args) := by
    refine ⟨by simp; omega, rfl, fun t => ?_⟩
    simp only [start, Array.getD_eq_getD_getElem?, Array.getElem?_append]
    split
    · rfl
    · rename_i hlt
      rw [Array.getElem?_eq_none (xs := args) (by omega), Array.getElem?_replicate]
      split <;> rfl
  refine wp_mono (x w w _ g hE ⟨by rw [hun]; exact sat, fun b => .inl rfl⟩ (.refl w)) fun e a' w' l => ?_
  have fin : ∀ ρ L h', EnvOf fn.ntmps a' ρ → Sat3 w' L h' g → Ext w w' → (∃ v, rds P (un L h') v (resultsE fn ρ) ∧ R v h') →
      a'.defers = [] ∧ ∃ v, (results fn a'.tmps).run P w' = .ok v w' ∧ ∃ h', Sat2 w' h' g ∧ Ext w w' ∧ R v h' := by
    rintro ρ L h' e' s' x' ⟨v, r, k⟩
    refine ⟨e'.defers, v, by rw [results_env e']; exact rds_run s'.sat.hs _ r, h', ⟨s'.mem.hs, s'.sat.gs, fun b => ?_⟩, x', k⟩
    rcases s'.sat.ap b with q | q
    · exact .inl (un_none.1 q).2
    · exact .inr q
  cases e with
  | normal => obtain ⟨ρ, L, h', e', s', x', k⟩ := l; exact fin _ _ _ e' s' x' k.ex
  | ret => obtain ⟨ρ, L, h', e', s', x', k⟩ := l; exact fin _ _ _ e' s' x' k.ex
  | panic ch => obtain ⟨hf, hd, s', x', k⟩ := l; exact ⟨hd, hf, s', x', k⟩
  | outgrown => trivial
  | exit id => obtain ⟨ρ, L, h', e', s', x', k⟩ := l; exact k
  | goto id => obtain ⟨ρ, L, h', e', s', x', k⟩ := l; exact k
end Go.Proofs.Ytlnlmideghepnaa.K
