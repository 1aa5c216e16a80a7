/- The rules for calls, results, building of structs and slices, appending. The rules for appending, for texts and bytes, for comparisons beyond integers. Equality: against nil, of structs. The rules for functions as values, for made slices, for texts and bytes. The rules for maps. Arrays as values; copy. -/
import Derived.Test.YtiajjcboddaenaaK6
namespace Go.Proofs.Ytiajjcboddaenaa.K
open Go

section calls
variable {P : Program} {C : PPost} {next : Post} {ρ : Env} {L h : H} {v : Value}
variable {d : Option Tmp} {ty : TypeId} {ps : String} {af : Array Edge} {gd : Option (Nat × Bool)}
structure Callee (P : Program) (g : FuncId) (fn : Func) : Prop where
  here : P.funcs[g]? = some fn
  name : (fn.name == "runtime.NumGoroutine") = false
  body : fn.body.isNone = false
theorem callFunc_awp {g : FuncId} {fn : Func} (c : Callee P g fn) {args : Array Value} {hf : H} {fl : Bool} {K : Next → H → Bool → Prop} {E : Value → H → Prop} (k : K (.enter g args) hf fl) : awp P (callFunc g args) hf fl K E := by
  unfold callFunc
  refine (awp_bind _ _ _ _).2 ?_
  show awp P (match P.funcs[g]? with | none => _ | some fn => _) hf fl K E
  rw [c.here]
  simp only [c.name, c.body, Bool.false_eq_true, if_false]
  exact k
theorem exec_call {g : FuncId} {l : List Operand} {ts : Array TypeId} : execOp (ev ρ) ⟨d, .call ⟨.value (.func g), l.toArray, ts⟩, ty, ps, af, gd⟩ = callFunc g ((#[] ++ l.toArray.map (ev ρ)) ++ #[]) := rfl
theorem v_call {g : FuncId} {fn : Func} {l : List Operand} {vl : List Value} {ts : Array TypeId} {R : Value → H → Prop} (hm : ACall P g vl.toArray h R noP) (c : Callee P g fn) (hv : l.map (ev ρ) = vl) (nx : ∀ v h', R v h' → next (put ρ d v) L h') :
    aOp P ⟨d, .call ⟨.value (.func g), l.toArray, ts⟩, ty, ps, af, gd⟩ ρ L h next C := fun _ => by
  show awp P (execOp (ev ρ) ⟨d, .call ⟨.value (.func g), l.toArray, ts⟩, ty, ps, af, gd⟩) _ _ _ _
  rw [exec_call, List.map_toArray, hv]
  simp only [Array.empty_append, Array.append_empty]
  exact callFunc_awp c (⟨trivial, L, h, rfl, id, .refl _ _, hm.mono (fun v h'' k _ => nx v h'' k) fun _ _ k => k.elim⟩)
theorem y_call {T : Type} {enc : T → Value} {g : FuncId} {fn : Func} {l : List Operand} {vl : List Value} {ts : Array TypeId} {m : (T → H → Prop) → H → Prop} {r : T} (hp : ∀ (h' : H) (k' : T → H → Prop), k' r h' → m k' h')
    (hc : ∀ (k : T → H → Prop) (h : H), m k h → ACall P g vl.toArray h (fun v h' => ∃ r, v = enc r ∧ k r h') noP) (c : Callee P g fn) (hv : l.map (ev ρ) = vl) : YE P ⟨d, .call ⟨.value (.func g), l.toArray, ts⟩, ty, ps, af, gd⟩ ρ (enc r) := fun L' h' next C k =>
  v_call (hc (fun r' h'' => r' = r ∧ h'' = h') h' (hp h' _ ⟨rfl, rfl⟩)) c hv fun v h'' ⟨r', hv', hr, hh⟩ => by subst hv'; subst hr; subst hh; exact k

/-! Results. -/
theorem rds_load_scalar {t : TypeId} {td : TypeDesc} {a : Addr} {hf : H} {c : Array Value} {e : TypeId} {fz : Nat × Nat} (hu : P.underlying t = some td) (hs : aggB td = false) (hsp : a.spot = none) (hb : hf a.block = some (.cells c e fz)) (hv : c[a.off]? = some v) : rds P hf v (loadVar t a) := by
  refine rds_bind (x := false) ?_ ?_
  · refine rds_bind (x := td) (rds_bind (x := P) rfl (by rw [hu]; rfl)) ?_
    cases td <;> first | rfl | cases hs
  · exact ⟨hsp, c, e, fz, v, hb, hv, rfl⟩
theorem rds_loadFrom {a : Addr} {hf : H} {c : Array Value} {e : TypeId} {fz : Nat × Nat} (hsp : a.spot = none) (hb : hf a.block = some (.cells c e fz)) : ∀ (n i : Nat) (acc : Array Value) (l : List Value), grab c (a.off + i) n = some l → rds P hf (acc ++ l.toArray) (loadCellsFrom a i n acc) := by
  intro n
  induction n with
  | zero => intro i acc l hg; simp only [grab, Option.some.injEq] at hg; subst hg; show acc = _; simp
  | succ n ih =>
    intro i acc l hg
    simp only [grab] at hg
    cases h1 : c[a.off + i]? with
    | none => rw [h1] at hg; simp at hg
    | some x =>
      cases h2 : grab c (a.off + i + 1) n with
      | none => rw [h1, h2] at hg; simp at hg
      | some r =>
        rw [h1, h2] at hg
        simp only [Option.some.injEq] at hg
        subst hg
        have ha : (a.add i).block = a.block ∧ (a.add i).off = a.off + i ∧ (a.add i).spot = none := by
          unfold Addr.add; split
          · subst_vars; exact ⟨rfl, rfl, hsp⟩
          · exact ⟨rfl, rfl, rfl⟩
        have := ih (i + 1) (acc.push x) r h2
        rw [show acc.push x ++ r.toArray = acc ++ (x :: r).toArray from by simp] at this
        exact ⟨ha.2.2, c, e, fz, x, by rw [ha.1]; exact hb, by rw [ha.2.1]; exact h1, this⟩
theorem rds_load_agg {t : TypeId} {td : TypeDesc} {ti : TypeInfo} {a : Addr} {hf : H} {c : Array Value} {e : TypeId} {fz : Nat × Nat} {l : List Value} (hu : P.underlying t = some td) (hs : aggB td = true) (hi : P.info? t = some ti) (hsp : a.spot = none) (hb : hf a.block = some (.cells c e fz)) (hv : grab c a.off ti.size = some l) :
    rds P hf (.agg l.toArray) (loadVar t a) := by
  refine rds_bind (x := true) ?_ ?_
  · refine rds_bind (x := td) (rds_bind (x := P) rfl (by rw [hu]; rfl)) ?_
    cases td <;> first | rfl | cases hs
  · refine rds_bind (x := ti.size) (rds_bind (x := ti) (rds_bind (x := P) rfl (by rw [hi]; rfl)) rfl) ?_
    refine rds_bind (x := l.toArray) ?_ rfl
    have := rds_loadFrom (P := P) hsp hb ti.size 0 #[] l hv
    rw [Array.empty_append] at this
    exact this
/-- The results, one by one. -/
def RdsL (P : Program) (hf : H) (ρ : Env) : List ResultVar → List Value → Prop
  | [], [] => True
  | .tmp t :: r, v :: vs => ρ t = v ∧ RdsL P hf ρ r vs
  | .cell a t :: r, v :: vs => (∃ ad, ρ a = .pointer (some ad) ∧ rds P hf v (loadVar t ad)) ∧ RdsL P hf ρ r vs
  | _, _ => False
theorem rds_list {hf : H} : ∀ {rs : List ResultVar} {vs : List Value}, RdsL P hf ρ rs vs → rds P hf vs (rs.mapM fun | .tmp t => pure (ρ t) | .cell a t => do loadVar t (← asAddr (ρ a))) := by
  intro rs
  induction rs with
  | nil => intro vs h; cases vs with | nil => rfl | cons => exact h.elim
  | cons r rs ih =>
    intro vs h
    rw [List.mapM_cons]
    cases vs with
    | nil => cases r <;> exact h.elim
    | cons v vs =>
      cases r with
      | tmp t => exact rds_bind (x := v) (by show ρ t = v; exact h.1) (rds_bind (ih h.2) rfl)
      | cell a t =>
        obtain ⟨⟨ad, ha, hl⟩, hr⟩ := h
        refine rds_bind (x := v) ?_ (rds_bind (ih hr) rfl)
        show rds P hf v (do loadVar t (← asAddr (ρ a)))
        rw [ha]
        exact rds_bind (x := ad) rfl hl
def outV : List Value → Value
  | [x] => x
  | vs => .tuple vs.toArray
theorem rds_results {fn : Func} {hf : H} {rs : List ResultVar} {vs : List Value} (hr : fn.results = rs.toArray) (hl : RdsL P hf ρ rs vs) (hv : outV vs = v) : rds P hf v (resultsE fn ρ) := by
  unfold resultsE
  rw [hr, List.mapM_toArray]
  refine rds_bind (x := vs.toArray) (rds_bind (rds_list hl) rfl) ?_
  show _ = v
  rw [← hv]
  match vs with
  | [] => rfl
  | [x] => rfl
  | x :: y :: r => simp [outV]
theorem out_one {Q : Value → H → Prop} {fn : Func} {rs : List ResultVar} (hr : fn.results = rs.toArray) (k : Apart L h → ∃ vs, RdsL P (un L h) ρ rs vs ∧ Q (outV vs) h) : Out P fn Q ρ L h := ⟨fun ap => by
  obtain ⟨vs, hl, q⟩ := k ap
  exact ⟨_, rds_results hr hl rfl, q⟩⟩
/-! Structs and slices that are written out. -/
def sizesOf (P : Program) : List Field → Option (List (Nat × Nat))
  | [] => some []
  | f :: r => match P.info? f.type, sizesOf P r with
    | some i, some l => some ((f.offset, i.size) :: l)
    | _, _ => none
theorem sizes_nil : sizesOf P [] = some [] := rfl
theorem sizes_cons {f : Field} {r : List Field} {i : TypeInfo} {l : List (Nat × Nat)} (h1 : P.info? f.type = some i) (h2 : sizesOf P r = some l) : sizesOf P (f :: r) = some ((f.offset, i.size) :: l) := by simp only [sizesOf, h1, h2]
theorem QV.map {α β : Type} {s : Sem α} {a : α} (f : α → β) (x : QV P s a) : QV P (f <$> s) (f a) := QV.bind x (QV.pure _)
theorem sizes_run : ∀ {fl : List Field} {l : List (Nat × Nat)}, sizesOf P fl = some l → QV P (fl.mapM fun f => do pure (f.offset, ← sizeOf f.type)) l := by
  intro fl
  induction fl with
  | nil => intro l h; simp only [sizesOf, Option.some.injEq] at h; subst h; exact QV.pure _
  | cons f r ih =>
    intro l h
    simp only [sizesOf] at h
    cases h1 : P.info? f.type with
    | none => rw [h1] at h; simp at h
    | some i =>
      cases h2 : sizesOf P r with
      | none => rw [h1, h2] at h; simp at h
      | some q =>
        rw [h1, h2] at h
        simp only [Option.some.injEq] at h
        subst h
        rw [List.mapM_cons]
        exact QV.bind (QV.bind (QV.sizeOf h1) (QV.pure _)) (QV.bind (ih h2) (QV.pure _))
theorem y_build {t : TypeId} {ti : TypeInfo} {fl : List Field} {pl : List (Nat × Nat)} {l : List (Nat × Operand)} {vl : List (Nat × Value)} {z : Value} {cs : Array Value} (hu : P.underlying t = some (.struct fl.toArray)) (hi : P.info? t = some ti) (hz : ti.zero = some z) (hp : sizesOf P fl = some pl)
    (hv : (l.map fun p => (p.1, ev ρ p.2)) = vl) (hf : Instr.fill (fun i => pl.toArray[i]?) z.cells vl = some cs) : YE P ⟨d, .build t l.toArray, ty, ps, af, gd⟩ ρ (.agg cs) := by
  refine YE.val rfl rfl ?_
  show QV P (Instr.build t (l.toArray.map fun p => (p.1, ev ρ p.2))) _
  rw [List.map_toArray, hv]
  unfold Instr.build
  refine QV.bind (QV.zero hi hz) (QV.bind (QV.underlying hu) ?_)
  simp only []
  rw [List.mapM_toArray]
  refine QV.bind (QV.map _ (sizes_run hp)) ?_
  simp only [hf]
  exact QV.pure _
theorem fills {t e : TypeId} {ti : TypeInfo} {n : Nat} {vl : List (Nat × Value)} {z : Value} {cs : Array Value} {hf : H} {K : Value → H → Prop} {E : Value → H → Prop} (hu : P.underlying t = some (.slice e)) (hi : P.info? e = some ti) (hz : ti.zero = some z) (hn : Nat.ble (n * ti.size) (2 ^ 24) = true)
    (hc : Instr.fill (fun i => some (i * ti.size, ti.size)) ((List.range (n * ti.size)).map fun j => (if n * ti.size = 0 then #[] else z.cells)[j % (if n * ti.size = 0 then #[] else z.cells).size]!).toArray vl = some cs)
    (k : ∀ b, hf b = none → K (.slice (some ⟨b, 0, none⟩) n n) (upd hf b (.cells cs e (0, 0)))) : qwp P (Instr.buildSlice t n vl.toArray) hf K E := by
  unfold Instr.buildSlice
  refine (qwp_bind _ _ _).2 (QV.underlying hu hf _ _ ?_)
  simp only []
  refine (qwp_bind _ _ _).2 (QV.sizeOf hi hf _ _ ?_)
  rw [if_neg (by have := Nat.le_of_ble_eq_true hn; omega)]
  have fin : qwp P (match Instr.fill (fun i => some (i * ti.size, ti.size)) ((Array.range (n * ti.size)).map fun j => (if n * ti.size = 0 then #[] else z.cells)[j % (if n * ti.size = 0 then #[] else z.cells).size]!) vl with
      | some cells => do pure (.slice (some (← newRow e cells)) n n)
      | x => stuck "buildSlice: a part of the wrong size" : Sem Value) hf K E := by
    rw [show Array.range (n * ti.size) = (List.range (n * ti.size)).toArray from (List.toArray_range ..).symm, List.map_toArray, hc]
    exact fun b hb => k b hb
  have q0 : QV P (if n * ti.size = 0 then pure #[] else do pure (← zeroValue e).cells : Sem (Array Value)) (if n * ti.size = 0 then #[] else z.cells) := by
    split
    · exact QV.pure _
    · exact QV.bind (QV.zero hi hz) (QV.pure _)
  have sp : ∀ (f : Array Value → Sem Value), qwp P (f (if n * ti.size = 0 then #[] else z.cells)) hf K E → qwp P (do let zero ← (if n * ti.size = 0 then pure #[] else do pure (← zeroValue e).cells : Sem (Array Value)); f zero) hf K E := fun f x => (qwp_bind _ _ _).2 (q0 hf _ _ x)
  have := sp (fun zero => match Instr.fill (fun i => some (i * ti.size, ti.size)) ((Array.range (n * ti.size)).map fun j => zero[j % zero.size]!) vl with
      | some cells => do pure (.slice (some (← newRow e cells)) n n)
      | x => stuck "buildSlice: a part of the wrong size") fin
  by_cases h0 : n * ti.size = 0
  · rw [if_pos h0] at this ⊢
    exact this
  · rw [if_neg h0] at this ⊢
    rw [bind_assoc] at this
    exact this
theorem exec_lit {t : TypeId} {n : Nat} {l : List (Nat × Operand)} : execOp (ev ρ) ⟨d, .buildSlice t n l.toArray, ty, ps, af, gd⟩ = (do pure (.value (← Instr.buildSlice t n (l.map fun p => (p.1, ev ρ p.2)).toArray)) : Sem Next) := by
  have e : (l.toArray.map fun (i, x) => (i, ev ρ x)) = (l.map fun p => (p.1, ev ρ p.2)).toArray := List.map_toArray ..
  rw [← e]
  rfl
theorem v_lit {t e : TypeId} {ti : TypeInfo} {n : Nat} {l : List (Nat × Operand)} {vl : List (Nat × Value)} {z : Value} {cs : Array Value} {k : Addr → H → Prop} (hm : mNew e cs k h) (hu : P.underlying t = some (.slice e)) (hi : P.info? e = some ti) (hz : ti.zero = some z) (hn : Nat.ble (n * ti.size) (2 ^ 24) = true) (hv : (l.map fun p => (p.1, ev ρ p.2)) = vl)
    (hc : Instr.fill (fun i => some (i * ti.size, ti.size)) ((List.range (n * ti.size)).map fun j => (if n * ti.size = 0 then #[] else z.cells)[j % (if n * ti.size = 0 then #[] else z.cells).size]!).toArray vl = some cs)
    (nx : ∀ a h', k a h' → next (put ρ d (.slice (some a) n n)) L h') : aOp P ⟨d, .buildSlice t n l.toArray, ty, ps, af, gd⟩ ρ L h next C := by
  refine aOp_q (K := fun v hf => ∃ b, un L h b = none ∧ v = .slice (some ⟨b, 0, none⟩) n n ∧ hf = upd (un L h) b (.cells cs e (0, 0))) rfl exec_lit (fun _ => ?_) (fun v hf kk => ?_)
  · rw [hv]
    exact fills hu hi hz hn hc fun b hb => ⟨b, hb, rfl, rfl⟩
  · obtain ⟨b, hb, rfl, rfl⟩ := kk
    obtain ⟨e1, _, e3⟩ := un_new (o := .cells cs e (0, 0)) hb
    exact ⟨L, _, e1, fun ap => (e3 ap).1, .refl _ _, nx _ _ (hm b (un_none.1 hb).2)⟩
theorem b_lit {t e : TypeId} {ti : TypeInfo} {n : Nat} {l : List (Nat × Operand)} {vl : List (Nat × Value)} {z : Value} {cs : Array Value} (hu : P.underlying t = some (.slice e)) (hi : P.info? e = some ti) (hz : ti.zero = some z) (hn : Nat.ble (n * ti.size) (2 ^ 24) = true)
    (hv : (l.map fun p => (p.1, ev ρ p.2)) = vl) (hc : Instr.fill (fun i => some (i * ti.size, ti.size)) ((List.range (n * ti.size)).map fun j => (if n * ti.size = 0 then #[] else z.cells)[j % (if n * ti.size = 0 then #[] else z.cells).size]!).toArray vl = some cs)
    (nx : ∀ b, L b = none → next (put ρ d (.slice (some ⟨b, 0, none⟩) n n)) (upd L b (.cells cs e (0, 0))) h) : aOp P ⟨d, .buildSlice t n l.toArray, ty, ps, af, gd⟩ ρ L h next C := by
  refine aOp_q (K := fun v hf => ∃ b, un L h b = none ∧ v = .slice (some ⟨b, 0, none⟩) n n ∧ hf = upd (un L h) b (.cells cs e (0, 0))) rfl exec_lit (fun _ => ?_) (fun v hf kk => ?_)
  · rw [hv]
    exact fills hu hi hz hn hc fun b hb => ⟨b, hb, rfl, rfl⟩
  · obtain ⟨b, hb, rfl, rfl⟩ := kk
    obtain ⟨_, e2, e3⟩ := un_new (o := .cells cs e (0, 0)) hb
    refine ⟨_, h, e2, fun ap => (e3 ap).2, ?_, nx b (un_none.1 hb).1⟩
    intro z o hz
    rw [upd_ne _ _ (fun e => by rw [e, (un_none.1 hb).1] at hz; cases hz)]; exact hz
end calls
end Go.Proofs.Ytiajjcboddaenaa.K
namespace Go.Proofs.Ytiajjcboddaenaa.K
open Go

section more
variable {P : Program} {C : PPost} {next : Post} {ρ : Env} {L h : H} {v : Value}
variable {d : Option Tmp} {ty : TypeId} {ps : String} {af : Array Edge} {gd : Option (Nat × Bool)}

def AV {α : Type} (P : Program) (s : Sem α) (v : α) : Prop := ∀ (h : H) (fl : Bool) (K : α → H → Bool → Prop) (E : Value → H → Prop), K v h fl → awp P s h fl K E
theorem AV.pure {α : Type} (v : α) : AV P (pure v : Sem α) v := fun _ _ _ _ k => k
theorem AV.bind {α β : Type} {s : Sem α} {f : α → Sem β} {a : α} {b : β} (x : AV P s a) (y : AV P (f a) b) : AV P (s >>= f) b := fun h fl _ _ k => (awp_bind s f h fl).2 (x h fl _ _ (y h fl _ _ k))
theorem AV.underlying {t : TypeId} {d : TypeDesc} (e : P.underlying t = some d) : AV P (underlying t) d := AV.bind (a := P) (fun _ _ _ _ k => k) (by rw [e]; exact AV.pure d)
theorem AV.typeInfo {t : TypeId} {i : TypeInfo} (e : P.info? t = some i) : AV P (typeInfo t) i := AV.bind (a := P) (fun _ _ _ _ k => k) (by rw [e]; exact AV.pure i)
theorem AV.sizeOf {t : TypeId} {i : TypeInfo} (e : P.info? t = some i) : AV P (sizeOf t) i.size := AV.bind (AV.typeInfo e) (AV.pure _)
theorem AV.zero {t : TypeId} {i : TypeInfo} {z : Value} (e : P.info? t = some i) (hz : i.zero = some z) : AV P (zeroValue t) z := AV.bind (AV.typeInfo e) (by rw [hz]; exact AV.pure z)
theorem AV.use {α β : Type} {s : Sem α} {a : α} (x : AV P s a) {f : α → Sem β} {hf : H} {fl : Bool} {K : β → H → Bool → Prop} {E : Value → H → Prop} (k : awp P (f a) hf fl K E) : awp P (s >>= f) hf fl K E := (awp_bind _ _ _ _).2 (x _ _ _ _ k)
/-- A reading at the state 'hf' alone. -/
def RV {α : Type} (P : Program) (hf : H) (s : Sem α) (v : α) : Prop := ∀ (fl : Bool) (K : α → H → Bool → Prop) (E : Value → H → Prop), K v hf fl → awp P s hf fl K E
theorem RV.use {α β : Type} {hf : H} {s : Sem α} {a : α} (x : RV P hf s a) {f : α → Sem β} {fl : Bool} {K : β → H → Bool → Prop} {E : Value → H → Prop} (k : awp P (f a) hf fl K E) : awp P (s >>= f) hf fl K E := (awp_bind _ _ _ _).2 (x _ _ _ k)
theorem rv_of_q {hf : H} {α : Type} {s : Sem α} {a : α} (x : ∀ (K : α → H → Prop) (E : Value → H → Prop), K a hf → qwp P s hf K E) (fl : Bool) (K : α → H → Bool → Prop) (E : Value → H → Prop) (k : K a hf false) (hfl : fl = false) : awp P s hf fl K E := by
  subst hfl
  exact awp_mono (fun y h' fl' kk => by obtain ⟨rfl, rfl, rfl⟩ := kk; exact k) (fun _ _ k => k.elim) _ _ _ (qwp_awp _ _ (x (fun y h' => y = a ∧ h' = hf) noE ⟨rfl, rfl⟩))
theorem cells_rv {a : Addr} {hf : H} {c : Array Value} {e : TypeId} {fz : Nat × Nat} (hsp : a.spot = none) (hb : hf a.block = some (.cells c e fz)) : ∀ (n i : Nat) (acc : Array Value) (l : List Value), grab c (a.off + i) n = some l → RV P hf (loadCellsFrom a i n acc) (acc ++ l.toArray) := by
  intro n
  induction n with
  | zero => intro i acc l hg fl K E k; simp only [grab, Option.some.injEq] at hg; subst hg; show K acc hf fl; simpa using k
  | succ n ih =>
    intro i acc l hg fl K E k
    simp only [grab] at hg
    cases h1 : c[a.off + i]? with
    | none => rw [h1] at hg; simp at hg
    | some x =>
      cases h2 : grab c (a.off + i + 1) n with
      | none => rw [h1, h2] at hg; simp at hg
      | some r =>
        rw [h1, h2] at hg
        simp only [Option.some.injEq] at hg
        subst hg
        refine (awp_bind _ _ _ _).2 ?_
        have ha : (a.add i).block = a.block ∧ (a.add i).off = a.off + i ∧ (a.add i).spot = none := by
          unfold Addr.add; split
          · subst_vars; exact ⟨rfl, rfl, hsp⟩
          · exact ⟨rfl, rfl, rfl⟩
        refine ⟨ha.2.2, c, e, fz, x, by rw [ha.1]; exact hb, by rw [ha.2.1]; exact h1, ih (i + 1) _ r h2 fl K E ?_⟩
        rw [show acc.push x ++ r.toArray = acc ++ (x :: r).toArray from by simp]
        exact k
/-- The first cells of a slice. -/
theorem first_rv {hf : H} {a : Option Addr} {len cap size n : Nat} {l : List Value} (hr : Row hf a l) (hl : a.isSome = true → l.length = n * size) : RV P hf (Builtin.firstCells size n (.slice a len cap)) l.toArray := by
  cases a with
  | none => intro fl K E k; rw [show l = [] from hr] at k; exact k
  | some a =>
    rcases hr with hr | ⟨hsp, c, e, fz, hb, hg⟩
    · subst hr
      intro fl K E k
      show awp P (loadCellsFrom a 0 (n * size) #[]) hf fl K E
      have h0 : n * size = 0 := (hl rfl).symm
      rw [h0]; exact k
    intro fl K E k
    show awp P (loadCellsFrom a 0 (n * size) #[]) hf fl K E
    rw [hl rfl] at hg
    exact cells_rv hsp hb (n * size) 0 #[] l hg fl K E (by rw [Array.empty_append]; exact k)
theorem grab_fits : ∀ {n : Nat} {c : Array Value} {off : Nat} {l : List Value}, grab c off n = some l → n = 0 ∨ off + n ≤ c.size := by
  intro n
  induction n with
  | zero => exact fun _ => .inl rfl
  | succ n ih =>
    intro c off l hg
    simp only [grab] at hg
    cases h1 : c[off]? with
    | none => rw [h1] at hg; simp at hg
    | some x =>
      cases h2 : grab c (off + 1) n with
      | none => rw [h1, h2] at hg; simp at hg
      | some r =>
        have hlt : off < c.size := by
          rcases Nat.lt_or_ge off c.size with q | q
          · exact q
          · rw [Array.getElem?_eq_none q] at h1; cases h1
        rcases ih h2 with q | q <;> exact .inr (by omega)
/-- A block's extent. -/
theorem holds_av {hf : H} {a : Addr} {n : Nat} {c : Array Value} {e : TypeId} {fz : Nat × Nat} (hsp : a.spot = none) (hb : hf a.block = some (.cells c e fz)) (hl : a.off + n ≤ c.size) : RV P hf (Builtin.holdsCells a n) true := fun fl K E k => by
  refine ⟨_, hb, ?_⟩
  show K (a.spot.isNone && decide (a.off + n ≤ c.size)) hf fl
  simpa [hsp, hl] using k

theorem frozen_rv {hf : H} {a : Addr} {o : Obj} (hb : hf a.block = some o) : RV P hf (frozen a) (frozenIn o a.off) := fun _ _ _ k => ⟨o, hb, k⟩
theorem RV.bind {α β : Type} {hf : H} {s : Sem α} {f : α → Sem β} {a : α} {b : β} (x : RV P hf s a) (y : RV P hf (f a) b) : RV P hf (s >>= f) b := fun fl K E k => (awp_bind _ _ _ _).2 (x fl _ _ (y fl K E k))
theorem RV.pure {α : Type} {hf : H} (a : α) : RV P hf (pure a : Sem α) a := fun _ _ _ k => k
theorem room_av {n : Nat} {hf : H} {fl : Bool} {K : Unit → H → Bool → Prop} {E : Value → H → Prop} (k : ∀ fl', K () hf fl') : awp P (askRoom n) hf fl K E := by
  unfold askRoom
  split
  · exact k _
  · exact k _
/-- append: 'm' elements, whose cells are 'new', behind the slice 's'. -/
theorem append_awp {s : Sl} {xa : Option Addr} {m xcap : Nat} {new : List Value} {t t' e e2 ty' : TypeId} {ti : TypeInfo} {z : Value} {hf : H} {K : Value → H → Bool → Prop} {E : Value → H → Prop}
    (hu : P.underlying t = some (.slice e)) (hu' : P.underlying t' = some (.slice e2)) (hi : P.info? e = some ti) (hz : ti.zero = some z) (hby : ti.bytes ≠ 0)
    (hnew : Row hf xa new) (hnl : xa.isSome = true → new.length = m * ti.size) (hpl : new.all plainVal = true)
    (fits : s.len + m ≤ s.cap → match s.a with
      | none => new = [] ∧ K (.slice none (s.len + m) s.cap) hf false
      | some a => (new = [] ∧ K (.slice (some a) (s.len + m) s.cap) hf false) ∨ (a.add (s.len * ti.size)).spot = none ∧ ∃ c e' fz, hf a.block = some (.cells c e' fz) ∧ (a.add (s.len * ti.size)).off + new.length ≤ c.size ∧
        (∀ i, i < new.length → frozenIn (.cells c e' fz) ((a.add (s.len * ti.size)).off + i) = false) ∧ K (.slice (some a) (s.len + m) s.cap) (upd hf a.block (.cells (lay c (a.add (s.len * ti.size)).off new) e' fz)) false)
    (grows : ¬ s.len + m ≤ s.cap → ∃ old, Row hf s.a old ∧ (s.a.isSome = true → old.length = s.len * ti.size) ∧
      Room ti.bytes (s.len + m) s.cap ∧
      ∀ b cap fl, hf b = none → s.len + m ≤ cap → K (.slice (some ⟨b, 0, none⟩) (s.len + m) cap) (upd hf b (.cells (old.toArray ++ new.toArray ++ Builtin.zeroCells z.cells (cap - (s.len + m))) e (0, 0))) fl) :
    awp P (Builtin.append_ #[t, t'] ty' #[s.val, .slice xa m xcap]) hf false K E := by
  unfold Builtin.append_ Sl.val
  simp only [List.getElem?_toArray, List.getElem?_cons_zero, List.getElem?_cons_succ]
  refine AV.use (AV.underlying hu) ?_
  simp only []
  refine AV.use (AV.sizeOf hi) ?_
  refine AV.use (AV.underlying hu') ?_
  refine AV.use (a := false) (AV.pure _) ?_
  simp only [Bool.false_eq_true, if_false]
  refine AV.use (a := m) (AV.pure m) ?_
  simp only [Bool.not_false, if_true]
  split
  · rename_i hle
    refine RV.use (first_rv hnew hnl) ?_
    have f := fits hle
    cases ha : s.a with
    | none =>
      rw [ha] at f
      exact f.2
    | some a =>
      rw [ha] at f
      rcases f with ⟨rfl, k⟩ | ⟨hsp, c, e', fz, hb, hl, hfz, k⟩
      · exact (awp_bind _ _ _ _).2 k
      refine (awp_bind _ _ _ _).2 ?_
      have hbl : (a.add (s.len * ti.size)).block = a.block := by unfold Addr.add; split <;> rfl
      refine storeCells_run hsp new 0 hf c false _ hpl (by rw [hbl]; exact hb) (by simpa using hl) (by simpa using hfz) ?_
      rw [hbl]
      exact k
  · rename_i hgt
    obtain ⟨old, hold, hol, hroom, k⟩ := grows hgt
    refine AV.use (AV.typeInfo hi) ?_
    rw [if_neg (fun hh => by
      rcases hh.2 with q | q
      · cases q
      · exact hby q)]
    refine AV.use (AV.typeInfo hi) ?_
    rw [if_neg (Nat.not_lt.2 hroom)]
    · refine (awp_bind _ _ _ _).2 ?_
      intro q
      have hcap : s.len + m ≤ (Question.appendCap (s.len + m) s.cap e).cut q := by simp only [Question.cut]; omega
      generalize (Question.appendCap (s.len + m) s.cap e).cut q = cap at hcap
      show awp P (do let i ← typeInfo e; _) _ _ _ _
      refine AV.use (AV.typeInfo hi) ?_
      refine (awp_bind _ _ _ _).2 (room_av fun fl => ?_)
      refine RV.use (first_rv hold hol) (RV.use (first_rv hnew hnl) (AV.use (AV.zero hi hz) ?_))
      exact fun b hb => k b cap fl hb hcap
theorem un_at {b : Nat} {o : Obj} (ap : Apart L h) (hb : h b = some o) : un L h b = some o := by
  rcases ap b with q | q
  · rw [un_right q]; exact hb
  · rw [q] at hb; cases hb
theorem Row_un {a : Option Addr} {l : List Value} (ap : Apart L h) (x : Row h a l) : Row (un L h) a l := by
  cases a with
  | none => exact x
  | some a => exact x.imp id (At_un ap)
/-- The common part: 's' lies in known memory, the source in 'un L h'. -/
theorem app_awp {s : Sl} {xa : Option Addr} {m xcap : Nat} {new : List Value} {t t' e e2 ty' : TypeId} {ti : TypeInfo} {z : Value} {k : Sl → H → Prop} {o : Oper} {E : Value → H → Prop}
    (hu : P.underlying t = some (.slice e)) (hu' : P.underlying t' = some (.slice e2)) (hi : P.info? e = some ti) (hz : ti.zero = some z) (hby : ti.bytes ≠ 0)
    (ap : Apart L h) (hm : mApp e ti.size ti.bytes z.cells m new s k h) (hnew : Row (un L h) xa new) (hnl : xa.isSome = true → new.length = m * ti.size) (hpl : new.all plainVal = true)
    (nx : ∀ s' h', k s' h' → next (put ρ o.dst s'.val) L h') : awp P (Builtin.append_ #[t, t'] ty' #[s.val, .slice xa m xcap]) (un L h) false (fun v hf fl => upon P o ρ L h next C (.value v) hf fl) E := by
  have fin : ∀ (s' : Sl) (h' : H) (hf : H) (fl : Bool), hf = un L h' → (Apart L h → Apart L h') → k s' h' → upon P o ρ L h next C (.value s'.val) hf fl := fun s' h' hf fl e1 e2 kk => ⟨trivial, L, h', e1, e2, .refl _ _, nx s' h' kk⟩
  refine append_awp hu hu' hi hz hby hnew hnl hpl (fun hle => ?_) (fun hgt => ?_)
  · have := hm.1 hle
    cases ha : s.a with
    | none =>
      rw [ha] at this
      exact ⟨this.1, fin ⟨none, s.len + m, s.cap⟩ h _ _ rfl id this.2⟩
    | some a =>
      rw [ha] at this
      rcases this with ⟨rfl, kk⟩ | ⟨hsp, c, e', fz, hb, hl, hfz, kk⟩
      · exact .inl ⟨rfl, fin ⟨some a, s.len + m, s.cap⟩ h _ _ rfl id kk⟩
      obtain ⟨e1, e2⟩ := un_put (o' := .cells (lay c (a.add (s.len * ti.size)).off new) e' fz) ap hb
      exact .inr ⟨hsp, c, e', fz, un_at ap hb, hl, hfz, fin ⟨some a, s.len + m, s.cap⟩ _ _ _ e1 (fun _ => e2) kk⟩
  · obtain ⟨old, hold, hol, hroom, kk⟩ := hm.2 hgt
    refine ⟨old, Row_un ap hold, hol, hroom, fun b cap fl hb hcap => ?_⟩
    · obtain ⟨e1, _, e3⟩ := un_new (o := .cells (old.toArray ++ new.toArray ++ Builtin.zeroCells z.cells (cap - (s.len + m))) e (0, 0)) hb
      exact fin ⟨some ⟨b, 0, none⟩, s.len + m, cap⟩ _ _ _ e1 (fun ap => (e3 ap).1) (kk b cap (un_none.1 hb).2 hcap)
theorem exec_append {x y : Operand} {ts : List TypeId} {vx vy : Value} (hx : ev ρ x = vx) (hy : ev ρ y = vy) : execOp (ev ρ) ⟨d, .call ⟨.builtin .append, [x, y].toArray, ts.toArray⟩, ty, ps, af, gd⟩ = (do pure (.value (← Builtin.append_ ts.toArray ty #[vx, vy])) : Sem Next) := by
  subst hx; subst hy
  have e : ([x, y].toArray.map (ev ρ)) = #[ev ρ x, ev ρ y] := List.map_toArray ..
  rw [← e]
  rfl
/-- append of elements that are written out: they lie in a box of their own. -/
theorem v_push {x y : Operand} {s : Sl} {b m xcap : Nat} {new : List Value} {cs : Array Value} {t t' e e2 e3 : TypeId} {ti : TypeInfo} {z : Value} {k : Sl → H → Prop}
    (hu : P.underlying t = some (.slice e)) (hu' : P.underlying t' = some (.slice e2)) (hi : P.info? e = some ti) (hz : ti.zero = some z) (hby : Nat.beq ti.bytes 0 = false)
    (hx : ev ρ x = s.val) (hy : ev ρ y = .slice (some ⟨b, 0, none⟩) m xcap) (hk : L b = some (.cells cs e3 (0, 0))) (hg : grab cs 0 (m * ti.size) = some new)
    (hpl : new.all plainVal = true) (hm : mApp e ti.size ti.bytes z.cells m new s k h)
    (nx : ∀ s' h', k s' h' → next (put ρ d s'.val) L h') : aOp P ⟨d, .call ⟨.builtin .append, [x, y].toArray, [t, t'].toArray⟩, ty, ps, af, gd⟩ ρ L h next C := fun ap => by
  show awp P (execOp (ev ρ) ⟨d, .call ⟨.builtin .append, [x, y].toArray, [t, t'].toArray⟩, ty, ps, af, gd⟩) _ _ _ _
  rw [exec_append hx hy]
  refine (awp_bind _ _ _ _).2 ?_
  have hgb := hk
  have hl := grab_len hg
  refine app_awp (o := ⟨d, .call ⟨.builtin .append, [x, y].toArray, [t, t'].toArray⟩, ty, ps, af, gd⟩) hu hu' hi hz (fun e => by rw [e] at hby; cases hby) ap hm ?_ (fun _ => hl) hpl nx
  exact .inr ⟨rfl, cs, e3, (0, 0), un_left hgb, by rw [hl]; exact hg⟩
theorem v_append {x y : Operand} {s x' : Sl} {t t' e e2 : TypeId} {ti : TypeInfo} {z : Value} {k : Sl → H → Prop} (hu : P.underlying t = some (.slice e)) (hu' : P.underlying t' = some (.slice e2)) (hi : P.info? e = some ti) (hz : ti.zero = some z) (hby : Nat.beq ti.bytes 0 = false)
    (hx : ev ρ x = s.val) (hy : ev ρ y = x'.val) (hm : mAppend e ti.size ti.bytes z.cells s x' k h)
    (nx : ∀ s' h', k s' h' → next (put ρ d s'.val) L h') : aOp P ⟨d, .call ⟨.builtin .append, [x, y].toArray, [t, t'].toArray⟩, ty, ps, af, gd⟩ ρ L h next C := fun ap => by
  show awp P (execOp (ev ρ) ⟨d, .call ⟨.builtin .append, [x, y].toArray, [t, t'].toArray⟩, ty, ps, af, gd⟩) _ _ _ _
  rw [exec_append hx hy]
  refine (awp_bind _ _ _ _).2 ?_
  obtain ⟨new, hrow, hnl, hpl, hm⟩ := hm
  exact app_awp (o := ⟨d, .call ⟨.builtin .append, [x, y].toArray, [t, t'].toArray⟩, ty, ps, af, gd⟩) hu hu' hi hz (fun e => by rw [e] at hby; cases hby) ap hm (Row_un ap hrow) hnl hpl nx

/-! Equality. -/
theorem y_eqB {t u : TypeId} {x y : Operand} {a b : Bool} (hu : P.underlying t = some .bool) (hx : ev ρ x = .bool a) (hy : ev ρ y = .bool b) : YE P ⟨d, .binOp .eql t x y u, ty, ps, af, gd⟩ ρ (.bool (a == b)) := by
  refine YE.val rfl rfl ?_
  show QV P (do eqGuard .eql t x y (ev ρ x) (ev ρ y); binOp .eql t (ev ρ x) (ev ρ y)) _
  rw [hx, hy]
  refine QV.bind (a := ()) (QV.pure _) ?_
  refine QV.bind (a := (a == b)) ?_ (QV.pure _)
  show QV P (Op.equalIn Op.maxDepth t (.bool a) (.bool b)) _
  unfold Op.maxDepth Op.equalIn
  exact QV.bind (QV.underlying hu) (QV.pure _)
theorem y_neB {t u : TypeId} {x y : Operand} {a b : Bool} (hu : P.underlying t = some .bool) (hx : ev ρ x = .bool a) (hy : ev ρ y = .bool b) : YE P ⟨d, .binOp .neq t x y u, ty, ps, af, gd⟩ ρ (.bool (!(a == b))) := by
  refine YE.val rfl rfl ?_
  show QV P (do eqGuard .neq t x y (ev ρ x) (ev ρ y); binOp .neq t (ev ρ x) (ev ρ y)) _
  rw [hx, hy]
  refine QV.bind (a := ()) (QV.pure _) ?_
  refine QV.bind (a := (a == b)) ?_ (QV.pure _)
  show QV P (Op.equalIn Op.maxDepth t (.bool a) (.bool b)) _
  unfold Op.maxDepth Op.equalIn
  exact QV.bind (QV.underlying hu) (QV.pure _)
end more
end Go.Proofs.Ytiajjcboddaenaa.K
namespace Go.Proofs.Ytiajjcboddaenaa.K
open Go

section eq
variable {P : Program} {ρ : Env}
variable {d : Option Tmp} {ty : TypeId} {ps : String} {af : Array Edge} {gd : Option (Nat × Bool)}
theorem y_eqOf {t u : TypeId} {x y : Operand} {vx vy : Value} {b : Bool} (hx : ev ρ x = vx) (hy : ev ρ y = vy) (hg : QV P (eqGuard .eql t x y vx vy) ()) (hb : binOp .eql t vx vy = (do pure (.bool (← Op.equal t vx vy)) : Sem Value)) (he : QV P (Op.equal t vx vy) b) :
    YE P ⟨d, .binOp .eql t x y u, ty, ps, af, gd⟩ ρ (.bool b) := by
  refine YE.val rfl rfl ?_
  show QV P (do eqGuard .eql t x y (ev ρ x) (ev ρ y); binOp .eql t (ev ρ x) (ev ρ y)) _
  rw [hx, hy]
  refine QV.bind hg ?_
  rw [hb]
  exact QV.bind he (QV.pure _)
theorem y_neOf {t u : TypeId} {x y : Operand} {vx vy : Value} {b : Bool} (hx : ev ρ x = vx) (hy : ev ρ y = vy) (hg : QV P (eqGuard .neq t x y vx vy) ()) (hb : binOp .neq t vx vy = (do pure (.bool (!(← Op.equal t vx vy))) : Sem Value)) (he : QV P (Op.equal t vx vy) b) :
    YE P ⟨d, .binOp .neq t x y u, ty, ps, af, gd⟩ ρ (.bool !b) := by
  refine YE.val rfl rfl ?_
  show QV P (do eqGuard .neq t x y (ev ρ x) (ev ρ y); binOp .neq t (ev ρ x) (ev ρ y)) _
  rw [hx, hy]
  refine QV.bind hg ?_
  rw [hb]
  exact QV.bind he (QV.pure _)
theorem eq_nilP {t e : TypeId} {p : Option Addr} (hu : P.underlying t = some (.pointer e)) : QV P (Op.equal t (.pointer p) (.pointer none)) p.isNone := by
  show QV P (Op.equalIn Op.maxDepth t _ _) _
  unfold Op.maxDepth Op.equalIn
  refine QV.bind (QV.underlying hu) ?_
  cases p <;> exact QV.pure _
theorem eq_nilS {t e : TypeId} {s : Sl} {n c : Nat} (hu : P.underlying t = some (.slice e)) : QV P (Op.equal t s.val (.slice none n c)) s.a.isNone := by
  show QV P (Op.equalIn Op.maxDepth t _ _) _
  unfold Op.maxDepth Op.equalIn Sl.val
  refine QV.bind (QV.underlying hu) ?_
  cases s.a <;> exact QV.pure _
theorem eq_nilM {t k e : TypeId} {p : Option Nat} (hu : P.underlying t = some (.map k e)) : QV P (Op.equal t (.map p) (.map none)) p.isNone := by
  show QV P (Op.equalIn Op.maxDepth t _ _) _
  unfold Op.maxDepth Op.equalIn
  refine QV.bind (QV.underlying hu) ?_
  cases p <;> exact QV.pure _
theorem y_eqP {t e u : TypeId} {x y : Operand} {p : Option Addr} (hu : P.underlying t = some (.pointer e)) (hx : ev ρ x = .pointer p) (hy : ev ρ y = .pointer none) : YE P ⟨d, .binOp .eql t x y u, ty, ps, af, gd⟩ ρ (.bool p.isNone) := y_eqOf hx hy (QV.pure _) rfl (eq_nilP hu)
theorem y_neP {t e u : TypeId} {x y : Operand} {p : Option Addr} (hu : P.underlying t = some (.pointer e)) (hx : ev ρ x = .pointer p) (hy : ev ρ y = .pointer none) : YE P ⟨d, .binOp .neq t x y u, ty, ps, af, gd⟩ ρ (.bool !p.isNone) := y_neOf hx hy (QV.pure _) rfl (eq_nilP hu)
theorem y_eqSl {t e u : TypeId} {x y : Operand} {s : Sl} {n c : Nat} (hu : P.underlying t = some (.slice e)) (hx : ev ρ x = s.val) (hy : ev ρ y = .slice none n c) : YE P ⟨d, .binOp .eql t x y u, ty, ps, af, gd⟩ ρ (.bool s.a.isNone) := y_eqOf hx hy (QV.pure _) rfl (eq_nilS hu)
theorem y_neSl {t e u : TypeId} {x y : Operand} {s : Sl} {n c : Nat} (hu : P.underlying t = some (.slice e)) (hx : ev ρ x = s.val) (hy : ev ρ y = .slice none n c) : YE P ⟨d, .binOp .neq t x y u, ty, ps, af, gd⟩ ρ (.bool !s.a.isNone) := y_neOf hx hy (QV.pure _) rfl (eq_nilS hu)
theorem y_eqM {t k e u : TypeId} {x y : Operand} {p : Option Nat} (hu : P.underlying t = some (.map k e)) (hx : ev ρ x = .map p) (hy : ev ρ y = .map none) : YE P ⟨d, .binOp .eql t x y u, ty, ps, af, gd⟩ ρ (.bool p.isNone) := y_eqOf hx hy (QV.pure _) rfl (eq_nilM hu)
theorem y_neM {t k e u : TypeId} {x y : Operand} {p : Option Nat} (hu : P.underlying t = some (.map k e)) (hx : ev ρ x = .map p) (hy : ev ρ y = .map none) : YE P ⟨d, .binOp .neq t x y u, ty, ps, af, gd⟩ ρ (.bool !p.isNone) := y_neOf hx hy (QV.pure _) rfl (eq_nilM hu)

/-- Two values of a type are equal just if 'b', where no more than 'n' levels lie in one another. -/
def EQ (P : Program) (n : Nat) (t : TypeId) (x y : Value) (b : Bool) : Prop := ∀ k, n ≤ k → QV P (Op.equalIn k t x y) b
theorem eq_int {t : TypeId} {j k : IntKind} {a b : Int} (hu : P.underlying t = some (.int j)) : EQ P 1 t (.int k a) (.int k b) (decide (a = b)) := fun m hm => by
  obtain ⟨m, rfl⟩ : ∃ q, m = q + 1 := ⟨m - 1, by omega⟩
  unfold Op.equalIn
  refine QV.bind (QV.underlying hu) ?_
  simp only [if_true]
  exact QV.pure _
theorem eq_bool {t : TypeId} {a b : Bool} (hu : P.underlying t = some .bool) : EQ P 1 t (.bool a) (.bool b) (a == b) := fun m hm => by
  obtain ⟨m, rfl⟩ : ∃ q, m = q + 1 := ⟨m - 1, by omega⟩
  unfold Op.equalIn
  exact QV.bind (QV.underlying hu) (QV.pure _)
theorem eq_str {t : TypeId} {a b : ByteArray} (hu : P.underlying t = some .string) : EQ P 1 t (.string a) (.string b) (a == b) := fun m hm => by
  obtain ⟨m, rfl⟩ : ∃ q, m = q + 1 := ⟨m - 1, by omega⟩
  unfold Op.equalIn
  exact QV.bind (QV.underlying hu) (QV.pure _)
def PartOk (P : Program) (f : Field) (cs : Array Value) (v : Value) : Prop := QV P (part f.type cs f.offset) v
theorem part_one {f : Field} {cs : Array Value} {v : Value} {td : TypeDesc} (hu : P.underlying f.type = some td) (hs : aggB td = false) (hv : cs[f.offset]? = some v) : PartOk P f cs v := by
  unfold PartOk part
  refine QV.bind (QV.isAgg hu) ?_
  rw [hs]
  simp only [Bool.false_eq_true, if_false, hv]
  exact QV.pure _
theorem part_agg {f : Field} {cs : Array Value} {v : Value} {td : TypeDesc} {ti : TypeInfo} (hu : P.underlying f.type = some td) (hs : aggB td = true) (hi : P.info? f.type = some ti) (hv : Value.agg (cs.extract f.offset (f.offset + ti.size)) = v) : PartOk P f cs v := by
  unfold PartOk part
  refine QV.bind (QV.isAgg hu) ?_
  rw [hs, ← hv]
  simp only [if_true]
  exact QV.bind (QV.sizeOf hi) (QV.pure _)
def EFs (P : Program) (n : Nat) : List Field → Array Value → Array Value → Bool → Prop
  | [], _, _, b => b = true
  | f :: r, xs, ys, b => (f.name == "_") = false ∧ ∃ x y b1 b2, PartOk P f xs x ∧ PartOk P f ys y ∧ EQ P n f.type x y b1 ∧ EFs P n r xs ys b2 ∧ b = (b1 && b2)
theorem efs_nil {n : Nat} {xs ys : Array Value} : EFs P n [] xs ys true := rfl
theorem efs_cons {n n1 : Nat} {f : Field} {r : List Field} {xs ys : Array Value} {x y : Value} {b1 b2 : Bool} (hn : (f.name == "_") = false) (px : PartOk P f xs x) (py : PartOk P f ys y) (e : EQ P n1 f.type x y b1) (hle : Nat.ble n1 n = true) (h : EFs P n r xs ys b2) : EFs P n (f :: r) xs ys (b1 && b2) :=
  ⟨hn, x, y, b1, b2, px, py, fun k hk => e k (Nat.le_trans (Nat.le_of_ble_eq_true hle) hk), h, rfl⟩
theorem efs_run {n k : Nat} (hk : n ≤ k) {xs ys : Array Value} : ∀ {fl : List Field} {b : Bool}, EFs P n fl xs ys b → QV P (do
      for f in fl do
        if f.name ≠ "_" then
          if !(← Op.equalIn k f.type (← part f.type xs f.offset) (← part f.type ys f.offset)) then return false
      pure true : Sem Bool) b := by
  intro fl
  induction fl with
  | nil => intro b h; subst h; exact QV.pure _
  | cons f r ih =>
    intro b h
    obtain ⟨hn, x, y, b1, b2, px, py, e, h, rfl⟩ := h
    have hne : f.name ≠ "_" := by intro q; rw [q] at hn; simp at hn
    have q1 := ih h
    cases b1 with
    | true =>
      rw [Bool.true_and]
      simp only [List.forIn_cons, hne, ne_eq, not_false_eq_true, if_true, bind_assoc] at q1 ⊢
      refine QV.bind px (QV.bind py (QV.bind (e k hk) ?_))
      simpa using q1
    | false =>
      rw [Bool.false_and]
      simp only [List.forIn_cons, hne, ne_eq, not_false_eq_true, if_true, bind_assoc]
      refine QV.bind px (QV.bind py (QV.bind (e k hk) ?_))
      exact QV.pure _
theorem eq_struct {t : TypeId} {fl : List Field} {xs ys : Array Value} {n : Nat} {b : Bool} (hu : P.underlying t = some (.struct fl.toArray)) (hs : P.stoodInHeld t = false) (h : EFs P n fl xs ys b) : EQ P (n + 1) t (.agg xs) (.agg ys) b := fun m hm => by
  obtain ⟨m, rfl⟩ : ∃ q, m = q + 1 := ⟨m - 1, by omega⟩
  unfold Op.equalIn
  refine QV.bind (QV.underlying hu) ?_
  simp only []
  refine QV.bind (a := P) (QV.program) ?_
  rw [hs]
  have := efs_run (k := m) (by omega) h
  simpa using this
theorem y_eqA {t u : TypeId} {x y : Operand} {xs ys : Array Value} {n : Nat} {b : Bool} (hq : P.eqGuardType P.depth t = false) (hx : ev ρ x = .agg xs) (hy : ev ρ y = .agg ys) (e : EQ P n t (.agg xs) (.agg ys) b) (hn : Nat.ble n 100 = true) : YE P ⟨d, .binOp .eql t x y u, ty, ps, af, gd⟩ ρ (.bool b) := by
  refine y_eqOf hx hy ?_ rfl (e _ (by have := Nat.le_of_ble_eq_true hn; unfold Op.maxDepth; omega))
  unfold eqGuard
  simp only [Bool.not_true, Bool.false_eq_true, if_false]
  refine QV.bind QV.program (QV.bind QV.program ?_)
  rw [hq]
  exact QV.pure _
theorem y_neA {t u : TypeId} {x y : Operand} {xs ys : Array Value} {n : Nat} {b : Bool} (hq : P.eqGuardType P.depth t = false) (hx : ev ρ x = .agg xs) (hy : ev ρ y = .agg ys) (e : EQ P n t (.agg xs) (.agg ys) b) (hn : Nat.ble n 100 = true) : YE P ⟨d, .binOp .neq t x y u, ty, ps, af, gd⟩ ρ (.bool !b) := by
  refine y_neOf hx hy ?_ rfl (e _ (by have := Nat.le_of_ble_eq_true hn; unfold Op.maxDepth; omega))
  unfold eqGuard
  simp only [Bool.not_true, Bool.false_eq_true, if_false]
  refine QV.bind QV.program (QV.bind QV.program ?_)
  rw [hq]
  exact QV.pure _
end eq
end Go.Proofs.Ytiajjcboddaenaa.K
namespace Go.Proofs.Ytiajjcboddaenaa.K
open Go

section
variable {P : Program} {C : PPost} {next : Post} {ρ : Env} {L h : H} {v : Value}
variable {d : Option Tmp} {ty : TypeId} {ps : String} {af : Array Edge} {gd : Option (Nat × Bool)}
theorem y_makeFunc {f : FuncId} {fl l : List Operand} {fvl vl : List Value} (hf : fl.map (ev ρ) = fvl) (hv : l.map (ev ρ) = vl) : YE P ⟨d, .makeFunc (.func f) fl.toArray l.toArray, ty, ps, af, gd⟩ ρ (.func (.func f) fvl.toArray vl.toArray) := by
  refine YE.val rfl rfl ?_
  subst hf; subst hv
  show QV P (Instr.makeFunc (.func f) (fl.toArray.map (ev ρ)) (l.toArray.map (ev ρ))) _
  rw [List.map_toArray (l := l), List.map_toArray (l := fl)]
  unfold Instr.makeFunc
  exact QV.pure _
/-- A call of a function that came as a value: a function of the program, or a loop's yield. -/
def mCallV {T : Type} (P : Program) (enc : T → Value) (fv : Value) (args : List Value) (k : T → H → Prop) : H → Prop := fun h =>
  (∃ f fn first cap, fv = .func (.func f) first cap ∧ Callee P f fn ∧ ACall P f (first ++ args.toArray ++ cap) h (fun v h' => ∃ r, v = enc r ∧ k r h') noP) ∨
  ∃ l, fv = .func (.yield l) #[] #[] ∧ mYield P l args (fun v h' => ∃ r, v = enc r ∧ k r h') h
theorem v_callV {T : Type} {enc : T → Value} {x : Operand} {fv : Value} {l : List Operand} {vl : List Value} {ts : Array TypeId} {k : T → H → Prop} (hx : ev ρ x = fv) (hv : l.map (ev ρ) = vl) (hm : mCallV P enc fv vl k h)
    (nx : ∀ r h', k r h' → next (put ρ d (enc r)) L h') : aOp P ⟨d, .call ⟨.value x, l.toArray, ts⟩, ty, ps, af, gd⟩ ρ L h next C := fun ap => by
  rcases hm with ⟨f, fn, first, cap, rfl, c, hc⟩ | ⟨y, rfl, r, hr, hlen, hc⟩
  · show awp P (execOp (ev ρ) ⟨d, .call ⟨.value x, l.toArray, ts⟩, ty, ps, af, gd⟩) _ _ _ _
    have e : execOp (ev ρ) ⟨d, .call ⟨.value x, l.toArray, ts⟩, ty, ps, af, gd⟩ = callFunc f ((first ++ l.toArray.map (ev ρ)) ++ cap) := by
      show (do let d ← Deferred.ofValue (ev ρ x) (l.toArray.map (ev ρ)); invoke d.target d.args : Sem Next) = _
      rw [hx]; rfl
    rw [e, List.map_toArray, hv]
    exact callFunc_awp c ⟨trivial, L, h, rfl, id, .refl _ _, hc.mono (fun v h'' ⟨r, e, k⟩ _ => by subst e; exact nx r h'' k) fun _ _ k => k.elim⟩
  · show awp P (execOp (ev ρ) ⟨d, .call ⟨.value x, l.toArray, ts⟩, ty, ps, af, gd⟩) _ _ _ _
    have e : execOp (ev ρ) ⟨d, .call ⟨.value x, l.toArray, ts⟩, ty, ps, af, gd⟩ = Instr.yield y vl.toArray := by
      show (do let d ← Deferred.ofValue (ev ρ x) (l.toArray.map (ev ρ)); invoke d.target d.args : Sem Next) = _
      rw [hx, List.map_toArray, hv]
      show Instr.yield y (#[] ++ vl.toArray) = _
      rw [Array.empty_append]
    rw [e]
    unfold Instr.yield Instr.getLoop
    refine (awp_bind _ _ _ _).2 ((awp_bind _ _ _ _).2 ⟨_, un_at ap hr, rfl, ?_⟩)
    show awp P (if vl.toArray.size ≠ r.params.size then _ else _) _ _ _ _
    rw [if_neg (by simpa using hlen)]
    refine ⟨trivial, L, h, rfl, id, .refl _ _, ?_⟩
    have e2 : (r.params.zip vl.toArray).foldl (fun tmps (t, a) => tmps.setIfInBounds t a) r.tmps = (r.params.toList.zip vl).foldl (fun t p => t.setIfInBounds p.1 p.2) r.tmps := by
      rw [← Array.foldl_toList, Array.toList_zip]
    show ARnd P y r.fn ((r.params.zip vl.toArray).foldl (fun tmps (t, a) => tmps.setIfInBounds t a) r.tmps) r.assign r.body h _ _
    rw [e2]
    exact hc.mono (fun v h'' ⟨r, e, k⟩ _ => by subst e; exact nx r h'' k) fun _ _ k => k.elim
/-- A range over a function: 'body' is a round (its argument; what comes between the loop's variables and its text; its ways out by their numbers), 'k' what follows the loop, by the way out of its last round. -/
def mRangeF {A : Type} (P : Program) (enc : A → List Value) (fv : Value) (body : A → ((H → Prop) → H → Prop) → (Nat → H → Prop) → H → Prop) (k : Nat → H → Prop) : H → Prop := fun h =>
  ∃ f fn first cap, fv = .func (.func f) first cap ∧ Callee P f fn ∧ ∀ (l : Nat) (ob : Nat → Obj) (bz : Obj), h l = none →
    (∀ (x : A) (kb : Bool → H → Prop) (h' : H), h' l = some (ob 0) →
      body x (fun q h1 => h1 l = some (ob 0) ∧ q (upd h1 l bz)) (fun j h2 => h2 l = some bz ∧ kb (Nat.beq j 0) (upd h2 l (ob j))) h' → mYield P l (enc x) (fun v h'' => ∃ b, v = .bool b ∧ kb b h'') h') →
    ACall P f (first ++ #[.func (.yield l) #[] #[]] ++ cap) (upd h l (ob 0)) (fun _ h'' => ∃ j, h'' l = some (ob j) ∧ ∀ o, k j (upd h'' l o)) noP

/-- make([]T, n, c). -/
def mMake (elem : TypeId) (by_ : Nat) (zero : Array Value) (n c : Int) (k : Sl → H → Prop) : H → Prop := fun h =>
  0 ≤ n ∧ n ≤ c ∧ c ≤ 9223372036854775807 ∧ (by_ : Int) * c ≤ 2 ^ 48 ∧ ∀ b, h b = none → k ⟨some ⟨b, 0, none⟩, n.toNat, c.toNat⟩ (upd h b (.cells (Builtin.zeroCells zero c.toNat) elem (0, 0)))
theorem wrap_id {n : Int} (h0 : 0 ≤ n) (h1 : n ≤ 9223372036854775807) : IntKind.i64.wrap n = n := by
  have e : n % 2 ^ 64 = n := Int.emod_eq_of_lt h0 (by omega)
  unfold IntKind.wrap
  simp only [IntKind.signed, IntKind.bits, e]
  rw [if_neg]
  simp
  omega
theorem v_make {t e : TypeId} {ti : TypeInfo} {z : Value} {x y : Operand} {k1 k2 : IntKind} {n c : Int} {k : Sl → H → Prop} (hu : P.underlying t = some (.slice e)) (hi : P.info? e = some ti) (hz : ti.zero = some z) (hsz : z.cells.size = ti.size)
    (hx : ev ρ x = .int k1 n) (hy : ev ρ y = .int k2 c) (hm : mMake e ti.bytes z.cells n c k h) (nx : ∀ s h', k s h' → next (put ρ d s.val) L h') : aOp P ⟨d, .makeSlice t x y, ty, ps, af, gd⟩ ρ L h next C := fun ap => by
  obtain ⟨h0, h1, h2, h3, hk⟩ := hm
  show awp P (do pure (.value (← Instr.makeSlice t (ev ρ x) (ev ρ y))) : Sem Next) _ _ _ _
  rw [hx, hy]
  refine (awp_bind _ _ _ _).2 ?_
  unfold Instr.makeSlice
  refine AV.use (AV.underlying hu) ?_
  simp only []
  refine AV.use (a := n) (AV.pure n) (AV.use (a := c) (AV.pure c) (AV.use (AV.typeInfo hi) ?_))
  rw [wrap_id h0 (by omega), wrap_id (by omega) h2]
  have hb : (ti.bytes : Int) * n ≤ (ti.bytes : Int) * c := Int.mul_le_mul_of_nonneg_left h1 (by omega)
  rw [if_neg (by simp only [Bool.or_eq_true, decide_eq_true_eq, not_or]; omega)]
  refine (awp_bind _ _ _ _).2 (room_av fun fl => ?_)
  refine AV.use (AV.sizeOf hi) ?_
  have fin : ∀ (zs : Array Value), (Array.range (c.toNat * ti.size)).map (fun i => zs[i % zs.size]!) = Builtin.zeroCells z.cells c.toNat → awp P (do
      let a ← newRow e ((Array.range (c.toNat * ti.size)).map (fun i => zs[i % zs.size]!))
      pure (Value.slice (some a) n.toNat c.toNat)) (un L h) fl (fun a h' fl' => awp P (pure (Next.value a) : Sem Next) h' fl' (upon P ⟨d, .makeSlice t x y, ty, ps, af, gd⟩ ρ L h next C) fun v hf => C [{ v, recovered := false }] hf) fun v hf => C [{ v, recovered := false }] hf := fun zs e1 => by
    rw [e1]
    intro b hb
    obtain ⟨e1, _, e3⟩ := un_new (o := .cells (Builtin.zeroCells z.cells c.toNat) e (0, 0)) hb
    exact ⟨trivial, L, _, e1, fun ap => (e3 ap).1, .refl _ _, nx _ _ (hk b (un_none.1 hb).2)⟩
  split
  · rename_i hn
    refine AV.use (a := #[]) (AV.pure _) (fin #[] ?_)
    have : c.toNat * ti.size = 0 := hn
    unfold Builtin.zeroCells
    rw [hsz, this]
    simp
  · refine AV.use (AV.zero hi hz) ?_
    refine AV.use (AV.pure z.cells) ?_
    refine fin z.cells ?_
    unfold Builtin.zeroCells
    rw [hsz]

/-! Texts and bytes. -/
theorem grab_prefix : ∀ {l : List Value} {c : Array Value} {off : Nat} {n : Nat}, grab c off n = some l → l.length = n := grab_len
def u8s (l : List UInt8) : List Value := l.map fun b => Value.int .u8 b.toNat
theorem push_bytes : ∀ (l : List UInt8) (s : ByteArray), QV P (forIn (m := Sem) (u8s l).toArray s (fun (c : Value) (s : ByteArray) => (match c with
      | .int .u8 n => pure (ForInStep.yield (s.push (UInt8.ofNat n.toNat)))
      | _ => stuck "bytesToString: byte expected" : Sem (ForInStep ByteArray)))) ⟨s.data ++ l.toArray⟩ := by
  intro l
  induction l with
  | nil => intro s; simp [u8s]; exact QV.pure s
  | cons b r ih =>
    intro s
    have e : (u8s (b :: r)).toArray.toList = Value.int .u8 b.toNat :: u8s r := rfl
    rw [← Array.forIn_toList, e, List.forIn_cons]
    refine QV.bind (QV.pure _) ?_
    have := ih (s.push (UInt8.ofNat (b.toNat : Int).toNat))
    rw [← Array.forIn_toList] at this
    have e2 : (⟨(s.push (UInt8.ofNat (b.toNat : Int).toNat)).data ++ r.toArray⟩ : ByteArray) = ⟨s.data ++ (b :: r).toArray⟩ := by
      congr 1
      show s.data.push _ ++ r.toArray = _
      rw [Int.toNat_natCast, UInt8.ofNat_toNat]
      simp
    rw [e2] at this
    exact this

/-- string(bytes). -/
theorem v_text {src dst e : TypeId} {x : Operand} {s : Sl} {k : ByteArray → H → Prop} (hus : P.underlying src = some (.slice e)) (hud : P.underlying dst = some .string) (hue : P.underlying e = some (.int .u8)) (hx : ev ρ x = s.val) (hm : mText s k h)
    (nx : ∀ t, k t h → next (put ρ d (.string t)) L h) : aOp P ⟨d, .convert src dst x, ty, ps, af, gd⟩ ρ L h next C := by
  obtain ⟨l, hrow, hlen, hk⟩ := hm
  refine aOp_q (K := fun v hf => v = .string ⟨l.toArray⟩ ∧ hf = un L h) (by simp only [quietOp, hud]) rfl (fun ap => ?_) (fun v hf kk => ⟨L, h, kk.2, id, .refl _ _, by rw [kk.1]; exact nx _ hk⟩)
  show qwp P (convert src dst (ev ρ x)) _ _ _
  rw [hx]
  unfold convert Sl.val
  refine (qwp_bind _ _ _).2 (QV.underlying hus _ _ _ ((qwp_bind _ _ _).2 (QV.underlying hud _ _ _ ?_)))
  simp only []
  refine (qwp_bind _ _ _).2 (QV.underlying hue _ _ _ ?_)
  simp only []
  unfold Conv.bytesToString
  cases ha : s.a with
  | none =>
    rw [ha] at hrow
    have : l = [] := List.map_eq_nil_iff.1 hrow
    subst this
    exact ⟨rfl, rfl⟩
  | some a =>
    rw [ha] at hrow
    refine (qwp_bind _ _ _).2 ?_
    have hl := hlen (by rw [ha]; rfl)
    have fin : qwp P (forIn (m := Sem) (u8s l).toArray ByteArray.empty (fun (c : Value) (s : ByteArray) => (match c with
      | .int .u8 n => pure (ForInStep.yield (s.push (UInt8.ofNat n.toNat)))
      | _ => stuck "bytesToString: byte expected" : Sem (ForInStep ByteArray))) >>= fun s => pure (Value.string s)) (un L h) (fun v hf => v = Value.string ⟨l.toArray⟩ ∧ hf = un L h) (fun v hf => C [{ v, recovered := false }] hf) := by
      refine (qwp_bind _ _ _).2 (push_bytes l _ _ _ _ ?_)
      exact ⟨by show Value.string ⟨#[] ++ l.toArray⟩ = _; rw [Array.empty_append], rfl⟩
    rcases hrow with hrow | hat
    · have : l = [] := List.map_eq_nil_iff.1 hrow
      subst this
      rw [← hl]
      exact fin
    · obtain ⟨hsp, c, e, fz, hb, hg⟩ := At_un ap hat
      show qwp P (loadCellsFrom a 0 s.len #[]) _ _ _
      rw [List.length_map, hl] at hg
      exact loadFrom_run hsp hb s.len 0 #[] (u8s l) _ hg (by rw [Array.empty_append]; exact fin)
/-- []byte(text). -/
theorem v_bytes {src dst e : TypeId} {x : Operand} {s : ByteArray} {k : Sl → H → Prop} (hus : P.underlying src = some .string) (hud : P.underlying dst = some (.slice e)) (hue : P.underlying e = some (.int .u8)) (hx : ev ρ x = .string s) (hm : mBytes e s k h)
    (nx : ∀ s' h', k s' h' → next (put ρ d s'.val) L h') : aOp P ⟨d, .convert src dst x, ty, ps, af, gd⟩ ρ L h next C := fun ap => by
  rw [show quietOp P (Op.convert src dst x) = false by simp only [quietOp, hud]]
  show awp P (do pure (.value (← convert src dst (ev ρ x))) : Sem Next) _ _ _ _
  rw [hx]
  refine (awp_bind _ _ _ _).2 ?_
  unfold convert
  refine AV.use (AV.underlying hus) (AV.use (AV.underlying hud) ?_)
  simp only []
  refine AV.use (AV.underlying hue) ?_
  simp only []
  unfold Conv.stringToBytes
  refine (awp_bind _ _ _ _).2 ?_
  intro q
  have hcap : s.size ≤ (Question.appendCap s.size 0 e).cut q := by simp only [Question.cut]; omega
  generalize (Question.appendCap s.size 0 e).cut q = cap at hcap
  intro b hb
  have e0 := un_new (o := .cells ((s.data.map fun b => Value.int .u8 b.toNat) ++ Array.replicate (cap - s.size) (.int .u8 0)) e (0, 0)) hb
  have hsz : ((s.data.map fun b : UInt8 => Value.int .u8 b.toNat) ++ Array.replicate (cap - s.size) (Value.int .u8 0)).size = s.size + (cap - s.size) := by rw [Array.size_append, Array.size_map, Array.size_replicate]; rfl
  refine ⟨_, upd_same _ _ _, ?_⟩
  show awp P _ _ _ _ _
  refine ⟨_, upd_same _ _ _, rfl, Nat.one_ne_zero, ?_⟩
  rw [upd_upd]
  obtain ⟨e1, _, e3⟩ := un_new (o := .cells ((s.data.map fun b => Value.int .u8 b.toNat) ++ Array.replicate (cap - s.size) (.int .u8 0)) e (s.size + (cap - s.size), s.size + (cap - s.size) + 1)) hb
  refine ⟨trivial, L, _, ?_, fun ap => (e3 ap).1, .refl _ _, nx _ _ (hm b cap (un_none.1 hb).2 hcap)⟩
  rw [← e1]
  congr 1
  simp only [freezeIn, hsz, beq_self_eq_true, if_true]
end
end Go.Proofs.Ytiajjcboddaenaa.K
namespace Go.Proofs.Ytiajjcboddaenaa.K
open Go

/-- A map's entries; how many it has had. -/
def MapAt (h : H) (r : Option Nat) (es : Array MapEntry) (cl : Nat) : Prop := match r with
  | none => es = #[] ∧ cl = 0
  | some b => h b = some (.map es cl)
/-- Where a key stands, by an equality. -/
def findR (eq : Value → Value → Option Bool) (key : Value) : List MapEntry → Nat → Option (Nat × Value)
  | [], _ => none
  | e :: r, i => match eq key e.key with
    | some true => some (i, e.val)
    | _ => findR eq key r (i + 1)
/-- Each key that is held can be compared. -/
def Keys (eq : Value → Value → Option Bool) (key : Value) (es : Array MapEntry) : Prop := ∀ e ∈ es.toList, ∃ b, eq key e.key = some b
def mMakeMap (k : Option Nat → H → Prop) : H → Prop := fun h => ∀ b, h b = none → k (some b) (upd h b (.map #[] 0))
def mLookup {X : Type} (eq : Value → Value → Option Bool) (vc : X → Value) (z : X) (m : Option Nat) (key : Value) (k : X × Bool → H → Prop) : H → Prop := fun h =>
  ∃ es cl, MapAt h m es cl ∧ Keys eq key es ∧ match findR eq key es.toList 0 with
    | none => k (z, false) h
    | some (_, v) => ∃ x, v = vc x ∧ k (x, true) h
def mMapSet (eq : Value → Value → Option Bool) (m : Option Nat) (key val : Value) (k : H → Prop) : H → Prop := fun h =>
  ∃ b es cl, m = some b ∧ h b = some (.map es cl) ∧ Keys eq key es ∧ match findR eq key es.toList 0 with
    | none => k (upd h b (.map (es.push { key, val, born := cl }) (cl + 1)))
    | some (i, _) => (es[i]?).map (·.key) = some key ∧ k (upd h b (.map (es.modify i fun e => { e with key, val := val }) cl))
def mMapDel (eq : Value → Value → Option Bool) (m : Option Nat) (key : Value) (k : H → Prop) : H → Prop := fun h => match m with
  | none => k h
  | some b => ∃ es cl, h b = some (.map es cl) ∧ Keys eq key es ∧ match findR eq key es.toList 0 with
    | none => k h
    | some (i, _) => k (upd h b (.map (es.eraseIdxIfInBounds i) cl))
def mMapLen (m : Option Nat) (k : Int → H → Prop) : H → Prop := fun h => ∃ es cl, MapAt h m es cl ∧ es.size ≤ 9223372036854775807 ∧ k (es.size : Nat) h
/-- A cut with a capacity. -/
def isCut3 (s : Sl) (lo hi mx : Int) (size : Nat) (x : Sl) : Prop := 0 ≤ lo ∧ lo ≤ hi ∧ hi ≤ mx ∧ mx ≤ s.cap ∧ x = ⟨if mx.toNat = lo.toNat then s.a else s.a.map (·.add (lo.toNat * size)), hi.toNat - lo.toNat, mx.toNat - lo.toNat⟩
def mCut3 (s : Sl) (lo hi mx : Int) (size : Nat) (k : Sl → H → Prop) : H → Prop := fun h => ∃ x, isCut3 s lo hi mx size x ∧ k x h
/-- clear of a slice. -/
def mClear (zero : Array Value) (s : Sl) (k : H → Prop) : H → Prop := fun h => (s.a = none ∨ s.len = 0) ∧ k h ∨ s.len ≠ 0 ∧ ∃ a, s.a = some a ∧ mStore a (Builtin.zeroCells zero s.len).toList k h
def mMapClear (m : Option Nat) (k : H → Prop) : H → Prop := fun h => match m with
  | none => k h
  | some b => ∃ es cl, h b = some (.map es cl) ∧ k (upd h b (.map #[] cl))
/-- A run over a map: its state lies in memory. -/
def mRange (m : Option Nat) (k : Addr → H → Prop) : H → Prop := fun h => ∃ es cl, MapAt h m es cl ∧ ∀ b, h b = none → k ⟨b, 0, none⟩ (upd h b (.mapIter m cl #[] cl))
/-- The next entry: any that has not been seen; the end only if none is left that the map held at the beginning. What follows the yes or no is the entry itself. -/
def mNext (a : Addr) (k : Bool × List Value → H → Prop) : H → Prop := fun h => a.off = 0 ∧ ∃ m since seen last, h a.block = some (.mapIter m since seen last) ∧ match m with
  | none => k (false, []) h
  | some b => ∃ es cl, h b = some (.map es cl) ∧ ((!seen.isEmpty && !es.isEmpty && es.all (·.born ≥ last)) = false) ∧
    (((es.filter fun e => !seen.contains e.born).filter (·.born < since)).isEmpty = true → k (false, []) h) ∧
    ∀ e ∈ es.toList, seen.contains e.born = false → k (true, [e.key, e.val]) (upd h a.block (.mapIter (some b) since (seen.push e.born) cl))
/-- The entry that the last step went to. -/
def mEntry {X Y : Type} (kc : X → Value) (vc : Y → Value) (a : Addr) (k : X × Y → H → Prop) : H → Prop := fun h => a.off = 0 ∧ ∃ m since seen stamp es cl e x y, h a.block = some (.mapIter (some m) since seen cl) ∧ seen.back? = some stamp ∧
  h m = some (.map es cl) ∧ es.find? (·.born == stamp) = some e ∧ e.key = kc x ∧ e.val = vc y ∧ k (x, y) h

section
variable {P : Program} {C : PPost} {next : Post} {ρ : Env} {L h : H} {v : Value}
variable {d : Option Tmp} {ty : TypeId} {ps : String} {af : Array Edge} {gd : Option (Nat × Bool)}
theorem q_use {α β : Type} {s : Sem α} {a : α} (x : QV P s a) {f : α → Sem β} {hf : H} {K : β → H → Prop} {E : Value → H → Prop} (k : qwp P (f a) hf K E) : qwp P (s >>= f) hf K E := (qwp_bind _ _ _).2 (x _ _ _ k)
theorem a_use {α β : Type} {s : Sem α} {a : α} (x : QV P s a) {f : α → Sem β} {hf : H} {K : β → H → Bool → Prop} {E : Value → H → Prop} (k : awp P (f a) hf false K E) : awp P (s >>= f) hf false K E :=
  (awp_bind _ _ _ _).2 (awp_mono (fun a' h' fl q => by obtain ⟨rfl, rfl, rfl⟩ := q; exact k) (fun _ _ q => q) _ _ _ (qwp_awp _ _ (x hf (fun a' h' => a' = a ∧ h' = hf) E ⟨rfl, rfl⟩)))
theorem a_get {α : Type} {b : Nat} {o : Obj} {f : Obj → Sem α} {hf : H} {fl : Bool} {K : α → H → Bool → Prop} {E : Value → H → Prop} (hb : hf b = some o) (hc : isCells o = false) (k : awp P (f o) hf fl K E) : awp P (getObj b >>= f) hf fl K E := (awp_bind _ _ _ _).2 ⟨_, hb, hc, k⟩
theorem v_makeMap {t : TypeId} {k : Option Nat → H → Prop} (hm : mMakeMap k h) (nx : ∀ r h', k r h' → next (put ρ d (.map r)) L h') : aOp P ⟨d, .makeMap t none, ty, ps, af, gd⟩ ρ L h next C := by
  refine aOp_q (K := fun v hf => ∃ b, un L h b = none ∧ v = .map (some b) ∧ hf = upd (un L h) b (.map #[] 0)) (s := Instr.makeMap t none) rfl rfl (fun _ => ?_) (fun v hf ⟨b, hb, e, eh⟩ => ?_)
  · exact fun b hb => ⟨b, hb, rfl, rfl⟩
  · obtain ⟨e1, _, e3⟩ := un_new (o := .map #[] 0) hb
    exact ⟨L, _, eh.trans e1, fun ap => (e3 ap).1, .refl _ _, by rw [e]; exact nx _ _ (hm b (un_none.1 hb).2)⟩
theorem v_lookup {X : Type} {eq : Value → Value → Option Bool} {vc : X → Value} {z : X} {m : Option Nat} {kv : Value} {k : X × Bool → H → Prop} {t kt et : TypeId} {x key : Operand} {ok : Bool} (hu : P.underlying t = some (.map kt et)) (hx : ev ρ x = .map m) (hk : ev ρ key = kv)
    (FK : ∀ es : Array MapEntry, Keys eq kv es → QV P (Instr.findKey kt kv es.toList) (findR eq kv es.toList 0)) (CK : ∀ em, QV P (Instr.checkKey em 10000 kt kv) ()) (hz : QV P (zeroValue et) (vc z)) (hm : mLookup eq vc z m kv k h)
    (nx : ∀ r, k r h → next (put ρ d (if ok then .tuple #[vc r.1, .bool r.2] else vc r.1)) L h) : aOp P ⟨d, .lookup t x key ok, ty, ps, af, gd⟩ ρ L h next C := by
  obtain ⟨es, cl, hat, hks, hr⟩ := hm
  refine aOp_q (K := fun v hf => (∃ r, k r h ∧ v = if ok then .tuple #[vc r.1, .bool r.2] else vc r.1) ∧ hf = un L h) (s := Instr.lookup t (ev ρ x) (ev ρ key) ok) rfl rfl (fun ap => ?_) (fun v hf ⟨⟨r, kr, e⟩, eh⟩ => ⟨L, h, eh, id, .refl _ _, by rw [e]; exact nx r kr⟩)
  rw [hx, hk]
  unfold Instr.lookup
  refine q_use (QV.underlying hu) ?_
  simp only []
  have tl : ∀ r : X × Bool, k r h → qwp P (pure (if ok = true then Value.tuple #[vc r.1, .bool r.2] else vc r.1) : Sem Value) (un L h) (fun v hf => (∃ r, k r h ∧ v = if ok then .tuple #[vc r.1, .bool r.2] else vc r.1) ∧ hf = un L h) (fun v hf => C [{ v, recovered := false }] hf) := fun r kr => ⟨⟨r, kr, rfl⟩, rfl⟩
  have pre : (m = none ∧ es = #[]) ∨ ∃ b, m = some b ∧ h b = some (.map es cl) := by
    cases m with
    | none => exact .inl ⟨rfl, hat.1⟩
    | some b => exact .inr ⟨b, rfl, hat⟩
  clear hat
  rcases pre with ⟨rfl, rfl⟩ | ⟨b, rfl, hb⟩
  · skip
    refine q_use (QV.pure _) ?_
    refine q_use (CK _) (q_use (FK _ hks) ?_)
    split at hr
    · rename_i e
      rw [e]
      refine q_use hz (q_use (QV.pure _) (tl (z, false) hr))
    · rename_i i w e
      obtain ⟨y, rfl, ky⟩ := hr
      rw [e]
      refine q_use (QV.pure _) (tl (y, true) ky)
  · refine (qwp_bind _ _ _).2 ⟨_, un_at ap hb, rfl, ?_⟩
    refine q_use (QV.pure _) ?_
    refine q_use (CK _) (q_use (FK _ hks) ?_)
    split at hr
    · rename_i e
      rw [e]
      refine q_use hz (q_use (QV.pure _) (tl (z, false) hr))
    · rename_i i w e
      obtain ⟨y, rfl, ky⟩ := hr
      rw [e]
      refine q_use (QV.pure _) (tl (y, true) ky)
theorem v_mapSet {eq : Value → Value → Option Bool} {m : Option Nat} {kv w : Value} {k : H → Prop} {t kt et : TypeId} {x key val : Operand} (hu : P.underlying t = some (.map kt et)) (hx : ev ρ x = .map m) (hk : ev ρ key = kv) (hv : ev ρ val = w)
    (FK : ∀ es : Array MapEntry, Keys eq kv es → QV P (Instr.findKey kt kv es.toList) (findR eq kv es.toList 0)) (CK : ∀ em, QV P (Instr.checkKey em 10000 kt kv) ()) (hs : Instr.sameBits 10000 kv kv = true) (hm : mMapSet eq m kv w k h)
    (nx : ∀ h', k h' → next (put ρ d undef) L h') : aOp P ⟨d, .mapUpdate t x key val, ty, ps, af, gd⟩ ρ L h next C := fun ap => by
  obtain ⟨b, es, cl, rfl, hb, hks, hr⟩ := hm
  show awp P (do Instr.mapUpdate t (ev ρ x) (ev ρ key) (ev ρ val); pure Next.skip) _ _ _ _
  rw [hx, hk, hv]
  refine (awp_bind _ _ _ _).2 ?_
  unfold Instr.mapUpdate
  refine a_use (QV.underlying hu) ?_
  simp only []
  refine (awp_bind _ _ _ _).2 ⟨_, un_at ap hb, rfl, ?_⟩
  refine a_use (CK _) (a_use (FK _ hks) ?_)
  have fin : ∀ o, k (upd h b o) → awp P (setObj b o) (un L h) false (fun _ h' fl' => awp P (pure Next.skip : Sem Next) h' fl' (upon P ⟨d, .mapUpdate t x key val, ty, ps, af, gd⟩ ρ L h next C) fun v hf => C [{ v, recovered := false }] hf) fun v hf => C [{ v, recovered := false }] hf := fun o ko => by
    obtain ⟨e1, e2⟩ := un_put (o' := o) ap hb
    refine ⟨_, un_at ap hb, rfl, ?_⟩
    rw [e1]
    exact ⟨trivial, L, _, rfl, fun _ => e2, .refl _ _, nx _ ko⟩
  split at hr
  · rename_i e
    rw [e]
    exact fin _ hr
  · rename_i i u e
    rw [e]
    obtain ⟨ek, hr⟩ := hr
    simp only [ek, Option.getD_some, Instr.keyThatStays, hs, if_true]
    refine a_use (QV.pure _) ?_
    exact fin _ hr
theorem exec_delete {x y : Operand} {ts : List TypeId} {vx vy : Value} (hx : ev ρ x = vx) (hy : ev ρ y = vy) : execOp (ev ρ) ⟨d, .call ⟨.builtin .delete, [x, y].toArray, ts.toArray⟩, ty, ps, af, gd⟩ = (do pure (.value (← Builtin.delete_ ts.toArray ty #[vx, vy])) : Sem Next) := by
  subst hx; subst hy
  have e : ([x, y].toArray.map (ev ρ)) = #[ev ρ x, ev ρ y] := List.map_toArray ..
  rw [← e]
  rfl
theorem v_mapDel {eq : Value → Value → Option Bool} {m : Option Nat} {kv : Value} {k : H → Prop} {t t' kt et : TypeId} {x key : Operand} (hu : P.underlying t = some (.map kt et)) (hx : ev ρ x = .map m) (hk : ev ρ key = kv)
    (FK : ∀ es : Array MapEntry, Keys eq kv es → QV P (Instr.findKey kt kv es.toList) (findR eq kv es.toList 0)) (CK : ∀ em, QV P (Instr.checkKey em 10000 kt kv) ()) (hm : mMapDel eq m kv k h)
    (nx : ∀ h', k h' → next (put ρ d (.tuple #[])) L h') : aOp P ⟨d, .call ⟨.builtin .delete, [x, key].toArray, [t, t'].toArray⟩, ty, ps, af, gd⟩ ρ L h next C := fun ap => by
  show awp P (execOp (ev ρ) ⟨d, .call ⟨.builtin .delete, [x, key].toArray, [t, t'].toArray⟩, ty, ps, af, gd⟩) _ _ _ _
  rw [exec_delete hx hk]
  refine (awp_bind _ _ _ _).2 ?_
  unfold Builtin.delete_
  simp only [List.getElem?_toArray, List.getElem?_cons_zero, List.getElem?_cons_succ]
  refine a_use (QV.underlying hu) ?_
  simp only []
  cases m with
  | none => exact a_use (CK _) (a_use (QV.pure _) ⟨trivial, L, h, rfl, id, .refl _ _, nx _ hm⟩)
  | some b =>
    obtain ⟨es, cl, hb, hks, hr⟩ := hm
    refine (awp_bind _ _ _ _).2 ⟨_, un_at ap hb, rfl, ?_⟩
    refine a_use (CK _) (a_use (FK _ hks) ?_)
    split at hr
    · rename_i e
      rw [e]
      obtain ⟨e1, e2⟩ := un_put (o' := .map es cl) ap hb
      refine (awp_bind _ _ _ _).2 ⟨_, un_at ap hb, rfl, ?_⟩
      rw [e1, upd_self hb]
      exact ⟨trivial, L, h, rfl, id, .refl _ _, nx _ hr⟩
    · rename_i i u e
      rw [e]
      obtain ⟨e1, e2⟩ := un_put (o' := .map (es.eraseIdxIfInBounds i) cl) ap hb
      refine (awp_bind _ _ _ _).2 ⟨_, un_at ap hb, rfl, ?_⟩
      rw [e1]
      exact ⟨trivial, L, _, rfl, fun _ => e2, .refl _ _, nx _ hr⟩
theorem v_mapLen {m : Option Nat} {k : Int → H → Prop} {t kt et : TypeId} {x : Operand} (hu : P.underlying t = some (.map kt et)) (hx : ev ρ x = .map m) (hm : mMapLen m k h)
    (nx : ∀ n, k n h → next (put ρ d (.int .i64 n)) L h) : aOp P ⟨d, .call ⟨.builtin .len, [x].toArray, [t].toArray⟩, ty, ps, af, gd⟩ ρ L h next C := by
  obtain ⟨es, cl, hat, hsz, hk⟩ := hm
  refine aOp_q (K := fun v hf => v = .int .i64 (es.size : Nat) ∧ hf = un L h) (s := Builtin.len_ #[t] ty #[.map m]) rfl ?_ (fun ap => ?_) (fun v hf ⟨e, eh⟩ => ⟨L, h, eh, id, .refl _ _, by rw [e]; exact nx _ hk⟩)
  · have e : ([x].toArray.map (ev ρ)) = #[ev ρ x] := List.map_toArray ..
    rw [← hx, ← e]; rfl
  · unfold Builtin.len_
    simp only [List.getElem?_toArray, List.getElem?_cons_zero]
    refine q_use (QV.underlying hu) ?_
    cases m with
    | none => obtain ⟨rfl, _⟩ := hat; exact ⟨rfl, rfl⟩
    | some b =>
      have hat : h b = some (.map es cl) := hat
      exact (qwp_bind _ _ _).2 ⟨_, un_at ap hat, rfl, rfl, rfl⟩
theorem v_range {m : Option Nat} {k : Addr → H → Prop} {t kt et : TypeId} {x : Operand} (hu : P.underlying t = some (.map kt et)) (hx : ev ρ x = .map m) (hm : mRange m k h)
    (nx : ∀ a h', k a h' → next (put ρ d (.pointer (some a))) L h') : aOp P ⟨d, .range t x, ty, ps, af, gd⟩ ρ L h next C := fun ap => by
  obtain ⟨es, cl, hat, hk⟩ := hm
  show awp P (do pure (.value (← Instr.range t (ev ρ x))) : Sem Next) _ _ _ _
  rw [hx]
  refine (awp_bind _ _ _ _).2 ?_
  unfold Instr.range
  refine a_use (QV.underlying hu) ?_
  have fin : awp P (do pure (.pointer (some ⟨← newObj (.mapIter m cl #[] cl), 0, none⟩)) : Sem Value) (un L h) false (fun v h' fl' => awp P (pure (Next.value v) : Sem Next) h' fl' (upon P ⟨d, .range t x, ty, ps, af, gd⟩ ρ L h next C) fun v hf => C [{ v, recovered := false }] hf) fun v hf => C [{ v, recovered := false }] hf := fun b hb => by
    obtain ⟨e1, _, e3⟩ := un_new (o := .mapIter m cl #[] cl) hb
    exact ⟨trivial, L, _, e1, fun ap => (e3 ap).1, .refl _ _, nx _ _ (hk b (un_none.1 hb).2)⟩
  cases m with
  | none => obtain ⟨rfl, rfl⟩ := hat; exact a_use (QV.pure _) fin
  | some b =>
    have hat : h b = some (.map es cl) := hat
    refine (awp_bind _ _ _ _).2 ⟨_, un_at ap hat, rfl, ?_⟩
    exact a_use (QV.pure _) fin
theorem v_entry {X Y : Type} {kc : X → Value} {vc : Y → Value} {a : Addr} {k : X × Y → H → Prop} {x : Operand} (hx : ev ρ x = .pointer (some a)) (hm : mEntry kc vc a k h)
    (nx : ∀ r, k r h → next (put ρ d (.tuple #[kc r.1, vc r.2])) L h) : aOp P ⟨d, .entry x, ty, ps, af, gd⟩ ρ L h next C := fun ap => by
  obtain ⟨ho, m, since, seen, stamp, es, cl, e, y, z, hi, hs, hb, hf, ek, ev_, hk⟩ := hm
  show awp P (do pure (.value (← Instr.entry (ev ρ x))) : Sem Next) _ _ _ _
  rw [hx]
  obtain ⟨r, off, sp⟩ := a
  have ho : off = 0 := ho
  subst ho
  refine (awp_bind _ _ _ _).2 ?_
  unfold Instr.entry
  refine a_get (un_at ap hi) rfl ?_
  dsimp only
  rw [hs]
  dsimp only
  refine a_get (un_at ap hb) rfl ?_
  dsimp only
  rw [if_neg (by simp)]
  refine a_use (QV.pure _) ?_
  rw [hf]
  dsimp only
  rw [ek, ev_]
  exact ⟨trivial, L, h, rfl, id, .refl _ _, nx _ hk⟩
theorem v_next {a : Addr} {k : Bool × List Value → H → Prop} {x : Operand} (hx : ev ρ x = .pointer (some a)) (hm : mNext a k h)
    (nx : ∀ r h', k r h' → next (put ρ d (.tuple ⟨.bool r.1 :: r.2⟩)) L h') : aOp P ⟨d, .next x false, ty, ps, af, gd⟩ ρ L h next C := fun ap => by
  obtain ⟨ho, m, since, seen, last, hi, hr⟩ := hm
  show awp P (do pure (.value (← Instr.next (ev ρ x) false ty)) : Sem Next) _ _ _ _
  rw [hx]
  obtain ⟨r, off, sp⟩ := a
  have ho : off = 0 := ho
  subst ho
  refine (awp_bind _ _ _ _).2 ?_
  unfold Instr.next
  refine a_get (un_at ap hi) rfl ?_
  cases m with
  | none => exact ⟨trivial, L, h, rfl, id, .refl _ _, nx (false, []) _ hr⟩
  | some b =>
    obtain ⟨es, cl, hb, hg, hov, hmore⟩ := hr
    dsimp only
    refine a_get (un_at ap hb) rfl ?_
    dsimp only
    rw [if_neg (by rw [hg]; exact Bool.false_ne_true)]
    generalize hleft : (es.filter fun e => !seen.contains e.born) = left at hov ⊢
    have mem : ∀ e ∈ left.toList, e ∈ es.toList ∧ seen.contains e.born = false := fun e he => by
      rw [← hleft] at he
      simpa using he
    have one : ∀ n, n < ((if (left.filter (·.born < since)).isEmpty then #[none] else #[]) ++ (left.filter (·.born < since) ++ left.filter (·.born ≥ since)).map some : Array (Option MapEntry)).size → awp P (match ((if (left.filter (·.born < since)).isEmpty then #[none] else #[]) ++ (left.filter (·.born < since) ++ left.filter (·.born ≥ since)).map some : Array (Option MapEntry))[n]? with
        | some (some e) => do
          setObj r (.mapIter (some b) since (seen.push e.born) cl)
          pure (.tuple #[.bool true, e.key, e.val])
        | some none => pure (.tuple #[.bool false])
        | none => stuck "Next: no such candidate" : Sem Value) (un L h) false (fun v h' fl' => awp P (pure (Next.value v) : Sem Next) h' fl' (upon P ⟨d, .next x false, ty, ps, af, gd⟩ ρ L h next C) fun v hf => C [{ v, recovered := false }] hf) fun v hf => C [{ v, recovered := false }] hf := fun n hn => by
      rw [Array.getElem?_eq_getElem hn]
      generalize hc : (((if (left.filter (·.born < since)).isEmpty then #[none] else #[]) ++ (left.filter (·.born < since) ++ left.filter (·.born ≥ since)).map some : Array (Option MapEntry))[n]) = c
      have hin : c ∈ (((if (left.filter (·.born < since)).isEmpty then #[none] else #[]) ++ (left.filter (·.born < since) ++ left.filter (·.born ≥ since)).map some : Array (Option MapEntry))) := hc ▸ Array.getElem_mem hn
      rw [Array.mem_append] at hin
      cases c with
      | none =>
        have he : (left.filter (·.born < since)).isEmpty = true := by
          rcases hin with q | q
          · split at q
            · assumption
            · simp at q
          · simp at q
        exact ⟨trivial, L, h, rfl, id, .refl _ _, nx (false, []) _ (hov he)⟩
      | some e =>
        have hl : e ∈ left.toList := by
          rcases hin with q | q
          · split at q <;> simp at q
          · simp at q
            rcases q with q | q <;> simpa using q.1
        obtain ⟨e1, e2⟩ := mem e hl
        obtain ⟨p1, p2⟩ := un_put (o' := .mapIter (some b) since (seen.push e.born) cl) ap hi
        refine (awp_bind _ _ _ _).2 ⟨_, un_at ap hi, rfl, ?_⟩
        rw [p1]
        exact ⟨trivial, L, _, rfl, fun _ => p2, .refl _ _, nx (true, [e.key, e.val]) _ (hmore e e1 e2)⟩
    refine a_use (QV.pure _) ?_
    show (if _ then _ else _)
    have pos : 0 < ((if (left.filter (·.born < since)).isEmpty then #[none] else #[]) ++ (left.filter (·.born < since) ++ left.filter (·.born ≥ since)).map some : Array (Option MapEntry)).size := by
      split
      · simp; omega
      · rename_i q
        have : (left.filter (·.born < since)).size ≠ 0 := fun z => q (by simpa [Array.isEmpty] using z)
        rw [Array.size_append, Array.size_map, Array.size_append]; omega
    generalize ((if (left.filter (·.born < since)).isEmpty then #[none] else #[]) ++ (left.filter (·.born < since) ++ left.filter (·.born ≥ since)).map some : Array (Option MapEntry)) = cands at one pos ⊢
    split
    · exact one 0 pos
    · exact fun n => one _ (Nat.mod_lt n pos)
theorem bound_qv {kd : IntKind} {i : Int} {y : Nat} {code : BoundsCode} (h0 : 0 ≤ i) (h1 : i ≤ y) : QV P (Instr.sliceBound (.int kd i) y code) i.toNat := by
  refine QV.bind (a := (kd, i)) (QV.pure _) ?_
  simp only []
  rw [if_pos ⟨h0, h1⟩]
  exact QV.pure _
theorem y_cut3 {t e : TypeId} {ti : TypeInfo} {x hi' mx' : Operand} {l : Option Operand} {s : Sl} {lo hi mx : Int} {kh km : IntKind} {s' : Sl} (hu : P.underlying t = some (.slice e)) (hti : P.info? e = some ti) (hx : ev ρ x = s.val) (hl : bnd ρ l 0 lo) (hr : ev ρ hi' = .int kh hi) (hm : ev ρ mx' = .int km mx) (hq : isCut3 s lo hi mx ti.size s') :
    YE P ⟨d, .slice t x l (some hi') (some mx'), ty, ps, af, gd⟩ ρ s'.val := by
  obtain ⟨h0, h1, h2, h3, rfl⟩ := hq
  refine YE.val rfl rfl ?_
  show QV P (Instr.sliceAt t (ev ρ x) (l.map (ev ρ)) (some (ev ρ hi')) (some (ev ρ mx'))) _
  rw [hx, hr, hm]
  unfold Instr.sliceAt
  refine QV.bind (QV.underlying hu) ?_
  simp only []
  unfold Instr.slice Sl.val
  refine QV.bind (QV.underlying hu) ?_
  simp only []
  refine QV.bind (a := (lo.toNat, hi.toNat, mx.toNat)) ?_ (QV.bind (QV.sizeOf hti) (QV.pure _))
  unfold Instr.sliceBounds
  refine QV.bind (a := mx.toNat) (bound_qv (by omega) h3) (QV.bind (a := hi.toNat) (bound_qv (by omega) (by omega)) ?_)
  cases l with
  | none =>
    have hl : lo = 0 := hl
    subst hl
    exact QV.bind (a := 0) (QV.pure _) (QV.pure _)
  | some y =>
    obtain ⟨kl, hl⟩ := hl
    simp only [Option.map_some, hl]
    exact QV.bind (a := lo.toNat) (bound_qv h0 (by omega)) (QV.pure _)
theorem exec_clear {x : Operand} {ts : List TypeId} {vx : Value} (hx : ev ρ x = vx) : execOp (ev ρ) ⟨d, .call ⟨.builtin .clear, [x].toArray, ts.toArray⟩, ty, ps, af, gd⟩ = (do pure (.value (← Builtin.clear_ ts.toArray ty #[vx])) : Sem Next) := by
  subst hx
  have e : ([x].toArray.map (ev ρ)) = #[ev ρ x] := List.map_toArray ..
  rw [← e]
  rfl
theorem zero_plain {z : Array Value} (hz : z.toList.all plainVal = true) (n : Nat) : (Builtin.zeroCells z n).toList.all plainVal = true := by
  rw [List.all_eq_true]
  intro v hv
  unfold Builtin.zeroCells at hv
  rw [Array.mem_toList_iff, Array.mem_map] at hv
  obtain ⟨i, hi, rfl⟩ := hv
  rw [Array.mem_range] at hi
  have hpos : 0 < z.size := by
    rcases Nat.eq_zero_or_pos z.size with q | q
    · rw [q, Nat.mul_zero] at hi; omega
    · exact q
  have hlt : i % z.size < z.size := Nat.mod_lt _ hpos
  rw [getElem!_pos z _ hlt]
  exact List.all_eq_true.1 hz _ (by simp)
theorem v_clear {s : Sl} {k : H → Prop} {t e : TypeId} {ti : TypeInfo} {z : Value} {x : Operand} (hu : P.underlying t = some (.slice e)) (hi : P.info? e = some ti) (hz : ti.zero = some z) (hp : z.cells.toList.all plainVal = true) (hx : ev ρ x = s.val) (hm : mClear z.cells s k h)
    (nx : ∀ h', k h' → next (put ρ d (.tuple #[])) L h') : aOp P ⟨d, .call ⟨.builtin .clear, [x].toArray, [t].toArray⟩, ty, ps, af, gd⟩ ρ L h next C := fun ap => by
  show awp P (execOp (ev ρ) ⟨d, .call ⟨.builtin .clear, [x].toArray, [t].toArray⟩, ty, ps, af, gd⟩) _ _ _ _
  rw [exec_clear hx]
  refine (awp_bind _ _ _ _).2 ?_
  unfold Builtin.clear_
  simp only [List.getElem?_toArray, List.getElem?_cons_zero]
  refine a_use (QV.underlying hu) ?_
  obtain ⟨sa, len, cap⟩ := s
  rcases hm with ⟨q, kk⟩ | ⟨hne, a, ha, hm⟩
  · have fin : awp P (do pure (); pure (.tuple #[]) : Sem Value) (un L h) false (fun v h' fl' => awp P (pure (Next.value v) : Sem Next) h' fl' (upon P ⟨d, .call ⟨.builtin .clear, [x].toArray, [t].toArray⟩, ty, ps, af, gd⟩ ρ L h next C) fun v hf => C [{ v, recovered := false }] hf) fun v hf => C [{ v, recovered := false }] hf := ⟨trivial, L, h, rfl, id, .refl _ _, nx _ kk⟩
    unfold Sl.val
    rcases q with q | q
    · have q : sa = none := q
      subst q; exact fin
    · have q : len = 0 := q
      subst q
      cases sa <;> exact fin
  · have ha : sa = some a := ha
    subst ha
    obtain ⟨n, rfl⟩ : ∃ n, len = n + 1 := ⟨len - 1, by have : len ≠ 0 := hne; omega⟩
    obtain ⟨hsp, c, e', fz, hb, hl, hfz, kk⟩ := hm
    obtain ⟨e1, e2⟩ := un_put (o' := .cells (lay c a.off (Builtin.zeroCells z.cells (n + 1)).toList) e' fz) ap hb
    refine a_use (QV.zero hi hz) ((awp_bind _ _ _ _).2 ?_)
    refine storeCells_run hsp _ 0 _ _ _ _ (zero_plain hp _) (un_at ap hb) (by rw [Nat.add_zero]; exact hl) (fun j hj => by rw [Nat.add_zero]; exact hfz j hj) ?_
    rw [Nat.add_zero, e1]
    exact ⟨trivial, L, _, rfl, fun _ => e2, .refl _ _, nx _ kk⟩
end
end Go.Proofs.Ytiajjcboddaenaa.K
namespace Go.Proofs.Ytiajjcboddaenaa.K
open Go

section
variable {P : Program} {C : PPost} {next : Post} {ρ : Env} {L h : H} {v : Value}
variable {d : Option Tmp} {ty : TypeId} {ps : String} {af : Array Edge} {gd : Option (Nat × Bool)}
theorem y_buildA {t e : TypeId} {n : Nat} {ti te : TypeInfo} {l : List (Nat × Operand)} {vl : List (Nat × Value)} {z : Value} {cs : Array Value} (hu : P.underlying t = some (.array n e)) (hi : P.info? t = some ti) (hz : ti.zero = some z) (he : P.info? e = some te)
    (hv : (l.map fun p => (p.1, ev ρ p.2)) = vl) (hf : Instr.fill (fun i => some (i * te.size, te.size)) z.cells vl = some cs) : YE P ⟨d, .build t l.toArray, ty, ps, af, gd⟩ ρ (.agg cs) := by
  refine YE.val rfl rfl ?_
  show QV P (Instr.build t (l.toArray.map fun p => (p.1, ev ρ p.2))) _
  rw [List.map_toArray, hv]
  unfold Instr.build
  refine QV.bind (QV.zero hi hz) (QV.bind (QV.underlying hu) ?_)
  simp only []
  refine QV.bind (QV.sizeOf he) ?_
  simp only [hf]
  exact QV.pure _
/-- The elements of an array, as fields of a struct. -/
def elems (e : TypeId) (sz : Nat) (l : List Nat) : List Field := l.map fun i => ⟨"", e, i * sz, false, "", "", 0⟩
theorem efs_runA {n k sz : Nat} {e : TypeId} (hk : n ≤ k) {xs ys : Array Value} : ∀ {l : List Nat} {b : Bool}, EFs P n (elems e sz l) xs ys b → QV P (do
      for i in l do
        if !(← Op.equalIn k e (← part e xs (i * sz)) (← part e ys (i * sz))) then return false
      pure true : Sem Bool) b := by
  intro l
  induction l with
  | nil => intro b h; subst h; exact QV.pure _
  | cons f r ih =>
    intro b h
    obtain ⟨hn, x, y, b1, b2, px, py, ee, h, rfl⟩ := h
    have q1 := ih h
    cases b1 with
    | true =>
      rw [Bool.true_and]
      simp only [List.forIn_cons, bind_assoc] at q1 ⊢
      refine QV.bind px (QV.bind py (QV.bind (ee k hk) ?_))
      simpa using q1
    | false =>
      rw [Bool.false_and]
      simp only [List.forIn_cons, bind_assoc]
      refine QV.bind px (QV.bind py (QV.bind (ee k hk) ?_))
      exact QV.pure _
theorem eq_array {t e : TypeId} {len : Nat} {ti : TypeInfo} {xs ys : Array Value} {n : Nat} {b : Bool} (hu : P.underlying t = some (.array len e)) (hi : P.info? e = some ti) (h : EFs P n (elems e ti.size (List.range len)) xs ys b) : EQ P (n + 1) t (.agg xs) (.agg ys) b := fun m hm => by
  obtain ⟨m, rfl⟩ : ∃ q, m = q + 1 := ⟨m - 1, by omega⟩
  unfold Op.equalIn
  refine QV.bind (QV.underlying hu) ?_
  simp only []
  refine QV.bind (QV.sizeOf hi) ?_
  have := efs_runA (k := m) (by omega) h
  rw [List.range_eq_range'] at this
  simpa using this
/-- copy: the elements that both slices have room for. -/
def mCopy (sz : Nat) (dst src : Sl) (k : Int → H → Prop) : H → Prop := fun h => ∃ l, Row h src.a l ∧ (src.a.isSome = true → l.length = Nat.min src.len dst.len * sz) ∧ l.all plainVal = true ∧ match dst.a with
  | none => k (Nat.min src.len dst.len) h
  | some a => l = [] ∧ k (Nat.min src.len dst.len) h ∨ mStore a l (k (Nat.min src.len dst.len)) h
theorem exec_copy {x y : Operand} {ts : List TypeId} {vx vy : Value} (hx : ev ρ x = vx) (hy : ev ρ y = vy) : execOp (ev ρ) ⟨d, .call ⟨.builtin .copy, [x, y].toArray, ts.toArray⟩, ty, ps, af, gd⟩ = (do pure (.value (← Builtin.copy_ ts.toArray ty #[vx, vy])) : Sem Next) := by
  subst hx; subst hy
  have e : ([x, y].toArray.map (ev ρ)) = #[ev ρ x, ev ρ y] := List.map_toArray ..
  rw [← e]
  rfl
theorem v_copy {s r : Sl} {k : Int → H → Prop} {t t' e : TypeId} {ti : TypeInfo} {x y : Operand} (hu : P.underlying t = some (.slice e)) (hi : P.info? e = some ti) (hx : ev ρ x = s.val) (hy : ev ρ y = r.val) (hm : mCopy ti.size s r k h)
    (nx : ∀ n h', k n h' → next (put ρ d (.int .i64 n)) L h') : aOp P ⟨d, .call ⟨.builtin .copy, [x, y].toArray, [t, t'].toArray⟩, ty, ps, af, gd⟩ ρ L h next C := fun ap => by
  show awp P (execOp (ev ρ) ⟨d, .call ⟨.builtin .copy, [x, y].toArray, [t, t'].toArray⟩, ty, ps, af, gd⟩) _ _ _ _
  rw [exec_copy hx hy]
  refine (awp_bind _ _ _ _).2 ?_
  unfold Builtin.copy_
  simp only [List.getElem?_toArray, List.getElem?_cons_zero, List.getElem?_cons_succ]
  refine a_use (QV.underlying hu) ?_
  obtain ⟨sa, len, cap⟩ := s
  obtain ⟨ra, rlen, rcap⟩ := r
  obtain ⟨l, hr, hl, hp, hm⟩ := hm
  unfold Sl.val
  refine AV.use (a := rlen) (AV.pure _) ?_
  refine AV.use (AV.sizeOf hi) ?_
  refine RV.use (first_rv (Row_un ap hr) hl) ?_
  have fin : k (Nat.min rlen len) h → awp P (pure (goInt (Nat.min rlen len)) : Sem Value) (un L h) false (fun v h' fl' => awp P (pure (Next.value v) : Sem Next) h' fl' (upon P ⟨d, .call ⟨.builtin .copy, [x, y].toArray, [t, t'].toArray⟩, ty, ps, af, gd⟩ ρ L h next C) fun v hf => C [{ v, recovered := false }] hf) fun v hf => C [{ v, recovered := false }] hf := fun kk => ⟨trivial, L, h, rfl, id, .refl _ _, nx _ _ kk⟩
  cases sa with
  | none => exact (awp_bind _ _ _ _).2 (fin hm)
  | some a =>
    rcases hm with ⟨rfl, kk⟩ | hm
    · exact (awp_bind _ _ _ _).2 (fin kk)
    · obtain ⟨hsp, c, e', fz, hb, hlt, hfz, kk⟩ := hm
      obtain ⟨e1, e2⟩ := un_put (o' := .cells (lay c a.off l) e' fz) ap hb
      refine (awp_bind _ _ _ _).2 ?_
      refine storeCells_run hsp _ 0 _ _ _ _ hp (un_at ap hb) (by rw [Nat.add_zero]; exact hlt) (fun j hj => by rw [Nat.add_zero]; exact hfz j hj) ?_
      rw [Nat.add_zero, e1]
      exact ⟨trivial, L, _, rfl, fun _ => e2, .refl _ _, nx _ _ kk⟩
end
end Go.Proofs.Ytiajjcboddaenaa.K
namespace Go.Proofs.Ytiajjcboddaenaa.K
open Go

def isPtr : TypeDesc → Bool | .pointer _ => true | _ => false
/-- The function that a method's name means of a type, where the receiver is the value itself. -/
def methOf (P : Program) (t : TypeId) (name : String) : Option FuncId := match P.info? t, P.underlying t with
  | some ti, some td => match ti.methods.find? (·.name == name) with
    | some m => match m.path.toList, m.func with
      | [], some (f, pr) => bif pr == isPtr td then some f else none
      | _, _ => none
    | none => none
  | _, _ => none
theorem meth_q {P : Program} {t : TypeId} {name : String} {f : FuncId} {v : Value} (hme : methOf P t name = some f) (n : Nat) : QV P (method (n + 1) t v name) (f, v) := by
  unfold methOf at hme
  cases hti : P.info? t with
  | none => rw [hti] at hme; cases hme
  | some ti =>
    cases hu : P.underlying t with
    | none => rw [hti, hu] at hme; cases hme
    | some td =>
      rw [hti, hu] at hme
      simp only at hme
      cases hfind : ti.methods.find? (·.name == name) with
      | none => rw [hfind] at hme; cases hme
      | some m =>
        rw [hfind] at hme
        simp only at hme
        cases hp : m.path.toList with
        | cons => rw [hp] at hme; cases hme
        | nil =>
          cases hf : m.func with
          | none => rw [hp, hf] at hme; cases hme
          | some q =>
            obtain ⟨g, pr⟩ := q
            rw [hp, hf] at hme
            simp only at hme
            have hb : (pr == isPtr td) = true ∧ g = f := by
              cases h : (pr == isPtr td) <;> rw [h] at hme
              · cases hme
              · cases hme; exact ⟨rfl, rfl⟩
            obtain ⟨hb, rfl⟩ := hb
            unfold method
            refine QV.bind (QV.typeInfo hti) ?_
            rw [hfind]
            simp only [hp, hf]
            refine QV.bind (a := (t, Place.val v)) (QV.pure _) ?_
            refine QV.bind (a := v) ?_ (QV.pure _)
            unfold receiverAt
            refine QV.bind (QV.underlying hu) ?_
            cases td <;> cases pr <;> first | exact QV.pure _ | (simp [isPtr] at hb; done)
/-- A call of a method of what an interface holds. -/
def mInvoke {T : Type} (P : Program) (enc : T → Value) (name : String) (fv : Value) (args : List Value) (k : T → H → Prop) : H → Prop := fun h =>
  ∃ t v f fn, fv = .iface t v ∧ methOf P t name = some f ∧ Callee P f fn ∧ ACall P f (#[v] ++ args.toArray) h (fun w h' => ∃ r, w = enc r ∧ k r h') noP
/-- Is what an interface holds of a type? -/
def mAssert {X : Type} (vc : X → Value) (z : X) (t : TypeId) (fv : Value) (k : X × Bool → H → Prop) : H → Prop := fun h =>
  (fv = .nilIface ∧ k (z, false) h) ∨ ∃ t' w, fv = .iface t' w ∧ ((t' ≠ t ∧ k (z, false) h) ∨ (t' = t ∧ ∃ x, w = vc x ∧ k (x, true) h))
def mAssert1 {X : Type} (vc : X → Value) (t : TypeId) (fv : Value) (k : X → H → Prop) : H → Prop := fun h => ∃ x, fv = .iface t (vc x) ∧ k x h
/-- Of a row of values the one at a place. -/
def mNth {X : Type} (l : List X) (i : Int) (k : X → H → Prop) : H → Prop := fun h => ∃ x, 0 ≤ i ∧ l[i.toNat]? = some x ∧ k x h
/-- []byte(b) of bytes: the mark that the model lays behind them. -/
def mMark (s : Sl) (k : Sl → H → Prop) : H → Prop := fun h => ∃ a c e fz, s.a = some a ∧ h a.block = some (.cells c e fz) ∧ k s (upd h a.block (freezeIn (.cells c e fz) ⟨a.block, c.size, none⟩ 1))

section
variable {P : Program} {C : PPost} {next : Post} {ρ : Env} {L h : H} {v : Value}
variable {d : Option Tmp} {ty : TypeId} {ps : String} {af : Array Edge} {gd : Option (Nat × Bool)}
theorem y_iface {t : TypeId} {td : TypeDesc} {x : Operand} (hu : P.underlying t = some td) (hi : ∀ ms, td ≠ .interface ms) (hx : ev ρ x = v) : YE P ⟨d, .makeInterface t x, ty, ps, af, gd⟩ ρ (.iface t v) := by
  refine YE.val rfl rfl ?_
  show QV P (Instr.makeInterface t (ev ρ x)) _
  rw [hx]
  unfold Instr.makeInterface
  refine QV.bind (QV.underlying hu) ?_
  cases td <;> first | exact QV.pure _ | exact absurd rfl (hi _)
theorem exec_assert {x : Operand} {xt t : TypeId} {ok : Bool} : execOp (ev ρ) ⟨d, .typeAssert x xt t ok, ty, ps, af, gd⟩ = (do pure (.value (← Instr.typeAssert (ev ρ x) xt t ok)) : Sem Next) := rfl
theorem y_assert {X : Type} {vc : X → Value} {z : X} {t xt : TypeId} {td : TypeDesc} {x : Operand} {fv : Value} (hu : P.underlying t = some td) (hi : ∀ ms, td ≠ .interface ms) (hz : QV P (zeroValue t) (vc z)) (hx : ev ρ x = fv) {k : X × Bool → H → Prop} {h : H} (hm : mAssert vc z t fv k h) :
    ∃ r, YE P ⟨d, .typeAssert x xt t true, ty, ps, af, gd⟩ ρ (.tuple #[vc r.1, .bool r.2]) ∧ k r h := by
  have go : ∀ w, QV P (Instr.typeAssert fv xt t true) w → YE P ⟨d, .typeAssert x xt t true, ty, ps, af, gd⟩ ρ w := fun w q => YE.val rfl exec_assert (by rw [hx]; exact q)
  have fails : ∀ fv', (∀ ms, td ≠ .interface ms) → (fv' = .nilIface ∨ ∃ t' w, fv' = .iface t' w ∧ t' ≠ t) → QV P (Instr.typeAssert fv' xt t true) (.tuple #[vc z, .bool false]) := fun fv' hi hf => by
    unfold Instr.typeAssert
    refine QV.bind (QV.underlying hu) ?_
    rcases hf with rfl | ⟨t', w, rfl, ht⟩
    · cases td <;> first | exact absurd rfl (hi _) | exact QV.bind hz (QV.pure _)
    · cases td <;> first | exact absurd rfl (hi _) | (simp only [if_neg ht, if_true]; exact QV.bind hz (QV.pure _))
  rcases hm with ⟨rfl, kk⟩ | ⟨t', w, rfl, ⟨ht, kk⟩ | ⟨rfl, y, rfl, kk⟩⟩
  · exact ⟨(z, false), go _ (fails _ hi (.inl rfl)), kk⟩
  · exact ⟨(z, false), go _ (fails _ hi (.inr ⟨_, _, rfl, ht⟩)), kk⟩
  · refine ⟨(y, true), go _ ?_, kk⟩
    unfold Instr.typeAssert
    refine QV.bind (QV.underlying hu) ?_
    cases td <;> first | exact absurd rfl (hi _) | (simp only [if_true]; exact QV.pure _)
theorem y_assert1 {X : Type} {vc : X → Value} {t xt : TypeId} {td : TypeDesc} {x : Operand} {fv : Value} (hu : P.underlying t = some td) (hi : ∀ ms, td ≠ .interface ms) (hx : ev ρ x = fv) {k : X → H → Prop} {h : H} (hm : mAssert1 vc t fv k h) :
    ∃ r, YE P ⟨d, .typeAssert x xt t false, ty, ps, af, gd⟩ ρ (vc r) ∧ k r h := by
  obtain ⟨y, rfl, kk⟩ := hm
  refine ⟨y, YE.val rfl exec_assert ?_, kk⟩
  rw [hx]
  unfold Instr.typeAssert
  refine QV.bind (QV.underlying hu) ?_
  cases td <;> first | exact absurd rfl (hi _) | (simp only [if_true]; exact QV.pure _)
theorem v_invoke {T : Type} {enc : T → Value} {x : Operand} {name : String} {fv : Value} {l : List Operand} {vl : List Value} {ts : Array TypeId} {k : T → H → Prop} (hx : ev ρ x = fv) (hv : l.map (ev ρ) = vl) (hm : mInvoke P enc name fv vl k h)
    (nx : ∀ r h', k r h' → next (put ρ d (enc r)) L h') : aOp P ⟨d, .call ⟨.invoke x name, l.toArray, ts⟩, ty, ps, af, gd⟩ ρ L h next C := fun ap => by
  obtain ⟨t, v, f, fn, rfl, hme, c, hc⟩ := hm
  show awp P (execOp (ev ρ) ⟨d, .call ⟨.invoke x name, l.toArray, ts⟩, ty, ps, af, gd⟩) _ _ _ _
  have e : execOp (ev ρ) ⟨d, .call ⟨.invoke x name, l.toArray, ts⟩, ty, ps, af, gd⟩ = callMethod (.iface t v) name vl.toArray := by
    have e0 : (#[Value.iface t v] ++ vl.toArray)[0]? = some (.iface t v) := by simp
    have e1 : (#[Value.iface t v] ++ vl.toArray).extract 1 (#[Value.iface t v] ++ vl.toArray).size = vl.toArray := by simp
    show (match (#[ev ρ x] ++ l.toArray.map (ev ρ))[0]? with | some recv => callMethod recv name ((#[ev ρ x] ++ l.toArray.map (ev ρ)).extract 1 (#[ev ρ x] ++ l.toArray.map (ev ρ)).size) | _ => _ : Sem Next) = _
    rw [hx, List.map_toArray, hv, e0]
    simp only [e1]
  rw [e]
  have hq : QV P (method (P.types.size + Made.depth) t v name) (f, v) := meth_q hme (P.types.size + 99)
  unfold callMethod
  refine a_use (a := P) QV.program ?_
  refine a_use hq ?_
  exact callFunc_awp c ⟨trivial, L, h, rfl, id, .refl _ _, hc.mono (fun w h'' ⟨r, e, k⟩ _ => by subst e; exact nx r h'' k) fun _ _ k => k.elim⟩
theorem y_idxV {t e : TypeId} {n : Nat} {te : TypeInfo} {td : TypeDesc} {x j : Operand} {cs : Array Value} {k : IntKind} {i : Int} (hu : P.underlying t = some (.array n e)) (hi : P.info? e = some te) (he : P.underlying e = some td) (hx : ev ρ x = .agg cs) (hj : ev ρ j = .int k i) (h0 : 0 ≤ i) (h1 : i < n)
    (hv : (aggB td = true ∧ v = .agg (cs.extract (i.toNat * te.size) (i.toNat * te.size + te.size))) ∨ (aggB td = false ∧ cs[i.toNat * te.size]? = some v)) : YE P ⟨d, .index t x j, ty, ps, af, gd⟩ ρ v := by
  refine YE.val rfl rfl ?_
  show QV P (Instr.index t (ev ρ x) (ev ρ j)) _
  rw [hx, hj]
  unfold Instr.index
  refine QV.bind (a := (k, i)) (QV.pure _) (QV.bind (QV.underlying hu) ?_)
  simp only []
  rw [if_pos ⟨h0, h1⟩]
  refine QV.bind (QV.sizeOf hi) ?_
  unfold part
  refine QV.bind (QV.isAgg he) ?_
  rcases hv with ⟨ha, rfl⟩ | ⟨ha, hv⟩
  · rw [ha]; exact QV.bind (QV.sizeOf hi) (QV.pure _)
  · rw [ha]; simp only [Bool.false_eq_true, if_false, hv]; exact QV.pure _
theorem v_mark {t e : TypeId} {x : Operand} {s : Sl} {k : Sl → H → Prop} (hu : P.underlying t = some (.slice e)) (he : P.underlying e = some (.int .u8)) (hx : ev ρ x = s.val) (hm : mMark s k h) (nx : ∀ s' h', k s' h' → next (put ρ d s'.val) L h') :
    aOp P ⟨d, .convert t t x, ty, ps, af, gd⟩ ρ L h next C := fun ap => by
  rw [show quietOp P (Op.convert t t x) = false by simp only [quietOp, hu]]
  show awp P (do pure (.value (← convert t t (ev ρ x))) : Sem Next) _ _ _ _
  obtain ⟨a, c, e', fz, ha, hb, kk⟩ := hm
  rw [hx]
  refine (awp_bind _ _ _ _).2 ?_
  unfold convert
  refine AV.use (AV.underlying hu) (AV.use (AV.underlying hu) ?_)
  obtain ⟨sa, len, cap⟩ := s
  have ha : sa = some a := ha
  subst ha
  unfold Sl.val
  simp only []
  refine AV.use (AV.underlying he) ?_
  simp only [beq_self_eq_true]
  obtain ⟨p1, p2⟩ := un_put (o' := freezeIn (.cells c e' fz) ⟨a.block, c.size, none⟩ 1) ap hb
  refine (awp_bind _ _ _ _).2 ?_
  refine ⟨_, un_at ap hb, ?_⟩
  refine ⟨_, un_at ap hb, rfl, Nat.one_ne_zero, ?_⟩
  exact ⟨trivial, L, _, p1, fun _ => p2, .refl _ _, nx _ _ kk⟩
end
end Go.Proofs.Ytiajjcboddaenaa.K
