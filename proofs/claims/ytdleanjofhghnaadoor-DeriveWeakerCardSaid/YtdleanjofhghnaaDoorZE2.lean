/- deriveWeaker: true at every input, the arguments as they were: no condition. Part 2 of 5. -/
import Derived.Test.YtdleanjofhghnaaDoorZE1
namespace Go.Proofs.YtdleanjofhghnaaDoor.K
open Go
section calls
variable {P : Program} {C : PPost} {next : Post} {ρ : Env} {L h : H} {v : Value}
variable {d : Option Tmp} {ty : TypeId} {ps : String} {af : Array Edge} {gd : Option (Nat × Bool)}
structure Callee (P : Program) (g : FuncId) (fn : Func) : Prop where
  here : P.funcs[g]? = some fn
  name : (fn.name == "runtime.NumGoroutine") = false
  body : fn.body.isNone = false
theorem callFunc_awp {g : FuncId} {fn : Func} (c : Callee P g fn) {args : Array Value} {hf : H} {fl : Bool} {K : Next → H → Bool → Prop} {E : Value → H → Prop} (k : K (.enter g args) hf fl) : awp P (callFunc g args) hf fl K E := by
  unfold callFunc
  refine (awp_bind _ _ _ _).2 ?_
  show awp P (match P.funcs[g]? with | none => _ | some fn => _) hf fl K E
  rw [c.here]
  simp only [c.name, c.body, Bool.false_eq_true, if_false]
  exact k
theorem exec_call {g : FuncId} {l : List Operand} {ts : Array TypeId} : execOp (ev ρ) ⟨d, .call ⟨.value (.func g), l.toArray, ts⟩, ty, ps, af, gd⟩ = callFunc g ((#[] ++ l.toArray.map (ev ρ)) ++ #[]) := rfl
theorem v_call {g : FuncId} {fn : Func} {l : List Operand} {vl : List Value} {ts : Array TypeId} {R : Value → H → Prop} (hm : ACall P g vl.toArray h R noP) (c : Callee P g fn) (hv : l.map (ev ρ) = vl) (nx : ∀ v h', R v h' → next (put ρ d v) L h') :
    aOp P ⟨d, .call ⟨.value (.func g), l.toArray, ts⟩, ty, ps, af, gd⟩ ρ L h next C := fun _ => by
  show awp P (execOp (ev ρ) ⟨d, .call ⟨.value (.func g), l.toArray, ts⟩, ty, ps, af, gd⟩) _ _ _ _
  rw [exec_call, List.map_toArray, hv]
  simp only [Array.empty_append, Array.append_empty]
  exact callFunc_awp c (⟨trivial, L, h, rfl, id, .refl _ _, hm.mono (fun v h'' k _ => nx v h'' k) fun _ _ k => k.elim⟩)
theorem y_call {T : Type} {enc : T → Value} {g : FuncId} {fn : Func} {l : List Operand} {vl : List Value} {ts : Array TypeId} {m : (T → H → Prop) → H → Prop} {r : T} (hp : ∀ (h' : H) (k' : T → H → Prop), k' r h' → m k' h')
    (hc : ∀ (k : T → H → Prop) (h : H), m k h → ACall P g vl.toArray h (fun v h' => ∃ r, v = enc r ∧ k r h') noP) (c : Callee P g fn) (hv : l.map (ev ρ) = vl) : YE P ⟨d, .call ⟨.value (.func g), l.toArray, ts⟩, ty, ps, af, gd⟩ ρ (enc r) := fun L' h' next C k =>
  v_call (hc (fun r' h'' => r' = r ∧ h'' = h') h' (hp h' _ ⟨rfl, rfl⟩)) c hv fun v h'' ⟨r', hv', hr, hh⟩ => by subst hv'; subst hr; subst hh; exact k
theorem rds_load_scalar {t : TypeId} {td : TypeDesc} {a : Addr} {hf : H} {c : Array Value} {e : TypeId} {fz : Nat × Nat} (hu : P.underlying t = some td) (hs : aggB td = false) (hsp : a.spot = none) (hb : hf a.block = some (.cells c e fz)) (hv : c[a.off]? = some v) : rds P hf v (loadVar t a) := by
  refine rds_bind (x := false) ?_ ?_
  · refine rds_bind (x := td) (rds_bind (x := P) rfl (by rw [hu]; rfl)) ?_
    cases td <;> first | rfl | cases hs
  · exact ⟨hsp, c, e, fz, v, hb, hv, rfl⟩
theorem rds_loadFrom {a : Addr} {hf : H} {c : Array Value} {e : TypeId} {fz : Nat × Nat} (hsp : a.spot = none) (hb : hf a.block = some (.cells c e fz)) : ∀ (n i : Nat) (acc : Array Value) (l : List Value), grab c (a.off + i) n = some l → rds P hf (acc ++ l.toArray) (loadCellsFrom a i n acc) := by
  intro n
  induction n with
  | zero => intro i acc l hg; simp only [grab, Option.some.injEq] at hg; subst hg; show acc = _; simp
  | succ n ih =>
    intro i acc l hg
    simp only [grab] at hg
    cases h1 : c[a.off + i]? with
    | none => rw [h1] at hg; simp at hg
    | some x =>
      cases h2 : grab c (a.off + i + 1) n with
      | none => rw [h1, h2] at hg; simp at hg
      | some r =>
        rw [h1, h2] at hg
        simp only [Option.some.injEq] at hg
        subst hg
        have ha : (a.add i).block = a.block ∧ (a.add i).off = a.off + i ∧ (a.add i).spot = none := by
          unfold Addr.add; split
          · subst_vars; exact ⟨rfl, rfl, hsp⟩
          · exact ⟨rfl, rfl, rfl⟩
        have := ih (i + 1) (acc.push x) r h2
        rw [show acc.push x ++ r.toArray = acc ++ (x :: r).toArray from by simp] at this
        exact ⟨ha.2.2, c, e, fz, x, by rw [ha.1]; exact hb, by rw [ha.2.1]; exact h1, this⟩
theorem rds_load_agg {t : TypeId} {td : TypeDesc} {ti : TypeInfo} {a : Addr} {hf : H} {c : Array Value} {e : TypeId} {fz : Nat × Nat} {l : List Value} (hu : P.underlying t = some td) (hs : aggB td = true) (hi : P.info? t = some ti) (hsp : a.spot = none) (hb : hf a.block = some (.cells c e fz)) (hv : grab c a.off ti.size = some l) :
    rds P hf (.agg l.toArray) (loadVar t a) := by
  refine rds_bind (x := true) ?_ ?_
  · refine rds_bind (x := td) (rds_bind (x := P) rfl (by rw [hu]; rfl)) ?_
    cases td <;> first | rfl | cases hs
  · refine rds_bind (x := ti.size) (rds_bind (x := ti) (rds_bind (x := P) rfl (by rw [hi]; rfl)) rfl) ?_
    refine rds_bind (x := l.toArray) ?_ rfl
    have := rds_loadFrom (P := P) hsp hb ti.size 0 #[] l hv
    rw [Array.empty_append] at this
    exact this
def RdsL (P : Program) (hf : H) (ρ : Env) : List ResultVar → List Value → Prop
  | [], [] => True
  | .tmp t :: r, v :: vs => ρ t = v ∧ RdsL P hf ρ r vs
  | .cell a t :: r, v :: vs => (∃ ad, ρ a = .pointer (some ad) ∧ rds P hf v (loadVar t ad)) ∧ RdsL P hf ρ r vs
  | _, _ => False
theorem rds_list {hf : H} : ∀ {rs : List ResultVar} {vs : List Value}, RdsL P hf ρ rs vs → rds P hf vs (rs.mapM fun | .tmp t => pure (ρ t) | .cell a t => do loadVar t (← asAddr (ρ a))) := by
  intro rs
  induction rs with
  | nil => intro vs h; cases vs with | nil => rfl | cons => exact h.elim
  | cons r rs ih =>
    intro vs h
    rw [List.mapM_cons]
    cases vs with
    | nil => cases r <;> exact h.elim
    | cons v vs =>
      cases r with
      | tmp t => exact rds_bind (x := v) (by show ρ t = v; exact h.1) (rds_bind (ih h.2) rfl)
      | cell a t =>
        obtain ⟨⟨ad, ha, hl⟩, hr⟩ := h
        refine rds_bind (x := v) ?_ (rds_bind (ih hr) rfl)
        show rds P hf v (do loadVar t (← asAddr (ρ a)))
        rw [ha]
        exact rds_bind (x := ad) rfl hl
def outV : List Value → Value
  | [x] => x
  | vs => .tuple vs.toArray
theorem rds_results {fn : Func} {hf : H} {rs : List ResultVar} {vs : List Value} (hr : fn.results = rs.toArray) (hl : RdsL P hf ρ rs vs) (hv : outV vs = v) : rds P hf v (resultsE fn ρ) := by
  unfold resultsE
  rw [hr, List.mapM_toArray]
  refine rds_bind (x := vs.toArray) (rds_bind (rds_list hl) rfl) ?_
  show _ = v
  rw [← hv]
  match vs with
  | [] => rfl
  | [x] => rfl
  | x :: y :: r => simp [outV]
theorem out_one {Q : Value → H → Prop} {fn : Func} {rs : List ResultVar} (hr : fn.results = rs.toArray) (k : Apart L h → ∃ vs, RdsL P (un L h) ρ rs vs ∧ Q (outV vs) h) : Out P fn Q ρ L h := ⟨fun ap => by
  obtain ⟨vs, hl, q⟩ := k ap
  exact ⟨_, rds_results hr hl rfl, q⟩⟩
def sizesOf (P : Program) : List Field → Option (List (Nat × Nat))
  | [] => some []
  | f :: r => match P.info? f.type, sizesOf P r with
    | some i, some l => some ((f.offset, i.size) :: l)
    | _, _ => none
theorem QV.map {α β : Type} {s : Sem α} {a : α} (f : α → β) (x : QV P s a) : QV P (f <$> s) (f a) := QV.bind x (QV.pure _)
theorem sizes_run : ∀ {fl : List Field} {l : List (Nat × Nat)}, sizesOf P fl = some l → QV P (fl.mapM fun f => do pure (f.offset, ← sizeOf f.type)) l := by
  intro fl
  induction fl with
  | nil => intro l h; simp only [sizesOf, Option.some.injEq] at h; subst h; exact QV.pure _
  | cons f r ih =>
    intro l h
    simp only [sizesOf] at h
    cases h1 : P.info? f.type with
    | none => rw [h1] at h; simp at h
    | some i =>
      cases h2 : sizesOf P r with
      | none => rw [h1, h2] at h; simp at h
      | some q =>
        rw [h1, h2] at h
        simp only [Option.some.injEq] at h
        subst h
        rw [List.mapM_cons]
        exact QV.bind (QV.bind (QV.sizeOf h1) (QV.pure _)) (QV.bind (ih h2) (QV.pure _))
theorem y_build {t : TypeId} {ti : TypeInfo} {fl : List Field} {pl : List (Nat × Nat)} {l : List (Nat × Operand)} {vl : List (Nat × Value)} {z : Value} {cs : Array Value} (hu : P.underlying t = some (.struct fl.toArray)) (hi : P.info? t = some ti) (hz : ti.zero = some z) (hp : sizesOf P fl = some pl)
    (hv : (l.map fun p => (p.1, ev ρ p.2)) = vl) (hf : Instr.fill (fun i => pl.toArray[i]?) z.cells vl = some cs) : YE P ⟨d, .build t l.toArray, ty, ps, af, gd⟩ ρ (.agg cs) := by
  refine YE.val rfl rfl ?_
  show QV P (Instr.build t (l.toArray.map fun p => (p.1, ev ρ p.2))) _
  rw [List.map_toArray, hv]
  unfold Instr.build
  refine QV.bind (QV.zero hi hz) (QV.bind (QV.underlying hu) ?_)
  simp only []
  rw [List.mapM_toArray]
  refine QV.bind (QV.map _ (sizes_run hp)) ?_
  simp only [hf]
  exact QV.pure _
theorem fills {t e : TypeId} {ti : TypeInfo} {n : Nat} {vl : List (Nat × Value)} {z : Value} {cs : Array Value} {hf : H} {K : Value → H → Prop} {E : Value → H → Prop} (hu : P.underlying t = some (.slice e)) (hi : P.info? e = some ti) (hz : ti.zero = some z) (hn : Nat.ble (n * ti.size) (2 ^ 24) = true)
    (hc : Instr.fill (fun i => some (i * ti.size, ti.size)) ((List.range (n * ti.size)).map fun j => (if n * ti.size = 0 then #[] else z.cells)[j % (if n * ti.size = 0 then #[] else z.cells).size]!).toArray vl = some cs)
    (k : ∀ b, hf b = none → K (.slice (some ⟨b, 0, none⟩) n n) (upd hf b (.cells cs e (0, 0)))) : qwp P (Instr.buildSlice t n vl.toArray) hf K E := by
  unfold Instr.buildSlice
  refine (qwp_bind _ _ _).2 (QV.underlying hu hf _ _ ?_)
  simp only []
  refine (qwp_bind _ _ _).2 (QV.sizeOf hi hf _ _ ?_)
  rw [if_neg (by have := Nat.le_of_ble_eq_true hn; omega)]
  have fin : qwp P (match Instr.fill (fun i => some (i * ti.size, ti.size)) ((Array.range (n * ti.size)).map fun j => (if n * ti.size = 0 then #[] else z.cells)[j % (if n * ti.size = 0 then #[] else z.cells).size]!) vl with
      | some cells => do pure (.slice (some (← newRow e cells)) n n)
      | x => stuck "buildSlice: a part of the wrong size" : Sem Value) hf K E := by
    rw [show Array.range (n * ti.size) = (List.range (n * ti.size)).toArray from (List.toArray_range ..).symm, List.map_toArray, hc]
    exact fun b hb => k b hb
  have q0 : QV P (if n * ti.size = 0 then pure #[] else do pure (← zeroValue e).cells : Sem (Array Value)) (if n * ti.size = 0 then #[] else z.cells) := by
    split
    · exact QV.pure _
    · exact QV.bind (QV.zero hi hz) (QV.pure _)
  have sp : ∀ (f : Array Value → Sem Value), qwp P (f (if n * ti.size = 0 then #[] else z.cells)) hf K E → qwp P (do let zero ← (if n * ti.size = 0 then pure #[] else do pure (← zeroValue e).cells : Sem (Array Value)); f zero) hf K E := fun f x => (qwp_bind _ _ _).2 (q0 hf _ _ x)
  have := sp (fun zero => match Instr.fill (fun i => some (i * ti.size, ti.size)) ((Array.range (n * ti.size)).map fun j => zero[j % zero.size]!) vl with
      | some cells => do pure (.slice (some (← newRow e cells)) n n)
      | x => stuck "buildSlice: a part of the wrong size") fin
  by_cases h0 : n * ti.size = 0
  · rw [if_pos h0] at this ⊢
    exact this
  · rw [if_neg h0] at this ⊢
    rw [bind_assoc] at this
    exact this
theorem exec_lit {t : TypeId} {n : Nat} {l : List (Nat × Operand)} : execOp (ev ρ) ⟨d, .buildSlice t n l.toArray, ty, ps, af, gd⟩ = (do pure (.value (← Instr.buildSlice t n (l.map fun p => (p.1, ev ρ p.2)).toArray)) : Sem Next) := by
  have e : (l.toArray.map fun (i, x) => (i, ev ρ x)) = (l.map fun p => (p.1, ev ρ p.2)).toArray := List.map_toArray ..
  rw [← e]
  rfl
theorem v_lit {t e : TypeId} {ti : TypeInfo} {n : Nat} {l : List (Nat × Operand)} {vl : List (Nat × Value)} {z : Value} {cs : Array Value} {k : Addr → H → Prop} (hm : mNew e cs k h) (hu : P.underlying t = some (.slice e)) (hi : P.info? e = some ti) (hz : ti.zero = some z) (hn : Nat.ble (n * ti.size) (2 ^ 24) = true) (hv : (l.map fun p => (p.1, ev ρ p.2)) = vl)
    (hc : Instr.fill (fun i => some (i * ti.size, ti.size)) ((List.range (n * ti.size)).map fun j => (if n * ti.size = 0 then #[] else z.cells)[j % (if n * ti.size = 0 then #[] else z.cells).size]!).toArray vl = some cs)
    (nx : ∀ a h', k a h' → next (put ρ d (.slice (some a) n n)) L h') : aOp P ⟨d, .buildSlice t n l.toArray, ty, ps, af, gd⟩ ρ L h next C := by
  refine aOp_q (K := fun v hf => ∃ b, un L h b = none ∧ v = .slice (some ⟨b, 0, none⟩) n n ∧ hf = upd (un L h) b (.cells cs e (0, 0))) rfl exec_lit (fun _ => ?_) (fun v hf kk => ?_)
  · rw [hv]
    exact fills hu hi hz hn hc fun b hb => ⟨b, hb, rfl, rfl⟩
  · obtain ⟨b, hb, rfl, rfl⟩ := kk
    obtain ⟨e1, _, e3⟩ := un_new (o := .cells cs e (0, 0)) hb
    exact ⟨L, _, e1, fun ap => (e3 ap).1, .refl _ _, nx _ _ (hm b (un_none.1 hb).2)⟩
theorem b_lit {t e : TypeId} {ti : TypeInfo} {n : Nat} {l : List (Nat × Operand)} {vl : List (Nat × Value)} {z : Value} {cs : Array Value} (hu : P.underlying t = some (.slice e)) (hi : P.info? e = some ti) (hz : ti.zero = some z) (hn : Nat.ble (n * ti.size) (2 ^ 24) = true)
    (hv : (l.map fun p => (p.1, ev ρ p.2)) = vl) (hc : Instr.fill (fun i => some (i * ti.size, ti.size)) ((List.range (n * ti.size)).map fun j => (if n * ti.size = 0 then #[] else z.cells)[j % (if n * ti.size = 0 then #[] else z.cells).size]!).toArray vl = some cs)
    (nx : ∀ b, L b = none → next (put ρ d (.slice (some ⟨b, 0, none⟩) n n)) (upd L b (.cells cs e (0, 0))) h) : aOp P ⟨d, .buildSlice t n l.toArray, ty, ps, af, gd⟩ ρ L h next C := by
  refine aOp_q (K := fun v hf => ∃ b, un L h b = none ∧ v = .slice (some ⟨b, 0, none⟩) n n ∧ hf = upd (un L h) b (.cells cs e (0, 0))) rfl exec_lit (fun _ => ?_) (fun v hf kk => ?_)
  · rw [hv]
    exact fills hu hi hz hn hc fun b hb => ⟨b, hb, rfl, rfl⟩
  · obtain ⟨b, hb, rfl, rfl⟩ := kk
    obtain ⟨_, e2, e3⟩ := un_new (o := .cells cs e (0, 0)) hb
    refine ⟨_, h, e2, fun ap => (e3 ap).2, ?_, nx b (un_none.1 hb).1⟩
    intro z o hz
    rw [upd_ne _ _ (fun e => by rw [e, (un_none.1 hb).1] at hz; cases hz)]; exact hz
end calls
section more
variable {P : Program} {C : PPost} {next : Post} {ρ : Env} {L h : H} {v : Value}
variable {d : Option Tmp} {ty : TypeId} {ps : String} {af : Array Edge} {gd : Option (Nat × Bool)}
def AV {α : Type} (P : Program) (s : Sem α) (v : α) : Prop := ∀ (h : H) (fl : Bool) (K : α → H → Bool → Prop) (E : Value → H → Prop), K v h fl → awp P s h fl K E
theorem AV.pure {α : Type} (v : α) : AV P (pure v : Sem α) v := fun _ _ _ _ k => k
theorem AV.bind {α β : Type} {s : Sem α} {f : α → Sem β} {a : α} {b : β} (x : AV P s a) (y : AV P (f a) b) : AV P (s >>= f) b := fun h fl _ _ k => (awp_bind s f h fl).2 (x h fl _ _ (y h fl _ _ k))
theorem AV.underlying {t : TypeId} {d : TypeDesc} (e : P.underlying t = some d) : AV P (underlying t) d := AV.bind (a := P) (fun _ _ _ _ k => k) (by rw [e]; exact AV.pure d)
theorem AV.typeInfo {t : TypeId} {i : TypeInfo} (e : P.info? t = some i) : AV P (typeInfo t) i := AV.bind (a := P) (fun _ _ _ _ k => k) (by rw [e]; exact AV.pure i)
theorem AV.sizeOf {t : TypeId} {i : TypeInfo} (e : P.info? t = some i) : AV P (sizeOf t) i.size := AV.bind (AV.typeInfo e) (AV.pure _)
theorem AV.zero {t : TypeId} {i : TypeInfo} {z : Value} (e : P.info? t = some i) (hz : i.zero = some z) : AV P (zeroValue t) z := AV.bind (AV.typeInfo e) (by rw [hz]; exact AV.pure z)
theorem AV.use {α β : Type} {s : Sem α} {a : α} (x : AV P s a) {f : α → Sem β} {hf : H} {fl : Bool} {K : β → H → Bool → Prop} {E : Value → H → Prop} (k : awp P (f a) hf fl K E) : awp P (s >>= f) hf fl K E := (awp_bind _ _ _ _).2 (x _ _ _ _ k)
def RV {α : Type} (P : Program) (hf : H) (s : Sem α) (v : α) : Prop := ∀ (fl : Bool) (K : α → H → Bool → Prop) (E : Value → H → Prop), K v hf fl → awp P s hf fl K E
theorem RV.use {α β : Type} {hf : H} {s : Sem α} {a : α} (x : RV P hf s a) {f : α → Sem β} {fl : Bool} {K : β → H → Bool → Prop} {E : Value → H → Prop} (k : awp P (f a) hf fl K E) : awp P (s >>= f) hf fl K E := (awp_bind _ _ _ _).2 (x _ _ _ k)
theorem cells_rv {a : Addr} {hf : H} {c : Array Value} {e : TypeId} {fz : Nat × Nat} (hsp : a.spot = none) (hb : hf a.block = some (.cells c e fz)) : ∀ (n i : Nat) (acc : Array Value) (l : List Value), grab c (a.off + i) n = some l → RV P hf (loadCellsFrom a i n acc) (acc ++ l.toArray) := by
  intro n
  induction n with
  | zero => intro i acc l hg fl K E k; simp only [grab, Option.some.injEq] at hg; subst hg; show K acc hf fl; simpa using k
  | succ n ih =>
    intro i acc l hg fl K E k
    simp only [grab] at hg
    cases h1 : c[a.off + i]? with
    | none => rw [h1] at hg; simp at hg
    | some x =>
      cases h2 : grab c (a.off + i + 1) n with
      | none => rw [h1, h2] at hg; simp at hg
      | some r =>
        rw [h1, h2] at hg
        simp only [Option.some.injEq] at hg
        subst hg
        refine (awp_bind _ _ _ _).2 ?_
        have ha : (a.add i).block = a.block ∧ (a.add i).off = a.off + i ∧ (a.add i).spot = none := by
          unfold Addr.add; split
          · subst_vars; exact ⟨rfl, rfl, hsp⟩
          · exact ⟨rfl, rfl, rfl⟩
        refine ⟨ha.2.2, c, e, fz, x, by rw [ha.1]; exact hb, by rw [ha.2.1]; exact h1, ih (i + 1) _ r h2 fl K E ?_⟩
        rw [show acc.push x ++ r.toArray = acc ++ (x :: r).toArray from by simp]
        exact k
theorem first_rv {hf : H} {a : Option Addr} {len cap size n : Nat} {l : List Value} (hr : Row hf a l) (hl : a.isSome = true → l.length = n * size) : RV P hf (Builtin.firstCells size n (.slice a len cap)) l.toArray := by
  cases a with
  | none => intro fl K E k; rw [show l = [] from hr] at k; exact k
  | some a =>
    rcases hr with hr | ⟨hsp, c, e, fz, hb, hg⟩
    · subst hr
      intro fl K E k
      show awp P (loadCellsFrom a 0 (n * size) #[]) hf fl K E
      have h0 : n * size = 0 := (hl rfl).symm
      rw [h0]; exact k
    intro fl K E k
    show awp P (loadCellsFrom a 0 (n * size) #[]) hf fl K E
    rw [hl rfl] at hg
    exact cells_rv hsp hb (n * size) 0 #[] l hg fl K E (by rw [Array.empty_append]; exact k)
theorem room_av {n : Nat} {hf : H} {fl : Bool} {K : Unit → H → Bool → Prop} {E : Value → H → Prop} (k : ∀ fl', K () hf fl') : awp P (askRoom n) hf fl K E := by
  unfold askRoom
  split
  · exact k _
  · exact k _
theorem append_awp {s : Sl} {xa : Option Addr} {m xcap : Nat} {new : List Value} {t t' e e2 ty' : TypeId} {ti : TypeInfo} {z : Value} {hf : H} {K : Value → H → Bool → Prop} {E : Value → H → Prop}
    (hu : P.underlying t = some (.slice e)) (hu' : P.underlying t' = some (.slice e2)) (hi : P.info? e = some ti) (hz : ti.zero = some z) (hby : ti.bytes ≠ 0)
    (hnew : Row hf xa new) (hnl : xa.isSome = true → new.length = m * ti.size) (hpl : new.all plainVal = true)
    (fits : s.len + m ≤ s.cap → match s.a with
      | none => new = [] ∧ K (.slice none (s.len + m) s.cap) hf false
      | some a => (new = [] ∧ K (.slice (some a) (s.len + m) s.cap) hf false) ∨ (a.add (s.len * ti.size)).spot = none ∧ ∃ c e' fz, hf a.block = some (.cells c e' fz) ∧ (a.add (s.len * ti.size)).off + new.length ≤ c.size ∧
        (∀ i, i < new.length → frozenIn (.cells c e' fz) ((a.add (s.len * ti.size)).off + i) = false) ∧ K (.slice (some a) (s.len + m) s.cap) (upd hf a.block (.cells (lay c (a.add (s.len * ti.size)).off new) e' fz)) false)
    (grows : ¬ s.len + m ≤ s.cap → ∃ old, Row hf s.a old ∧ (s.a.isSome = true → old.length = s.len * ti.size) ∧
      Room ti.bytes (s.len + m) s.cap ∧
      ∀ b cap fl, hf b = none → s.len + m ≤ cap → K (.slice (some ⟨b, 0, none⟩) (s.len + m) cap) (upd hf b (.cells (old.toArray ++ new.toArray ++ Builtin.zeroCells z.cells (cap - (s.len + m))) e (0, 0))) fl) :
    awp P (Builtin.append_ #[t, t'] ty' #[s.val, .slice xa m xcap]) hf false K E := by
  unfold Builtin.append_ Sl.val
  simp only [List.getElem?_toArray, List.getElem?_cons_zero, List.getElem?_cons_succ]
  refine AV.use (AV.underlying hu) ?_
  simp only []
  refine AV.use (AV.sizeOf hi) ?_
  refine AV.use (AV.underlying hu') ?_
  refine AV.use (a := false) (AV.pure _) ?_
  simp only [Bool.false_eq_true, if_false]
  refine AV.use (a := m) (AV.pure m) ?_
  simp only [Bool.not_false, if_true]
  split
  · rename_i hle
    refine RV.use (first_rv hnew hnl) ?_
    have f := fits hle
    cases ha : s.a with
    | none =>
      rw [ha] at f
      exact f.2
    | some a =>
      rw [ha] at f
      rcases f with ⟨rfl, k⟩ | ⟨hsp, c, e', fz, hb, hl, hfz, k⟩
      · exact (awp_bind _ _ _ _).2 k
      refine (awp_bind _ _ _ _).2 ?_
      have hbl : (a.add (s.len * ti.size)).block = a.block := by unfold Addr.add; split <;> rfl
      refine storeCells_run hsp new 0 hf c false _ hpl (by rw [hbl]; exact hb) (by simpa using hl) (by simpa using hfz) ?_
      rw [hbl]
      exact k
  · rename_i hgt
    obtain ⟨old, hold, hol, hroom, k⟩ := grows hgt
    refine AV.use (AV.typeInfo hi) ?_
    rw [if_neg (fun hh => by
      rcases hh.2 with q | q
      · cases q
      · exact hby q)]
    refine AV.use (AV.typeInfo hi) ?_
    rw [if_neg (Nat.not_lt.2 hroom)]
    · refine (awp_bind _ _ _ _).2 ?_
      intro q
      have hcap : s.len + m ≤ (Question.appendCap (s.len + m) s.cap e).cut q := by simp only [Question.cut]; omega
      generalize (Question.appendCap (s.len + m) s.cap e).cut q = cap at hcap
      show awp P (do let i ← typeInfo e; _) _ _ _ _
      refine AV.use (AV.typeInfo hi) ?_
      refine (awp_bind _ _ _ _).2 (room_av fun fl => ?_)
      refine RV.use (first_rv hold hol) (RV.use (first_rv hnew hnl) (AV.use (AV.zero hi hz) ?_))
      exact fun b hb => k b cap fl hb hcap
theorem un_at {b : Nat} {o : Obj} (ap : Apart L h) (hb : h b = some o) : un L h b = some o := by
  rcases ap b with q | q
  · rw [un_right q]; exact hb
  · rw [q] at hb; cases hb
theorem Row_un {a : Option Addr} {l : List Value} (ap : Apart L h) (x : Row h a l) : Row (un L h) a l := by
  cases a with
  | none => exact x
  | some a => exact x.imp id (At_un ap)
theorem app_awp {s : Sl} {xa : Option Addr} {m xcap : Nat} {new : List Value} {t t' e e2 ty' : TypeId} {ti : TypeInfo} {z : Value} {k : Sl → H → Prop} {o : Oper} {E : Value → H → Prop}
    (hu : P.underlying t = some (.slice e)) (hu' : P.underlying t' = some (.slice e2)) (hi : P.info? e = some ti) (hz : ti.zero = some z) (hby : ti.bytes ≠ 0)
    (ap : Apart L h) (hm : mApp e ti.size ti.bytes z.cells m new s k h) (hnew : Row (un L h) xa new) (hnl : xa.isSome = true → new.length = m * ti.size) (hpl : new.all plainVal = true)
    (nx : ∀ s' h', k s' h' → next (put ρ o.dst s'.val) L h') : awp P (Builtin.append_ #[t, t'] ty' #[s.val, .slice xa m xcap]) (un L h) false (fun v hf fl => upon P o ρ L h next C (.value v) hf fl) E := by
  have fin : ∀ (s' : Sl) (h' : H) (hf : H) (fl : Bool), hf = un L h' → (Apart L h → Apart L h') → k s' h' → upon P o ρ L h next C (.value s'.val) hf fl := fun s' h' hf fl e1 e2 kk => ⟨trivial, L, h', e1, e2, .refl _ _, nx s' h' kk⟩
  refine append_awp hu hu' hi hz hby hnew hnl hpl (fun hle => ?_) (fun hgt => ?_)
  · have := hm.1 hle
    cases ha : s.a with
    | none =>
      rw [ha] at this
      exact ⟨this.1, fin ⟨none, s.len + m, s.cap⟩ h _ _ rfl id this.2⟩
    | some a =>
      rw [ha] at this
      rcases this with ⟨rfl, kk⟩ | ⟨hsp, c, e', fz, hb, hl, hfz, kk⟩
      · exact .inl ⟨rfl, fin ⟨some a, s.len + m, s.cap⟩ h _ _ rfl id kk⟩
      obtain ⟨e1, e2⟩ := un_put (o' := .cells (lay c (a.add (s.len * ti.size)).off new) e' fz) ap hb
      exact .inr ⟨hsp, c, e', fz, un_at ap hb, hl, hfz, fin ⟨some a, s.len + m, s.cap⟩ _ _ _ e1 (fun _ => e2) kk⟩
  · obtain ⟨old, hold, hol, hroom, kk⟩ := hm.2 hgt
    refine ⟨old, Row_un ap hold, hol, hroom, fun b cap fl hb hcap => ?_⟩
    · obtain ⟨e1, _, e3⟩ := un_new (o := .cells (old.toArray ++ new.toArray ++ Builtin.zeroCells z.cells (cap - (s.len + m))) e (0, 0)) hb
      exact fin ⟨some ⟨b, 0, none⟩, s.len + m, cap⟩ _ _ _ e1 (fun ap => (e3 ap).1) (kk b cap (un_none.1 hb).2 hcap)
theorem exec_append {x y : Operand} {ts : List TypeId} {vx vy : Value} (hx : ev ρ x = vx) (hy : ev ρ y = vy) : execOp (ev ρ) ⟨d, .call ⟨.builtin .append, [x, y].toArray, ts.toArray⟩, ty, ps, af, gd⟩ = (do pure (.value (← Builtin.append_ ts.toArray ty #[vx, vy])) : Sem Next) := by
  subst hx; subst hy
  have e : ([x, y].toArray.map (ev ρ)) = #[ev ρ x, ev ρ y] := List.map_toArray ..
  rw [← e]
  rfl
theorem v_push {x y : Operand} {s : Sl} {b m xcap : Nat} {new : List Value} {cs : Array Value} {t t' e e2 e3 : TypeId} {ti : TypeInfo} {z : Value} {k : Sl → H → Prop}
    (hu : P.underlying t = some (.slice e)) (hu' : P.underlying t' = some (.slice e2)) (hi : P.info? e = some ti) (hz : ti.zero = some z) (hby : Nat.beq ti.bytes 0 = false)
    (hx : ev ρ x = s.val) (hy : ev ρ y = .slice (some ⟨b, 0, none⟩) m xcap) (hk : L b = some (.cells cs e3 (0, 0))) (hg : grab cs 0 (m * ti.size) = some new)
    (hpl : new.all plainVal = true) (hm : mApp e ti.size ti.bytes z.cells m new s k h)
    (nx : ∀ s' h', k s' h' → next (put ρ d s'.val) L h') : aOp P ⟨d, .call ⟨.builtin .append, [x, y].toArray, [t, t'].toArray⟩, ty, ps, af, gd⟩ ρ L h next C := fun ap => by
  show awp P (execOp (ev ρ) ⟨d, .call ⟨.builtin .append, [x, y].toArray, [t, t'].toArray⟩, ty, ps, af, gd⟩) _ _ _ _
  rw [exec_append hx hy]
  refine (awp_bind _ _ _ _).2 ?_
  have hgb := hk
  have hl := grab_len hg
  refine app_awp (o := ⟨d, .call ⟨.builtin .append, [x, y].toArray, [t, t'].toArray⟩, ty, ps, af, gd⟩) hu hu' hi hz (fun e => by rw [e] at hby; cases hby) ap hm ?_ (fun _ => hl) hpl nx
  exact .inr ⟨rfl, cs, e3, (0, 0), un_left hgb, by rw [hl]; exact hg⟩
theorem v_append {x y : Operand} {s x' : Sl} {t t' e e2 : TypeId} {ti : TypeInfo} {z : Value} {k : Sl → H → Prop} (hu : P.underlying t = some (.slice e)) (hu' : P.underlying t' = some (.slice e2)) (hi : P.info? e = some ti) (hz : ti.zero = some z) (hby : Nat.beq ti.bytes 0 = false)
    (hx : ev ρ x = s.val) (hy : ev ρ y = x'.val) (hm : mAppend e ti.size ti.bytes z.cells s x' k h)
    (nx : ∀ s' h', k s' h' → next (put ρ d s'.val) L h') : aOp P ⟨d, .call ⟨.builtin .append, [x, y].toArray, [t, t'].toArray⟩, ty, ps, af, gd⟩ ρ L h next C := fun ap => by
  show awp P (execOp (ev ρ) ⟨d, .call ⟨.builtin .append, [x, y].toArray, [t, t'].toArray⟩, ty, ps, af, gd⟩) _ _ _ _
  rw [exec_append hx hy]
  refine (awp_bind _ _ _ _).2 ?_
  obtain ⟨new, hrow, hnl, hpl, hm⟩ := hm
  exact app_awp (o := ⟨d, .call ⟨.builtin .append, [x, y].toArray, [t, t'].toArray⟩, ty, ps, af, gd⟩) hu hu' hi hz (fun e => by rw [e] at hby; cases hby) ap hm (Row_un ap hrow) hnl hpl nx
theorem y_eqB {t u : TypeId} {x y : Operand} {a b : Bool} (hu : P.underlying t = some .bool) (hx : ev ρ x = .bool a) (hy : ev ρ y = .bool b) : YE P ⟨d, .binOp .eql t x y u, ty, ps, af, gd⟩ ρ (.bool (a == b)) := by
  refine YE.val rfl rfl ?_
  show QV P (do eqGuard .eql t x y (ev ρ x) (ev ρ y); binOp .eql t (ev ρ x) (ev ρ y)) _
  rw [hx, hy]
  refine QV.bind (a := ()) (QV.pure _) ?_
  refine QV.bind (a := (a == b)) ?_ (QV.pure _)
  show QV P (Op.equalIn Op.maxDepth t (.bool a) (.bool b)) _
  unfold Op.maxDepth Op.equalIn
  exact QV.bind (QV.underlying hu) (QV.pure _)
theorem y_neB {t u : TypeId} {x y : Operand} {a b : Bool} (hu : P.underlying t = some .bool) (hx : ev ρ x = .bool a) (hy : ev ρ y = .bool b) : YE P ⟨d, .binOp .neq t x y u, ty, ps, af, gd⟩ ρ (.bool (!(a == b))) := by
  refine YE.val rfl rfl ?_
  show QV P (do eqGuard .neq t x y (ev ρ x) (ev ρ y); binOp .neq t (ev ρ x) (ev ρ y)) _
  rw [hx, hy]
  refine QV.bind (a := ()) (QV.pure _) ?_
  refine QV.bind (a := (a == b)) ?_ (QV.pure _)
  show QV P (Op.equalIn Op.maxDepth t (.bool a) (.bool b)) _
  unfold Op.maxDepth Op.equalIn
  exact QV.bind (QV.underlying hu) (QV.pure _)
end more
section eq
variable {P : Program} {ρ : Env}
variable {d : Option Tmp} {ty : TypeId} {ps : String} {af : Array Edge} {gd : Option (Nat × Bool)}
theorem y_eqOf {t u : TypeId} {x y : Operand} {vx vy : Value} {b : Bool} (hx : ev ρ x = vx) (hy : ev ρ y = vy) (hg : QV P (eqGuard .eql t x y vx vy) ()) (hb : binOp .eql t vx vy = (do pure (.bool (← Op.equal t vx vy)) : Sem Value)) (he : QV P (Op.equal t vx vy) b) :
    YE P ⟨d, .binOp .eql t x y u, ty, ps, af, gd⟩ ρ (.bool b) := by
  refine YE.val rfl rfl ?_
  show QV P (do eqGuard .eql t x y (ev ρ x) (ev ρ y); binOp .eql t (ev ρ x) (ev ρ y)) _
  rw [hx, hy]
  refine QV.bind hg ?_
  rw [hb]
  exact QV.bind he (QV.pure _)
theorem y_neOf {t u : TypeId} {x y : Operand} {vx vy : Value} {b : Bool} (hx : ev ρ x = vx) (hy : ev ρ y = vy) (hg : QV P (eqGuard .neq t x y vx vy) ()) (hb : binOp .neq t vx vy = (do pure (.bool (!(← Op.equal t vx vy))) : Sem Value)) (he : QV P (Op.equal t vx vy) b) :
    YE P ⟨d, .binOp .neq t x y u, ty, ps, af, gd⟩ ρ (.bool !b) := by
  refine YE.val rfl rfl ?_
  show QV P (do eqGuard .neq t x y (ev ρ x) (ev ρ y); binOp .neq t (ev ρ x) (ev ρ y)) _
  rw [hx, hy]
  refine QV.bind hg ?_
  rw [hb]
  exact QV.bind he (QV.pure _)
theorem eq_nilP {t e : TypeId} {p : Option Addr} (hu : P.underlying t = some (.pointer e)) : QV P (Op.equal t (.pointer p) (.pointer none)) p.isNone := by
  show QV P (Op.equalIn Op.maxDepth t _ _) _
  unfold Op.maxDepth Op.equalIn
  refine QV.bind (QV.underlying hu) ?_
  cases p <;> exact QV.pure _
theorem eq_nilS {t e : TypeId} {s : Sl} {n c : Nat} (hu : P.underlying t = some (.slice e)) : QV P (Op.equal t s.val (.slice none n c)) s.a.isNone := by
  show QV P (Op.equalIn Op.maxDepth t _ _) _
  unfold Op.maxDepth Op.equalIn Sl.val
  refine QV.bind (QV.underlying hu) ?_
  cases s.a <;> exact QV.pure _
theorem eq_nilM {t k e : TypeId} {p : Option Nat} (hu : P.underlying t = some (.map k e)) : QV P (Op.equal t (.map p) (.map none)) p.isNone := by
  show QV P (Op.equalIn Op.maxDepth t _ _) _
  unfold Op.maxDepth Op.equalIn
  refine QV.bind (QV.underlying hu) ?_
  cases p <;> exact QV.pure _
theorem y_eqP {t e u : TypeId} {x y : Operand} {p : Option Addr} (hu : P.underlying t = some (.pointer e)) (hx : ev ρ x = .pointer p) (hy : ev ρ y = .pointer none) : YE P ⟨d, .binOp .eql t x y u, ty, ps, af, gd⟩ ρ (.bool p.isNone) := y_eqOf hx hy (QV.pure _) rfl (eq_nilP hu)
theorem y_neP {t e u : TypeId} {x y : Operand} {p : Option Addr} (hu : P.underlying t = some (.pointer e)) (hx : ev ρ x = .pointer p) (hy : ev ρ y = .pointer none) : YE P ⟨d, .binOp .neq t x y u, ty, ps, af, gd⟩ ρ (.bool !p.isNone) := y_neOf hx hy (QV.pure _) rfl (eq_nilP hu)
theorem y_eqSl {t e u : TypeId} {x y : Operand} {s : Sl} {n c : Nat} (hu : P.underlying t = some (.slice e)) (hx : ev ρ x = s.val) (hy : ev ρ y = .slice none n c) : YE P ⟨d, .binOp .eql t x y u, ty, ps, af, gd⟩ ρ (.bool s.a.isNone) := y_eqOf hx hy (QV.pure _) rfl (eq_nilS hu)
theorem y_neSl {t e u : TypeId} {x y : Operand} {s : Sl} {n c : Nat} (hu : P.underlying t = some (.slice e)) (hx : ev ρ x = s.val) (hy : ev ρ y = .slice none n c) : YE P ⟨d, .binOp .neq t x y u, ty, ps, af, gd⟩ ρ (.bool !s.a.isNone) := y_neOf hx hy (QV.pure _) rfl (eq_nilS hu)
theorem y_eqM {t k e u : TypeId} {x y : Operand} {p : Option Nat} (hu : P.underlying t = some (.map k e)) (hx : ev ρ x = .map p) (hy : ev ρ y = .map none) : YE P ⟨d, .binOp .eql t x y u, ty, ps, af, gd⟩ ρ (.bool p.isNone) := y_eqOf hx hy (QV.pure _) rfl (eq_nilM hu)
theorem y_neM {t k e u : TypeId} {x y : Operand} {p : Option Nat} (hu : P.underlying t = some (.map k e)) (hx : ev ρ x = .map p) (hy : ev ρ y = .map none) : YE P ⟨d, .binOp .neq t x y u, ty, ps, af, gd⟩ ρ (.bool !p.isNone) := y_neOf hx hy (QV.pure _) rfl (eq_nilM hu)
def EQ (P : Program) (n : Nat) (t : TypeId) (x y : Value) (b : Bool) : Prop := ∀ k, n ≤ k → QV P (Op.equalIn k t x y) b
theorem eq_int {t : TypeId} {j k : IntKind} {a b : Int} (hu : P.underlying t = some (.int j)) : EQ P 1 t (.int k a) (.int k b) (decide (a = b)) := fun m hm => by
  obtain ⟨m, rfl⟩ : ∃ q, m = q + 1 := ⟨m - 1, by omega⟩
  unfold Op.equalIn
  refine QV.bind (QV.underlying hu) ?_
  simp only [if_true]
  exact QV.pure _
theorem eq_bool {t : TypeId} {a b : Bool} (hu : P.underlying t = some .bool) : EQ P 1 t (.bool a) (.bool b) (a == b) := fun m hm => by
  obtain ⟨m, rfl⟩ : ∃ q, m = q + 1 := ⟨m - 1, by omega⟩
  unfold Op.equalIn
  exact QV.bind (QV.underlying hu) (QV.pure _)
theorem eq_str {t : TypeId} {a b : ByteArray} (hu : P.underlying t = some .string) : EQ P 1 t (.string a) (.string b) (a == b) := fun m hm => by
  obtain ⟨m, rfl⟩ : ∃ q, m = q + 1 := ⟨m - 1, by omega⟩
  unfold Op.equalIn
  exact QV.bind (QV.underlying hu) (QV.pure _)
def PartOk (P : Program) (f : Field) (cs : Array Value) (v : Value) : Prop := QV P (part f.type cs f.offset) v
theorem part_one {f : Field} {cs : Array Value} {v : Value} {td : TypeDesc} (hu : P.underlying f.type = some td) (hs : aggB td = false) (hv : cs[f.offset]? = some v) : PartOk P f cs v := by
  unfold PartOk part
  refine QV.bind (QV.isAgg hu) ?_
  rw [hs]
  simp only [Bool.false_eq_true, if_false, hv]
  exact QV.pure _
theorem part_agg {f : Field} {cs : Array Value} {v : Value} {td : TypeDesc} {ti : TypeInfo} (hu : P.underlying f.type = some td) (hs : aggB td = true) (hi : P.info? f.type = some ti) (hv : Value.agg (cs.extract f.offset (f.offset + ti.size)) = v) : PartOk P f cs v := by
  unfold PartOk part
  refine QV.bind (QV.isAgg hu) ?_
  rw [hs, ← hv]
  simp only [if_true]
  exact QV.bind (QV.sizeOf hi) (QV.pure _)
def EFs (P : Program) (n : Nat) : List Field → Array Value → Array Value → Bool → Prop
  | [], _, _, b => b = true
  | f :: r, xs, ys, b => (f.name == "_") = false ∧ ∃ x y b1 b2, PartOk P f xs x ∧ PartOk P f ys y ∧ EQ P n f.type x y b1 ∧ EFs P n r xs ys b2 ∧ b = (b1 && b2)
theorem efs_nil {n : Nat} {xs ys : Array Value} : EFs P n [] xs ys true := rfl
theorem efs_cons {n n1 : Nat} {f : Field} {r : List Field} {xs ys : Array Value} {x y : Value} {b1 b2 : Bool} (hn : (f.name == "_") = false) (px : PartOk P f xs x) (py : PartOk P f ys y) (e : EQ P n1 f.type x y b1) (hle : Nat.ble n1 n = true) (h : EFs P n r xs ys b2) : EFs P n (f :: r) xs ys (b1 && b2) :=
  ⟨hn, x, y, b1, b2, px, py, fun k hk => e k (Nat.le_trans (Nat.le_of_ble_eq_true hle) hk), h, rfl⟩
theorem efs_run {n k : Nat} (hk : n ≤ k) {xs ys : Array Value} : ∀ {fl : List Field} {b : Bool}, EFs P n fl xs ys b → QV P (do
      for f in fl do
        if f.name ≠ "_" then
          if !(← Op.equalIn k f.type (← part f.type xs f.offset) (← part f.type ys f.offset)) then return false
      pure true : Sem Bool) b := by
  intro fl
  induction fl with
  | nil => intro b h; subst h; exact QV.pure _
  | cons f r ih =>
    intro b h
    obtain ⟨hn, x, y, b1, b2, px, py, e, h, rfl⟩ := h
    have hne : f.name ≠ "_" := by intro q; rw [q] at hn; simp at hn
    have q1 := ih h
    cases b1 with
    | true =>
      rw [Bool.true_and]
      simp only [List.forIn_cons, hne, ne_eq, not_false_eq_true, if_true, bind_assoc] at q1 ⊢
      refine QV.bind px (QV.bind py (QV.bind (e k hk) ?_))
      simpa using q1
    | false =>
      rw [Bool.false_and]
      simp only [List.forIn_cons, hne, ne_eq, not_false_eq_true, if_true, bind_assoc]
      refine QV.bind px (QV.bind py (QV.bind (e k hk) ?_))
      exact QV.pure _
theorem eq_struct {t : TypeId} {fl : List Field} {xs ys : Array Value} {n : Nat} {b : Bool} (hu : P.underlying t = some (.struct fl.toArray)) (hs : P.stoodInHeld t = false) (h : EFs P n fl xs ys b) : EQ P (n + 1) t (.agg xs) (.agg ys) b := fun m hm => by
  obtain ⟨m, rfl⟩ : ∃ q, m = q + 1 := ⟨m - 1, by omega⟩
  unfold Op.equalIn
  refine QV.bind (QV.underlying hu) ?_
  simp only []
  refine QV.bind (a := P) (QV.program) ?_
  rw [hs]
  have := efs_run (k := m) (by omega) h
  simpa using this
theorem y_eqA {t u : TypeId} {x y : Operand} {xs ys : Array Value} {n : Nat} {b : Bool} (hq : P.eqGuardType P.depth t = false) (hx : ev ρ x = .agg xs) (hy : ev ρ y = .agg ys) (e : EQ P n t (.agg xs) (.agg ys) b) (hn : Nat.ble n 100 = true) : YE P ⟨d, .binOp .eql t x y u, ty, ps, af, gd⟩ ρ (.bool b) := by
  refine y_eqOf hx hy ?_ rfl (e _ (by have := Nat.le_of_ble_eq_true hn; unfold Op.maxDepth; omega))
  unfold eqGuard
  simp only [Bool.not_true, Bool.false_eq_true, if_false]
  refine QV.bind QV.program (QV.bind QV.program ?_)
  rw [hq]
  exact QV.pure _
theorem y_neA {t u : TypeId} {x y : Operand} {xs ys : Array Value} {n : Nat} {b : Bool} (hq : P.eqGuardType P.depth t = false) (hx : ev ρ x = .agg xs) (hy : ev ρ y = .agg ys) (e : EQ P n t (.agg xs) (.agg ys) b) (hn : Nat.ble n 100 = true) : YE P ⟨d, .binOp .neq t x y u, ty, ps, af, gd⟩ ρ (.bool !b) := by
  refine y_neOf hx hy ?_ rfl (e _ (by have := Nat.le_of_ble_eq_true hn; unfold Op.maxDepth; omega))
  unfold eqGuard
  simp only [Bool.not_true, Bool.false_eq_true, if_false]
  refine QV.bind QV.program (QV.bind QV.program ?_)
  rw [hq]
  exact QV.pure _
def mIsNil (fv : Value) (k : Bool → H → Prop) : H → Prop := fun h => (fv = .nilIface ∧ k true h) ∨ ∃ t v, fv = .iface t v ∧ k false h
theorem eq_nilI {t : TypeId} {ms : Array (String × TypeId)} {v : Value} {b : Bool} (hu : P.underlying t = some (.interface ms)) (hv : (v = .nilIface ∧ b = true) ∨ (∃ t' v', v = .iface t' v' ∧ b = false)) : QV P (Op.equal t v .nilIface) b := by
  show QV P (Op.equalIn Op.maxDepth t _ _) _
  unfold Op.maxDepth Op.equalIn
  refine QV.bind (QV.underlying hu) ?_
  rcases hv with ⟨rfl, rfl⟩ | ⟨t', v', rfl, rfl⟩ <;> exact QV.pure _
theorem guard_nilI {op : BinOp} {t : TypeId} {x : Operand} {v : Value} {b : Bool} (hv : (v = .nilIface ∧ b = true) ∨ (∃ t' v', v = .iface t' v' ∧ b = false)) (ho : op = .eql ∨ op = .neq) : QV P (eqGuard op t x (.const .nilIface) v .nilIface) () := by
  have hg : eqGuard op t x (.const .nilIface) v .nilIface = pure () := by
    rcases ho with rfl | rfl <;> rcases hv with ⟨rfl, _⟩ | ⟨t', v', rfl, _⟩ <;> unfold eqGuard <;> simp
  rw [hg]; exact QV.pure _
theorem y_eqI {t u : TypeId} {ms : Array (String × TypeId)} {x : Operand} {v : Value} {b : Bool} (hu : P.underlying t = some (.interface ms)) (hx : ev ρ x = v) (hv : (v = .nilIface ∧ b = true) ∨ (∃ t' v', v = .iface t' v' ∧ b = false)) : YE P ⟨d, .binOp .eql t x (.const .nilIface) u, ty, ps, af, gd⟩ ρ (.bool b) :=
  y_eqOf hx rfl (guard_nilI hv (.inl rfl)) (by rcases hv with ⟨rfl, _⟩ | ⟨t', v', rfl, _⟩ <;> rfl) (eq_nilI hu hv)
theorem y_neI {t u : TypeId} {ms : Array (String × TypeId)} {x : Operand} {v : Value} {b : Bool} (hu : P.underlying t = some (.interface ms)) (hx : ev ρ x = v) (hv : (v = .nilIface ∧ b = true) ∨ (∃ t' v', v = .iface t' v' ∧ b = false)) : YE P ⟨d, .binOp .neq t x (.const .nilIface) u, ty, ps, af, gd⟩ ρ (.bool !b) :=
  y_neOf hx rfl (guard_nilI hv (.inr rfl)) (by rcases hv with ⟨rfl, _⟩ | ⟨t', v', rfl, _⟩ <;> rfl) (eq_nilI hu hv)
end eq
section
variable {P : Program} {C : PPost} {next : Post} {ρ : Env} {L h : H} {v : Value}
variable {d : Option Tmp} {ty : TypeId} {ps : String} {af : Array Edge} {gd : Option (Nat × Bool)}
theorem y_makeFunc {f : FuncId} {fl l : List Operand} {fvl vl : List Value} (hf : fl.map (ev ρ) = fvl) (hv : l.map (ev ρ) = vl) : YE P ⟨d, .makeFunc (.func f) fl.toArray l.toArray, ty, ps, af, gd⟩ ρ (.func (.func f) fvl.toArray vl.toArray) := by
  refine YE.val rfl rfl ?_
  subst hf; subst hv
  show QV P (Instr.makeFunc (.func f) (fl.toArray.map (ev ρ)) (l.toArray.map (ev ρ))) _
  rw [List.map_toArray (l := l), List.map_toArray (l := fl)]
  unfold Instr.makeFunc
  exact QV.pure _
def mCallV {T : Type} (P : Program) (enc : T → Value) (fv : Value) (args : List Value) (k : T → H → Prop) : H → Prop := fun h =>
  (∃ f fn first cap, fv = .func (.func f) first cap ∧ Callee P f fn ∧ ACall P f (first ++ args.toArray ++ cap) h (fun v h' => ∃ r, v = enc r ∧ k r h') noP) ∨
  ∃ l, fv = .func (.yield l) #[] #[] ∧ mYield P l args (fun v h' => ∃ r, v = enc r ∧ k r h') h
theorem v_callV {T : Type} {enc : T → Value} {x : Operand} {fv : Value} {l : List Operand} {vl : List Value} {ts : Array TypeId} {k : T → H → Prop} (hx : ev ρ x = fv) (hv : l.map (ev ρ) = vl) (hm : mCallV P enc fv vl k h)
    (nx : ∀ r h', k r h' → next (put ρ d (enc r)) L h') : aOp P ⟨d, .call ⟨.value x, l.toArray, ts⟩, ty, ps, af, gd⟩ ρ L h next C := fun ap => by
  rcases hm with ⟨f, fn, first, cap, rfl, c, hc⟩ | ⟨y, rfl, r, hr, hlen, hc⟩
  · show awp P (execOp (ev ρ) ⟨d, .call ⟨.value x, l.toArray, ts⟩, ty, ps, af, gd⟩) _ _ _ _
    have e : execOp (ev ρ) ⟨d, .call ⟨.value x, l.toArray, ts⟩, ty, ps, af, gd⟩ = callFunc f ((first ++ l.toArray.map (ev ρ)) ++ cap) := by
      show (do let d ← Deferred.ofValue (ev ρ x) (l.toArray.map (ev ρ)); invoke d.target d.args : Sem Next) = _
      rw [hx]; rfl
    rw [e, List.map_toArray, hv]
    exact callFunc_awp c ⟨trivial, L, h, rfl, id, .refl _ _, hc.mono (fun v h'' ⟨r, e, k⟩ _ => by subst e; exact nx r h'' k) fun _ _ k => k.elim⟩
  · show awp P (execOp (ev ρ) ⟨d, .call ⟨.value x, l.toArray, ts⟩, ty, ps, af, gd⟩) _ _ _ _
    have e : execOp (ev ρ) ⟨d, .call ⟨.value x, l.toArray, ts⟩, ty, ps, af, gd⟩ = Instr.yield y vl.toArray := by
      show (do let d ← Deferred.ofValue (ev ρ x) (l.toArray.map (ev ρ)); invoke d.target d.args : Sem Next) = _
      rw [hx, List.map_toArray, hv]
      show Instr.yield y (#[] ++ vl.toArray) = _
      rw [Array.empty_append]
    rw [e]
    unfold Instr.yield Instr.getLoop
    refine (awp_bind _ _ _ _).2 ((awp_bind _ _ _ _).2 ⟨_, un_at ap hr, rfl, ?_⟩)
    show awp P (if vl.toArray.size ≠ r.params.size then _ else _) _ _ _ _
    rw [if_neg (by simpa using hlen)]
    refine ⟨trivial, L, h, rfl, id, .refl _ _, ?_⟩
    have e2 : (r.params.zip vl.toArray).foldl (fun tmps (t, a) => tmps.setIfInBounds t a) r.tmps = (r.params.toList.zip vl).foldl (fun t p => t.setIfInBounds p.1 p.2) r.tmps := by
      rw [← Array.foldl_toList, Array.toList_zip]
    show ARnd P y r.fn ((r.params.zip vl.toArray).foldl (fun tmps (t, a) => tmps.setIfInBounds t a) r.tmps) r.assign r.body h _ _
    rw [e2]
    exact hc.mono (fun v h'' ⟨r, e, k⟩ _ => by subst e; exact nx r h'' k) fun _ _ k => k.elim
def mRangeF {A : Type} (P : Program) (enc : A → List Value) (fv : Value) (body : A → ((H → Prop) → H → Prop) → (Nat → H → Prop) → H → Prop) (k : Nat → H → Prop) : H → Prop := fun h =>
  ∃ f fn first cap, fv = .func (.func f) first cap ∧ Callee P f fn ∧ ∀ (l : Nat) (ob : Nat → Obj) (bz : Obj), h l = none →
    (∀ (x : A) (kb : Bool → H → Prop) (h' : H), h' l = some (ob 0) →
      body x (fun q h1 => h1 l = some (ob 0) ∧ q (upd h1 l bz)) (fun j h2 => h2 l = some bz ∧ kb (Nat.beq j 0) (upd h2 l (ob j))) h' → mYield P l (enc x) (fun v h'' => ∃ b, v = .bool b ∧ kb b h'') h') →
    ACall P f (first ++ #[.func (.yield l) #[] #[]] ++ cap) (upd h l (ob 0)) (fun _ h'' => ∃ j, h'' l = some (ob j) ∧ ∀ o, k j (upd h'' l o)) noP
def mMake (elem : TypeId) (by_ : Nat) (zero : Array Value) (n c : Int) (k : Sl → H → Prop) : H → Prop := fun h =>
  0 ≤ n ∧ n ≤ c ∧ c ≤ 9223372036854775807 ∧ (by_ : Int) * c ≤ 2 ^ 48 ∧ ∀ b, h b = none → k ⟨some ⟨b, 0, none⟩, n.toNat, c.toNat⟩ (upd h b (.cells (Builtin.zeroCells zero c.toNat) elem (0, 0)))
theorem wrap_id {n : Int} (h0 : 0 ≤ n) (h1 : n ≤ 9223372036854775807) : IntKind.i64.wrap n = n := by
  have e : n % 2 ^ 64 = n := Int.emod_eq_of_lt h0 (by omega)
  unfold IntKind.wrap
  simp only [IntKind.signed, IntKind.bits, e]
  rw [if_neg]
  simp
  omega
theorem v_make {t e : TypeId} {ti : TypeInfo} {z : Value} {x y : Operand} {k1 k2 : IntKind} {n c : Int} {k : Sl → H → Prop} (hu : P.underlying t = some (.slice e)) (hi : P.info? e = some ti) (hz : ti.zero = some z) (hsz : z.cells.size = ti.size)
    (hx : ev ρ x = .int k1 n) (hy : ev ρ y = .int k2 c) (hm : mMake e ti.bytes z.cells n c k h) (nx : ∀ s h', k s h' → next (put ρ d s.val) L h') : aOp P ⟨d, .makeSlice t x y, ty, ps, af, gd⟩ ρ L h next C := fun ap => by
  obtain ⟨h0, h1, h2, h3, hk⟩ := hm
  show awp P (do pure (.value (← Instr.makeSlice t (ev ρ x) (ev ρ y))) : Sem Next) _ _ _ _
  rw [hx, hy]
  refine (awp_bind _ _ _ _).2 ?_
  unfold Instr.makeSlice
  refine AV.use (AV.underlying hu) ?_
  simp only []
  refine AV.use (a := n) (AV.pure n) (AV.use (a := c) (AV.pure c) (AV.use (AV.typeInfo hi) ?_))
  rw [wrap_id h0 (by omega), wrap_id (by omega) h2]
  have hb : (ti.bytes : Int) * n ≤ (ti.bytes : Int) * c := Int.mul_le_mul_of_nonneg_left h1 (by omega)
  rw [if_neg (by simp only [Bool.or_eq_true, decide_eq_true_eq, not_or]; omega)]
  refine (awp_bind _ _ _ _).2 (room_av fun fl => ?_)
  refine AV.use (AV.sizeOf hi) ?_
  have fin : ∀ (zs : Array Value), (Array.range (c.toNat * ti.size)).map (fun i => zs[i % zs.size]!) = Builtin.zeroCells z.cells c.toNat → awp P (do
      let a ← newRow e ((Array.range (c.toNat * ti.size)).map (fun i => zs[i % zs.size]!))
      pure (Value.slice (some a) n.toNat c.toNat)) (un L h) fl (fun a h' fl' => awp P (pure (Next.value a) : Sem Next) h' fl' (upon P ⟨d, .makeSlice t x y, ty, ps, af, gd⟩ ρ L h next C) fun v hf => C [{ v, recovered := false }] hf) fun v hf => C [{ v, recovered := false }] hf := fun zs e1 => by
    rw [e1]
    intro b hb
    obtain ⟨e1, _, e3⟩ := un_new (o := .cells (Builtin.zeroCells z.cells c.toNat) e (0, 0)) hb
    exact ⟨trivial, L, _, e1, fun ap => (e3 ap).1, .refl _ _, nx _ _ (hk b (un_none.1 hb).2)⟩
  split
  · rename_i hn
    refine AV.use (a := #[]) (AV.pure _) (fin #[] ?_)
    have : c.toNat * ti.size = 0 := hn
    unfold Builtin.zeroCells
    rw [hsz, this]
    simp
  · refine AV.use (AV.zero hi hz) ?_
    refine AV.use (AV.pure z.cells) ?_
    refine fin z.cells ?_
    unfold Builtin.zeroCells
    rw [hsz]
def u8s (l : List UInt8) : List Value := l.map fun b => Value.int .u8 b.toNat
theorem push_bytes : ∀ (l : List UInt8) (s : ByteArray), QV P (forIn (m := Sem) (u8s l).toArray s (fun (c : Value) (s : ByteArray) => (match c with
      | .int .u8 n => pure (ForInStep.yield (s.push (UInt8.ofNat n.toNat)))
      | _ => stuck "bytesToString: byte expected" : Sem (ForInStep ByteArray)))) ⟨s.data ++ l.toArray⟩ := by
  intro l
  induction l with
  | nil => intro s; simp [u8s]; exact QV.pure s
  | cons b r ih =>
    intro s
    have e : (u8s (b :: r)).toArray.toList = Value.int .u8 b.toNat :: u8s r := rfl
    rw [← Array.forIn_toList, e, List.forIn_cons]
    refine QV.bind (QV.pure _) ?_
    have := ih (s.push (UInt8.ofNat (b.toNat : Int).toNat))
    rw [← Array.forIn_toList] at this
    have e2 : (⟨(s.push (UInt8.ofNat (b.toNat : Int).toNat)).data ++ r.toArray⟩ : ByteArray) = ⟨s.data ++ (b :: r).toArray⟩ := by
      congr 1
      show s.data.push _ ++ r.toArray = _
      rw [Int.toNat_natCast, UInt8.ofNat_toNat]
      simp
    rw [e2] at this
    exact this
theorem v_text {src dst e : TypeId} {x : Operand} {s : Sl} {k : ByteArray → H → Prop} (hus : P.underlying src = some (.slice e)) (hud : P.underlying dst = some .string) (hue : P.underlying e = some (.int .u8)) (hx : ev ρ x = s.val) (hm : mText s k h)
    (nx : ∀ t, k t h → next (put ρ d (.string t)) L h) : aOp P ⟨d, .convert src dst x, ty, ps, af, gd⟩ ρ L h next C := by
  obtain ⟨l, hrow, hlen, hk⟩ := hm
  refine aOp_q (K := fun v hf => v = .string ⟨l.toArray⟩ ∧ hf = un L h) (by simp only [quietOp, hud]) rfl (fun ap => ?_) (fun v hf kk => ⟨L, h, kk.2, id, .refl _ _, by rw [kk.1]; exact nx _ hk⟩)
  show qwp P (convert src dst (ev ρ x)) _ _ _
  rw [hx]
  unfold convert Sl.val
  refine (qwp_bind _ _ _).2 (QV.underlying hus _ _ _ ((qwp_bind _ _ _).2 (QV.underlying hud _ _ _ ?_)))
  simp only []
  refine (qwp_bind _ _ _).2 (QV.underlying hue _ _ _ ?_)
  simp only []
  unfold Conv.bytesToString
  cases ha : s.a with
  | none =>
    rw [ha] at hrow
    have : l = [] := List.map_eq_nil_iff.1 hrow
    subst this
    exact ⟨rfl, rfl⟩
  | some a =>
    rw [ha] at hrow
    refine (qwp_bind _ _ _).2 ?_
    have hl := hlen (by rw [ha]; rfl)
    have fin : qwp P (forIn (m := Sem) (u8s l).toArray ByteArray.empty (fun (c : Value) (s : ByteArray) => (match c with
      | .int .u8 n => pure (ForInStep.yield (s.push (UInt8.ofNat n.toNat)))
      | _ => stuck "bytesToString: byte expected" : Sem (ForInStep ByteArray))) >>= fun s => pure (Value.string s)) (un L h) (fun v hf => v = Value.string ⟨l.toArray⟩ ∧ hf = un L h) (fun v hf => C [{ v, recovered := false }] hf) := by
      refine (qwp_bind _ _ _).2 (push_bytes l _ _ _ _ ?_)
      exact ⟨by show Value.string ⟨#[] ++ l.toArray⟩ = _; rw [Array.empty_append], rfl⟩
    rcases hrow with hrow | hat
    · have : l = [] := List.map_eq_nil_iff.1 hrow
      subst this
      rw [← hl]
      exact fin
    · obtain ⟨hsp, c, e, fz, hb, hg⟩ := At_un ap hat
      show qwp P (loadCellsFrom a 0 s.len #[]) _ _ _
      rw [List.length_map, hl] at hg
      exact loadFrom_run hsp hb s.len 0 #[] (u8s l) _ hg (by rw [Array.empty_append]; exact fin)
theorem v_bytes {src dst e : TypeId} {x : Operand} {s : ByteArray} {k : Sl → H → Prop} (hus : P.underlying src = some .string) (hud : P.underlying dst = some (.slice e)) (hue : P.underlying e = some (.int .u8)) (hx : ev ρ x = .string s) (hm : mBytes e s k h)
    (nx : ∀ s' h', k s' h' → next (put ρ d s'.val) L h') : aOp P ⟨d, .convert src dst x, ty, ps, af, gd⟩ ρ L h next C := fun ap => by
  rw [show quietOp P (Op.convert src dst x) = false by simp only [quietOp, hud]]
  show awp P (do pure (.value (← convert src dst (ev ρ x))) : Sem Next) _ _ _ _
  rw [hx]
  refine (awp_bind _ _ _ _).2 ?_
  unfold convert
  refine AV.use (AV.underlying hus) (AV.use (AV.underlying hud) ?_)
  simp only []
  refine AV.use (AV.underlying hue) ?_
  simp only []
  unfold Conv.stringToBytes
  refine (awp_bind _ _ _ _).2 ?_
  intro q
  have hcap : s.size ≤ (Question.appendCap s.size 0 e).cut q := by simp only [Question.cut]; omega
  generalize (Question.appendCap s.size 0 e).cut q = cap at hcap
  intro b hb
  have e0 := un_new (o := .cells ((s.data.map fun b => Value.int .u8 b.toNat) ++ Array.replicate (cap - s.size) (.int .u8 0)) e (0, 0)) hb
  have hsz : ((s.data.map fun b : UInt8 => Value.int .u8 b.toNat) ++ Array.replicate (cap - s.size) (Value.int .u8 0)).size = s.size + (cap - s.size) := by rw [Array.size_append, Array.size_map, Array.size_replicate]; rfl
  refine ⟨_, upd_same _ _ _, ?_⟩
  show awp P _ _ _ _ _
  refine ⟨_, upd_same _ _ _, rfl, Nat.one_ne_zero, ?_⟩
  rw [upd_upd]
  obtain ⟨e1, _, e3⟩ := un_new (o := .cells ((s.data.map fun b => Value.int .u8 b.toNat) ++ Array.replicate (cap - s.size) (.int .u8 0)) e (s.size + (cap - s.size), s.size + (cap - s.size) + 1)) hb
  refine ⟨trivial, L, _, ?_, fun ap => (e3 ap).1, .refl _ _, nx _ _ (hm b cap (un_none.1 hb).2 hcap)⟩
  rw [← e1]
  congr 1
  simp only [freezeIn, hsz, beq_self_eq_true, if_true]
end
def MapAt (h : H) (r : Option Nat) (es : Array MapEntry) (cl : Nat) : Prop := match r with
  | none => es = #[] ∧ cl = 0
  | some b => h b = some (.map es cl)
def findR (eq : Value → Value → Option Bool) (key : Value) : List MapEntry → Nat → Option (Nat × Value)
  | [], _ => none
  | e :: r, i => match eq key e.key with
    | some true => some (i, e.val)
    | _ => findR eq key r (i + 1)
def Keys (eq : Value → Value → Option Bool) (key : Value) (es : Array MapEntry) : Prop := ∀ e ∈ es.toList, ∃ b, eq key e.key = some b
def mMakeMap (k : Option Nat → H → Prop) : H → Prop := fun h => ∀ b, h b = none → k (some b) (upd h b (.map #[] 0))
def mLookup {X : Type} (eq : Value → Value → Option Bool) (vc : X → Value) (z : X) (m : Option Nat) (key : Value) (k : X × Bool → H → Prop) : H → Prop := fun h =>
  ∃ es cl, MapAt h m es cl ∧ Keys eq key es ∧ match findR eq key es.toList 0 with
    | none => k (z, false) h
    | some (_, v) => ∃ x, v = vc x ∧ k (x, true) h
def mMapSet (eq : Value → Value → Option Bool) (m : Option Nat) (key val : Value) (k : H → Prop) : H → Prop := fun h =>
  ∃ b es cl, m = some b ∧ h b = some (.map es cl) ∧ Keys eq key es ∧ match findR eq key es.toList 0 with
    | none => k (upd h b (.map (es.push { key, val, born := cl }) (cl + 1)))
    | some (i, _) => (es[i]?).map (·.key) = some key ∧ k (upd h b (.map (es.modify i fun e => { e with key, val := val }) cl))
def mMapDel (eq : Value → Value → Option Bool) (m : Option Nat) (key : Value) (k : H → Prop) : H → Prop := fun h => match m with
  | none => k h
  | some b => ∃ es cl, h b = some (.map es cl) ∧ Keys eq key es ∧ match findR eq key es.toList 0 with
    | none => k h
    | some (i, _) => k (upd h b (.map (es.eraseIdxIfInBounds i) cl))
def mMapLen (m : Option Nat) (k : Int → H → Prop) : H → Prop := fun h => ∃ es cl, MapAt h m es cl ∧ es.size ≤ 9223372036854775807 ∧ k (es.size : Nat) h
def isCut3 (s : Sl) (lo hi mx : Int) (size : Nat) (x : Sl) : Prop := 0 ≤ lo ∧ lo ≤ hi ∧ hi ≤ mx ∧ mx ≤ s.cap ∧ x = ⟨if mx.toNat = lo.toNat then s.a else s.a.map (·.add (lo.toNat * size)), hi.toNat - lo.toNat, mx.toNat - lo.toNat⟩
def mCut3 (s : Sl) (lo hi mx : Int) (size : Nat) (k : Sl → H → Prop) : H → Prop := fun h => ∃ x, isCut3 s lo hi mx size x ∧ k x h
def mClear (zero : Array Value) (s : Sl) (k : H → Prop) : H → Prop := fun h => (s.a = none ∨ s.len = 0) ∧ k h ∨ s.len ≠ 0 ∧ ∃ a, s.a = some a ∧ mStore a (Builtin.zeroCells zero s.len).toList k h
def mRange (m : Option Nat) (k : Addr → H → Prop) : H → Prop := fun h => ∃ es cl, MapAt h m es cl ∧ ∀ b, h b = none → k ⟨b, 0, none⟩ (upd h b (.mapIter m cl #[] cl))
def mNext (a : Addr) (k : Bool × List Value → H → Prop) : H → Prop := fun h => a.off = 0 ∧ ∃ m since seen last, h a.block = some (.mapIter m since seen last) ∧ match m with
  | none => k (false, []) h
  | some b => ∃ es cl, h b = some (.map es cl) ∧ ((!seen.isEmpty && !es.isEmpty && es.all (·.born ≥ last)) = false) ∧
    (((es.filter fun e => !seen.contains e.born).filter (·.born < since)).isEmpty = true → k (false, []) h) ∧
    ∀ e ∈ es.toList, seen.contains e.born = false → k (true, [e.key, e.val]) (upd h a.block (.mapIter (some b) since (seen.push e.born) cl))
def mEntry {X Y : Type} (kc : X → Value) (vc : Y → Value) (a : Addr) (k : X × Y → H → Prop) : H → Prop := fun h => a.off = 0 ∧ ∃ m since seen stamp es cl e x y, h a.block = some (.mapIter (some m) since seen cl) ∧ seen.back? = some stamp ∧
  h m = some (.map es cl) ∧ es.find? (·.born == stamp) = some e ∧ e.key = kc x ∧ e.val = vc y ∧ k (x, y) h
section
variable {P : Program} {C : PPost} {next : Post} {ρ : Env} {L h : H} {v : Value}
variable {d : Option Tmp} {ty : TypeId} {ps : String} {af : Array Edge} {gd : Option (Nat × Bool)}
theorem q_use {α β : Type} {s : Sem α} {a : α} (x : QV P s a) {f : α → Sem β} {hf : H} {K : β → H → Prop} {E : Value → H → Prop} (k : qwp P (f a) hf K E) : qwp P (s >>= f) hf K E := (qwp_bind _ _ _).2 (x _ _ _ k)
theorem a_use {α β : Type} {s : Sem α} {a : α} (x : QV P s a) {f : α → Sem β} {hf : H} {K : β → H → Bool → Prop} {E : Value → H → Prop} (k : awp P (f a) hf false K E) : awp P (s >>= f) hf false K E :=
  (awp_bind _ _ _ _).2 (awp_mono (fun a' h' fl q => by obtain ⟨rfl, rfl, rfl⟩ := q; exact k) (fun _ _ q => q) _ _ _ (qwp_awp _ _ (x hf (fun a' h' => a' = a ∧ h' = hf) E ⟨rfl, rfl⟩)))
theorem a_get {α : Type} {b : Nat} {o : Obj} {f : Obj → Sem α} {hf : H} {fl : Bool} {K : α → H → Bool → Prop} {E : Value → H → Prop} (hb : hf b = some o) (hc : isCells o = false) (k : awp P (f o) hf fl K E) : awp P (getObj b >>= f) hf fl K E := (awp_bind _ _ _ _).2 ⟨_, hb, hc, k⟩
theorem v_makeMap {t : TypeId} {k : Option Nat → H → Prop} (hm : mMakeMap k h) (nx : ∀ r h', k r h' → next (put ρ d (.map r)) L h') : aOp P ⟨d, .makeMap t none, ty, ps, af, gd⟩ ρ L h next C := by
  refine aOp_q (K := fun v hf => ∃ b, un L h b = none ∧ v = .map (some b) ∧ hf = upd (un L h) b (.map #[] 0)) (s := Instr.makeMap t none) rfl rfl (fun _ => ?_) (fun v hf ⟨b, hb, e, eh⟩ => ?_)
  · exact fun b hb => ⟨b, hb, rfl, rfl⟩
  · obtain ⟨e1, _, e3⟩ := un_new (o := .map #[] 0) hb
    exact ⟨L, _, eh.trans e1, fun ap => (e3 ap).1, .refl _ _, by rw [e]; exact nx _ _ (hm b (un_none.1 hb).2)⟩
theorem v_lookup {X : Type} {eq : Value → Value → Option Bool} {vc : X → Value} {z : X} {m : Option Nat} {kv : Value} {k : X × Bool → H → Prop} {t kt et : TypeId} {x key : Operand} {ok : Bool} (hu : P.underlying t = some (.map kt et)) (hx : ev ρ x = .map m) (hk : ev ρ key = kv)
    (FK : ∀ es : Array MapEntry, Keys eq kv es → QV P (Instr.findKey kt kv es.toList) (findR eq kv es.toList 0)) (CK : ∀ em, QV P (Instr.checkKey em 10000 kt kv) ()) (hz : QV P (zeroValue et) (vc z)) (hm : mLookup eq vc z m kv k h)
    (nx : ∀ r, k r h → next (put ρ d (if ok then .tuple #[vc r.1, .bool r.2] else vc r.1)) L h) : aOp P ⟨d, .lookup t x key ok, ty, ps, af, gd⟩ ρ L h next C := by
  obtain ⟨es, cl, hat, hks, hr⟩ := hm
  refine aOp_q (K := fun v hf => (∃ r, k r h ∧ v = if ok then .tuple #[vc r.1, .bool r.2] else vc r.1) ∧ hf = un L h) (s := Instr.lookup t (ev ρ x) (ev ρ key) ok) rfl rfl (fun ap => ?_) (fun v hf ⟨⟨r, kr, e⟩, eh⟩ => ⟨L, h, eh, id, .refl _ _, by rw [e]; exact nx r kr⟩)
  rw [hx, hk]
  unfold Instr.lookup
  refine q_use (QV.underlying hu) ?_
  simp only []
  have tl : ∀ r : X × Bool, k r h → qwp P (pure (if ok = true then Value.tuple #[vc r.1, .bool r.2] else vc r.1) : Sem Value) (un L h) (fun v hf => (∃ r, k r h ∧ v = if ok then .tuple #[vc r.1, .bool r.2] else vc r.1) ∧ hf = un L h) (fun v hf => C [{ v, recovered := false }] hf) := fun r kr => ⟨⟨r, kr, rfl⟩, rfl⟩
  have pre : (m = none ∧ es = #[]) ∨ ∃ b, m = some b ∧ h b = some (.map es cl) := by
    cases m with
    | none => exact .inl ⟨rfl, hat.1⟩
    | some b => exact .inr ⟨b, rfl, hat⟩
  clear hat
  rcases pre with ⟨rfl, rfl⟩ | ⟨b, rfl, hb⟩
  · skip
    refine q_use (QV.pure _) ?_
    refine q_use (CK _) (q_use (FK _ hks) ?_)
    split at hr
    · rename_i e
      rw [e]
      refine q_use hz (q_use (QV.pure _) (tl (z, false) hr))
    · rename_i i w e
      obtain ⟨y, rfl, ky⟩ := hr
      rw [e]
      refine q_use (QV.pure _) (tl (y, true) ky)
  · refine (qwp_bind _ _ _).2 ⟨_, un_at ap hb, rfl, ?_⟩
    refine q_use (QV.pure _) ?_
    refine q_use (CK _) (q_use (FK _ hks) ?_)
    split at hr
    · rename_i e
      rw [e]
      refine q_use hz (q_use (QV.pure _) (tl (z, false) hr))
    · rename_i i w e
      obtain ⟨y, rfl, ky⟩ := hr
      rw [e]
      refine q_use (QV.pure _) (tl (y, true) ky)
theorem v_mapSet {eq : Value → Value → Option Bool} {m : Option Nat} {kv w : Value} {k : H → Prop} {t kt et : TypeId} {x key val : Operand} (hu : P.underlying t = some (.map kt et)) (hx : ev ρ x = .map m) (hk : ev ρ key = kv) (hv : ev ρ val = w)
    (FK : ∀ es : Array MapEntry, Keys eq kv es → QV P (Instr.findKey kt kv es.toList) (findR eq kv es.toList 0)) (CK : ∀ em, QV P (Instr.checkKey em 10000 kt kv) ()) (hs : Instr.sameBits 10000 kv kv = true) (hm : mMapSet eq m kv w k h)
    (nx : ∀ h', k h' → next (put ρ d undef) L h') : aOp P ⟨d, .mapUpdate t x key val, ty, ps, af, gd⟩ ρ L h next C := fun ap => by
  obtain ⟨b, es, cl, rfl, hb, hks, hr⟩ := hm
  show awp P (do Instr.mapUpdate t (ev ρ x) (ev ρ key) (ev ρ val); pure Next.skip) _ _ _ _
  rw [hx, hk, hv]
  refine (awp_bind _ _ _ _).2 ?_
  unfold Instr.mapUpdate
  refine a_use (QV.underlying hu) ?_
  simp only []
  refine (awp_bind _ _ _ _).2 ⟨_, un_at ap hb, rfl, ?_⟩
  refine a_use (CK _) (a_use (FK _ hks) ?_)
  have fin : ∀ o, k (upd h b o) → awp P (setObj b o) (un L h) false (fun _ h' fl' => awp P (pure Next.skip : Sem Next) h' fl' (upon P ⟨d, .mapUpdate t x key val, ty, ps, af, gd⟩ ρ L h next C) fun v hf => C [{ v, recovered := false }] hf) fun v hf => C [{ v, recovered := false }] hf := fun o ko => by
    obtain ⟨e1, e2⟩ := un_put (o' := o) ap hb
    refine ⟨_, un_at ap hb, rfl, ?_⟩
    rw [e1]
    exact ⟨trivial, L, _, rfl, fun _ => e2, .refl _ _, nx _ ko⟩
  split at hr
  · rename_i e
    rw [e]
    exact fin _ hr
  · rename_i i u e
    rw [e]
    obtain ⟨ek, hr⟩ := hr
    simp only [ek, Option.getD_some, Instr.keyThatStays, hs, if_true]
    refine a_use (QV.pure _) ?_
    exact fin _ hr
theorem exec_delete {x y : Operand} {ts : List TypeId} {vx vy : Value} (hx : ev ρ x = vx) (hy : ev ρ y = vy) : execOp (ev ρ) ⟨d, .call ⟨.builtin .delete, [x, y].toArray, ts.toArray⟩, ty, ps, af, gd⟩ = (do pure (.value (← Builtin.delete_ ts.toArray ty #[vx, vy])) : Sem Next) := by
  subst hx; subst hy
  have e : ([x, y].toArray.map (ev ρ)) = #[ev ρ x, ev ρ y] := List.map_toArray ..
  rw [← e]
  rfl
theorem v_mapDel {eq : Value → Value → Option Bool} {m : Option Nat} {kv : Value} {k : H → Prop} {t t' kt et : TypeId} {x key : Operand} (hu : P.underlying t = some (.map kt et)) (hx : ev ρ x = .map m) (hk : ev ρ key = kv)
    (FK : ∀ es : Array MapEntry, Keys eq kv es → QV P (Instr.findKey kt kv es.toList) (findR eq kv es.toList 0)) (CK : ∀ em, QV P (Instr.checkKey em 10000 kt kv) ()) (hm : mMapDel eq m kv k h)
    (nx : ∀ h', k h' → next (put ρ d (.tuple #[])) L h') : aOp P ⟨d, .call ⟨.builtin .delete, [x, key].toArray, [t, t'].toArray⟩, ty, ps, af, gd⟩ ρ L h next C := fun ap => by
  show awp P (execOp (ev ρ) ⟨d, .call ⟨.builtin .delete, [x, key].toArray, [t, t'].toArray⟩, ty, ps, af, gd⟩) _ _ _ _
  rw [exec_delete hx hk]
  refine (awp_bind _ _ _ _).2 ?_
  unfold Builtin.delete_
  simp only [List.getElem?_toArray, List.getElem?_cons_zero, List.getElem?_cons_succ]
  refine a_use (QV.underlying hu) ?_
  simp only []
  cases m with
  | none => exact a_use (CK _) (a_use (QV.pure _) ⟨trivial, L, h, rfl, id, .refl _ _, nx _ hm⟩)
  | some b =>
    obtain ⟨es, cl, hb, hks, hr⟩ := hm
    refine (awp_bind _ _ _ _).2 ⟨_, un_at ap hb, rfl, ?_⟩
    refine a_use (CK _) (a_use (FK _ hks) ?_)
    split at hr
    · rename_i e
      rw [e]
      obtain ⟨e1, e2⟩ := un_put (o' := .map es cl) ap hb
      refine (awp_bind _ _ _ _).2 ⟨_, un_at ap hb, rfl, ?_⟩
      rw [e1, upd_self hb]
      exact ⟨trivial, L, h, rfl, id, .refl _ _, nx _ hr⟩
    · rename_i i u e
      rw [e]
      obtain ⟨e1, e2⟩ := un_put (o' := .map (es.eraseIdxIfInBounds i) cl) ap hb
      refine (awp_bind _ _ _ _).2 ⟨_, un_at ap hb, rfl, ?_⟩
      rw [e1]
      exact ⟨trivial, L, _, rfl, fun _ => e2, .refl _ _, nx _ hr⟩
theorem v_mapLen {m : Option Nat} {k : Int → H → Prop} {t kt et : TypeId} {x : Operand} (hu : P.underlying t = some (.map kt et)) (hx : ev ρ x = .map m) (hm : mMapLen m k h)
    (nx : ∀ n, k n h → next (put ρ d (.int .i64 n)) L h) : aOp P ⟨d, .call ⟨.builtin .len, [x].toArray, [t].toArray⟩, ty, ps, af, gd⟩ ρ L h next C := by
  obtain ⟨es, cl, hat, hsz, hk⟩ := hm
  refine aOp_q (K := fun v hf => v = .int .i64 (es.size : Nat) ∧ hf = un L h) (s := Builtin.len_ #[t] ty #[.map m]) rfl ?_ (fun ap => ?_) (fun v hf ⟨e, eh⟩ => ⟨L, h, eh, id, .refl _ _, by rw [e]; exact nx _ hk⟩)
  · have e : ([x].toArray.map (ev ρ)) = #[ev ρ x] := List.map_toArray ..
    rw [← hx, ← e]; rfl
  · unfold Builtin.len_
    simp only [List.getElem?_toArray, List.getElem?_cons_zero]
    refine q_use (QV.underlying hu) ?_
    cases m with
    | none => obtain ⟨rfl, _⟩ := hat; exact ⟨rfl, rfl⟩
    | some b =>
      have hat : h b = some (.map es cl) := hat
      exact (qwp_bind _ _ _).2 ⟨_, un_at ap hat, rfl, rfl, rfl⟩
theorem v_range {m : Option Nat} {k : Addr → H → Prop} {t kt et : TypeId} {x : Operand} (hu : P.underlying t = some (.map kt et)) (hx : ev ρ x = .map m) (hm : mRange m k h)
    (nx : ∀ a h', k a h' → next (put ρ d (.pointer (some a))) L h') : aOp P ⟨d, .range t x, ty, ps, af, gd⟩ ρ L h next C := fun ap => by
  obtain ⟨es, cl, hat, hk⟩ := hm
  show awp P (do pure (.value (← Instr.range t (ev ρ x))) : Sem Next) _ _ _ _
  rw [hx]
  refine (awp_bind _ _ _ _).2 ?_
  unfold Instr.range
  refine a_use (QV.underlying hu) ?_
  have fin : awp P (do pure (.pointer (some ⟨← newObj (.mapIter m cl #[] cl), 0, none⟩)) : Sem Value) (un L h) false (fun v h' fl' => awp P (pure (Next.value v) : Sem Next) h' fl' (upon P ⟨d, .range t x, ty, ps, af, gd⟩ ρ L h next C) fun v hf => C [{ v, recovered := false }] hf) fun v hf => C [{ v, recovered := false }] hf := fun b hb => by
    obtain ⟨e1, _, e3⟩ := un_new (o := .mapIter m cl #[] cl) hb
    exact ⟨trivial, L, _, e1, fun ap => (e3 ap).1, .refl _ _, nx _ _ (hk b (un_none.1 hb).2)⟩
  cases m with
  | none => obtain ⟨rfl, rfl⟩ := hat; exact a_use (QV.pure _) fin
  | some b =>
    have hat : h b = some (.map es cl) := hat
    refine (awp_bind _ _ _ _).2 ⟨_, un_at ap hat, rfl, ?_⟩
    exact a_use (QV.pure _) fin
theorem v_entry {X Y : Type} {kc : X → Value} {vc : Y → Value} {a : Addr} {k : X × Y → H → Prop} {x : Operand} (hx : ev ρ x = .pointer (some a)) (hm : mEntry kc vc a k h)
    (nx : ∀ r, k r h → next (put ρ d (.tuple #[kc r.1, vc r.2])) L h) : aOp P ⟨d, .entry x, ty, ps, af, gd⟩ ρ L h next C := fun ap => by
  obtain ⟨ho, m, since, seen, stamp, es, cl, e, y, z, hi, hs, hb, hf, ek, ev_, hk⟩ := hm
  show awp P (do pure (.value (← Instr.entry (ev ρ x))) : Sem Next) _ _ _ _
  rw [hx]
  obtain ⟨r, off, sp⟩ := a
  have ho : off = 0 := ho
  subst ho
  refine (awp_bind _ _ _ _).2 ?_
  unfold Instr.entry
  refine a_get (un_at ap hi) rfl ?_
  dsimp only
  rw [hs]
  dsimp only
  refine a_get (un_at ap hb) rfl ?_
  dsimp only
  rw [if_neg (by simp)]
  refine a_use (QV.pure _) ?_
  rw [hf]
  dsimp only
  rw [ek, ev_]
  exact ⟨trivial, L, h, rfl, id, .refl _ _, nx _ hk⟩
theorem v_next {a : Addr} {k : Bool × List Value → H → Prop} {x : Operand} (hx : ev ρ x = .pointer (some a)) (hm : mNext a k h)
    (nx : ∀ r h', k r h' → next (put ρ d (.tuple ⟨.bool r.1 :: r.2⟩)) L h') : aOp P ⟨d, .next x false, ty, ps, af, gd⟩ ρ L h next C := fun ap => by
  obtain ⟨ho, m, since, seen, last, hi, hr⟩ := hm
  show awp P (do pure (.value (← Instr.next (ev ρ x) false ty)) : Sem Next) _ _ _ _
  rw [hx]
  obtain ⟨r, off, sp⟩ := a
  have ho : off = 0 := ho
  subst ho
  refine (awp_bind _ _ _ _).2 ?_
  unfold Instr.next
  refine a_get (un_at ap hi) rfl ?_
  cases m with
  | none => exact ⟨trivial, L, h, rfl, id, .refl _ _, nx (false, []) _ hr⟩
  | some b =>
    obtain ⟨es, cl, hb, hg, hov, hmore⟩ := hr
    dsimp only
    refine a_get (un_at ap hb) rfl ?_
    dsimp only
    rw [if_neg (by rw [hg]; exact Bool.false_ne_true)]
    generalize hleft : (es.filter fun e => !seen.contains e.born) = left at hov ⊢
    have mem : ∀ e ∈ left.toList, e ∈ es.toList ∧ seen.contains e.born = false := fun e he => by
      rw [← hleft] at he
      simpa using he
    have one : ∀ n, n < ((if (left.filter (·.born < since)).isEmpty then #[none] else #[]) ++ (left.filter (·.born < since) ++ left.filter (·.born ≥ since)).map some : Array (Option MapEntry)).size → awp P (match ((if (left.filter (·.born < since)).isEmpty then #[none] else #[]) ++ (left.filter (·.born < since) ++ left.filter (·.born ≥ since)).map some : Array (Option MapEntry))[n]? with
        | some (some e) => do
          setObj r (.mapIter (some b) since (seen.push e.born) cl)
          pure (.tuple #[.bool true, e.key, e.val])
        | some none => pure (.tuple #[.bool false])
        | none => stuck "Next: no such candidate" : Sem Value) (un L h) false (fun v h' fl' => awp P (pure (Next.value v) : Sem Next) h' fl' (upon P ⟨d, .next x false, ty, ps, af, gd⟩ ρ L h next C) fun v hf => C [{ v, recovered := false }] hf) fun v hf => C [{ v, recovered := false }] hf := fun n hn => by
      rw [Array.getElem?_eq_getElem hn]
      generalize hc : (((if (left.filter (·.born < since)).isEmpty then #[none] else #[]) ++ (left.filter (·.born < since) ++ left.filter (·.born ≥ since)).map some : Array (Option MapEntry))[n]) = c
      have hin : c ∈ (((if (left.filter (·.born < since)).isEmpty then #[none] else #[]) ++ (left.filter (·.born < since) ++ left.filter (·.born ≥ since)).map some : Array (Option MapEntry))) := hc ▸ Array.getElem_mem hn
      rw [Array.mem_append] at hin
      cases c with
      | none =>
        have he : (left.filter (·.born < since)).isEmpty = true := by
          rcases hin with q | q
          · split at q
            · assumption
            · simp at q
          · simp at q
        exact ⟨trivial, L, h, rfl, id, .refl _ _, nx (false, []) _ (hov he)⟩
      | some e =>
        have hl : e ∈ left.toList := by
          rcases hin with q | q
          · split at q <;> simp at q
          · simp at q
            rcases q with q | q <;> simpa using q.1
        obtain ⟨e1, e2⟩ := mem e hl
        obtain ⟨p1, p2⟩ := un_put (o' := .mapIter (some b) since (seen.push e.born) cl) ap hi
        refine (awp_bind _ _ _ _).2 ⟨_, un_at ap hi, rfl, ?_⟩
        rw [p1]
        exact ⟨trivial, L, _, rfl, fun _ => p2, .refl _ _, nx (true, [e.key, e.val]) _ (hmore e e1 e2)⟩
    refine a_use (QV.pure _) ?_
    show (if _ then _ else _)
    have pos : 0 < ((if (left.filter (·.born < since)).isEmpty then #[none] else #[]) ++ (left.filter (·.born < since) ++ left.filter (·.born ≥ since)).map some : Array (Option MapEntry)).size := by
      split
      · simp; omega
      · rename_i q
        have : (left.filter (·.born < since)).size ≠ 0 := fun z => q (by simpa [Array.isEmpty] using z)
        rw [Array.size_append, Array.size_map, Array.size_append]; omega
    generalize ((if (left.filter (·.born < since)).isEmpty then #[none] else #[]) ++ (left.filter (·.born < since) ++ left.filter (·.born ≥ since)).map some : Array (Option MapEntry)) = cands at one pos ⊢
    split
    · exact one 0 pos
    · exact fun n => one _ (Nat.mod_lt n pos)
theorem bound_qv {kd : IntKind} {i : Int} {y : Nat} {code : BoundsCode} (h0 : 0 ≤ i) (h1 : i ≤ y) : QV P (Instr.sliceBound (.int kd i) y code) i.toNat := by
  refine QV.bind (a := (kd, i)) (QV.pure _) ?_
  simp only []
  rw [if_pos ⟨h0, h1⟩]
  exact QV.pure _
theorem y_cut3 {t e : TypeId} {ti : TypeInfo} {x hi' mx' : Operand} {l : Option Operand} {s : Sl} {lo hi mx : Int} {kh km : IntKind} {s' : Sl} (hu : P.underlying t = some (.slice e)) (hti : P.info? e = some ti) (hx : ev ρ x = s.val) (hl : bnd ρ l 0 lo) (hr : ev ρ hi' = .int kh hi) (hm : ev ρ mx' = .int km mx) (hq : isCut3 s lo hi mx ti.size s') :
    YE P ⟨d, .slice t x l (some hi') (some mx'), ty, ps, af, gd⟩ ρ s'.val := by
  obtain ⟨h0, h1, h2, h3, rfl⟩ := hq
  refine YE.val rfl rfl ?_
  show QV P (Instr.sliceAt t (ev ρ x) (l.map (ev ρ)) (some (ev ρ hi')) (some (ev ρ mx'))) _
  rw [hx, hr, hm]
  unfold Instr.sliceAt
  refine QV.bind (QV.underlying hu) ?_
  simp only []
  unfold Instr.slice Sl.val
  refine QV.bind (QV.underlying hu) ?_
  simp only []
  refine QV.bind (a := (lo.toNat, hi.toNat, mx.toNat)) ?_ (QV.bind (QV.sizeOf hti) (QV.pure _))
  unfold Instr.sliceBounds
  refine QV.bind (a := mx.toNat) (bound_qv (by omega) h3) (QV.bind (a := hi.toNat) (bound_qv (by omega) (by omega)) ?_)
  cases l with
  | none =>
    have hl : lo = 0 := hl
    subst hl
    exact QV.bind (a := 0) (QV.pure _) (QV.pure _)
  | some y =>
    obtain ⟨kl, hl⟩ := hl
    simp only [Option.map_some, hl]
    exact QV.bind (a := lo.toNat) (bound_qv h0 (by omega)) (QV.pure _)
theorem exec_clear {x : Operand} {ts : List TypeId} {vx : Value} (hx : ev ρ x = vx) : execOp (ev ρ) ⟨d, .call ⟨.builtin .clear, [x].toArray, ts.toArray⟩, ty, ps, af, gd⟩ = (do pure (.value (← Builtin.clear_ ts.toArray ty #[vx])) : Sem Next) := by
  subst hx
  have e : ([x].toArray.map (ev ρ)) = #[ev ρ x] := List.map_toArray ..
  rw [← e]
  rfl
theorem zero_plain {z : Array Value} (hz : z.toList.all plainVal = true) (n : Nat) : (Builtin.zeroCells z n).toList.all plainVal = true := by
  rw [List.all_eq_true]
  intro v hv
  unfold Builtin.zeroCells at hv
  rw [Array.mem_toList_iff, Array.mem_map] at hv
  obtain ⟨i, hi, rfl⟩ := hv
  rw [Array.mem_range] at hi
  have hpos : 0 < z.size := by
    rcases Nat.eq_zero_or_pos z.size with q | q
    · rw [q, Nat.mul_zero] at hi; omega
    · exact q
  have hlt : i % z.size < z.size := Nat.mod_lt _ hpos
  rw [getElem!_pos z _ hlt]
  exact List.all_eq_true.1 hz _ (by simp)
theorem v_clear {s : Sl} {k : H → Prop} {t e : TypeId} {ti : TypeInfo} {z : Value} {x : Operand} (hu : P.underlying t = some (.slice e)) (hi : P.info? e = some ti) (hz : ti.zero = some z) (hp : z.cells.toList.all plainVal = true) (hx : ev ρ x = s.val) (hm : mClear z.cells s k h)
    (nx : ∀ h', k h' → next (put ρ d (.tuple #[])) L h') : aOp P ⟨d, .call ⟨.builtin .clear, [x].toArray, [t].toArray⟩, ty, ps, af, gd⟩ ρ L h next C := fun ap => by
  show awp P (execOp (ev ρ) ⟨d, .call ⟨.builtin .clear, [x].toArray, [t].toArray⟩, ty, ps, af, gd⟩) _ _ _ _
  rw [exec_clear hx]
  refine (awp_bind _ _ _ _).2 ?_
  unfold Builtin.clear_
  simp only [List.getElem?_toArray, List.getElem?_cons_zero]
  refine a_use (QV.underlying hu) ?_
  obtain ⟨sa, len, cap⟩ := s
  rcases hm with ⟨q, kk⟩ | ⟨hne, a, ha, hm⟩
  · have fin : awp P (do pure (); pure (.tuple #[]) : Sem Value) (un L h) false (fun v h' fl' => awp P (pure (Next.value v) : Sem Next) h' fl' (upon P ⟨d, .call ⟨.builtin .clear, [x].toArray, [t].toArray⟩, ty, ps, af, gd⟩ ρ L h next C) fun v hf => C [{ v, recovered := false }] hf) fun v hf => C [{ v, recovered := false }] hf := ⟨trivial, L, h, rfl, id, .refl _ _, nx _ kk⟩
    unfold Sl.val
    rcases q with q | q
    · have q : sa = none := q
      subst q; exact fin
    · have q : len = 0 := q
      subst q
      cases sa <;> exact fin
  · have ha : sa = some a := ha
    subst ha
    obtain ⟨n, rfl⟩ : ∃ n, len = n + 1 := ⟨len - 1, by have : len ≠ 0 := hne; omega⟩
    obtain ⟨hsp, c, e', fz, hb, hl, hfz, kk⟩ := hm
    obtain ⟨e1, e2⟩ := un_put (o' := .cells (lay c a.off (Builtin.zeroCells z.cells (n + 1)).toList) e' fz) ap hb
    refine a_use (QV.zero hi hz) ((awp_bind _ _ _ _).2 ?_)
    refine storeCells_run hsp _ 0 _ _ _ _ (zero_plain hp _) (un_at ap hb) (by rw [Nat.add_zero]; exact hl) (fun j hj => by rw [Nat.add_zero]; exact hfz j hj) ?_
    rw [Nat.add_zero, e1]
    exact ⟨trivial, L, _, rfl, fun _ => e2, .refl _ _, nx _ kk⟩
end
section
variable {P : Program} {C : PPost} {next : Post} {ρ : Env} {L h : H} {v : Value}
variable {d : Option Tmp} {ty : TypeId} {ps : String} {af : Array Edge} {gd : Option (Nat × Bool)}
theorem y_buildA {t e : TypeId} {n : Nat} {ti te : TypeInfo} {l : List (Nat × Operand)} {vl : List (Nat × Value)} {z : Value} {cs : Array Value} (hu : P.underlying t = some (.array n e)) (hi : P.info? t = some ti) (hz : ti.zero = some z) (he : P.info? e = some te)
    (hv : (l.map fun p => (p.1, ev ρ p.2)) = vl) (hf : Instr.fill (fun i => some (i * te.size, te.size)) z.cells vl = some cs) : YE P ⟨d, .build t l.toArray, ty, ps, af, gd⟩ ρ (.agg cs) := by
  refine YE.val rfl rfl ?_
  show QV P (Instr.build t (l.toArray.map fun p => (p.1, ev ρ p.2))) _
  rw [List.map_toArray, hv]
  unfold Instr.build
  refine QV.bind (QV.zero hi hz) (QV.bind (QV.underlying hu) ?_)
  simp only []
  refine QV.bind (QV.sizeOf he) ?_
  simp only [hf]
  exact QV.pure _
def elems (e : TypeId) (sz : Nat) (l : List Nat) : List Field := l.map fun i => ⟨"", e, i * sz, false, "", "", 0⟩
theorem efs_runA {n k sz : Nat} {e : TypeId} (hk : n ≤ k) {xs ys : Array Value} : ∀ {l : List Nat} {b : Bool}, EFs P n (elems e sz l) xs ys b → QV P (do
      for i in l do
        if !(← Op.equalIn k e (← part e xs (i * sz)) (← part e ys (i * sz))) then return false
      pure true : Sem Bool) b := by
  intro l
  induction l with
  | nil => intro b h; subst h; exact QV.pure _
  | cons f r ih =>
    intro b h
    obtain ⟨hn, x, y, b1, b2, px, py, ee, h, rfl⟩ := h
    have q1 := ih h
    cases b1 with
    | true =>
      rw [Bool.true_and]
      simp only [List.forIn_cons, bind_assoc] at q1 ⊢
      refine QV.bind px (QV.bind py (QV.bind (ee k hk) ?_))
      simpa using q1
    | false =>
      rw [Bool.false_and]
      simp only [List.forIn_cons, bind_assoc]
      refine QV.bind px (QV.bind py (QV.bind (ee k hk) ?_))
      exact QV.pure _
theorem eq_array {t e : TypeId} {len : Nat} {ti : TypeInfo} {xs ys : Array Value} {n : Nat} {b : Bool} (hu : P.underlying t = some (.array len e)) (hi : P.info? e = some ti) (h : EFs P n (elems e ti.size (List.range len)) xs ys b) : EQ P (n + 1) t (.agg xs) (.agg ys) b := fun m hm => by
  obtain ⟨m, rfl⟩ : ∃ q, m = q + 1 := ⟨m - 1, by omega⟩
  unfold Op.equalIn
  refine QV.bind (QV.underlying hu) ?_
  simp only []
  refine QV.bind (QV.sizeOf hi) ?_
  have := efs_runA (k := m) (by omega) h
  rw [List.range_eq_range'] at this
  simpa using this
def mCopy (sz : Nat) (dst src : Sl) (k : Int → H → Prop) : H → Prop := fun h => ∃ l, Row h src.a l ∧ (src.a.isSome = true → l.length = Nat.min src.len dst.len * sz) ∧ l.all plainVal = true ∧ match dst.a with
  | none => k (Nat.min src.len dst.len) h
  | some a => l = [] ∧ k (Nat.min src.len dst.len) h ∨ mStore a l (k (Nat.min src.len dst.len)) h
theorem exec_copy {x y : Operand} {ts : List TypeId} {vx vy : Value} (hx : ev ρ x = vx) (hy : ev ρ y = vy) : execOp (ev ρ) ⟨d, .call ⟨.builtin .copy, [x, y].toArray, ts.toArray⟩, ty, ps, af, gd⟩ = (do pure (.value (← Builtin.copy_ ts.toArray ty #[vx, vy])) : Sem Next) := by
  subst hx; subst hy
  have e : ([x, y].toArray.map (ev ρ)) = #[ev ρ x, ev ρ y] := List.map_toArray ..
  rw [← e]
  rfl
theorem v_copy {s r : Sl} {k : Int → H → Prop} {t t' e : TypeId} {ti : TypeInfo} {x y : Operand} (hu : P.underlying t = some (.slice e)) (hi : P.info? e = some ti) (hx : ev ρ x = s.val) (hy : ev ρ y = r.val) (hm : mCopy ti.size s r k h)
    (nx : ∀ n h', k n h' → next (put ρ d (.int .i64 n)) L h') : aOp P ⟨d, .call ⟨.builtin .copy, [x, y].toArray, [t, t'].toArray⟩, ty, ps, af, gd⟩ ρ L h next C := fun ap => by
  show awp P (execOp (ev ρ) ⟨d, .call ⟨.builtin .copy, [x, y].toArray, [t, t'].toArray⟩, ty, ps, af, gd⟩) _ _ _ _
  rw [exec_copy hx hy]
  refine (awp_bind _ _ _ _).2 ?_
  unfold Builtin.copy_
  simp only [List.getElem?_toArray, List.getElem?_cons_zero, List.getElem?_cons_succ]
  refine a_use (QV.underlying hu) ?_
  obtain ⟨sa, len, cap⟩ := s
  obtain ⟨ra, rlen, rcap⟩ := r
  obtain ⟨l, hr, hl, hp, hm⟩ := hm
  unfold Sl.val
  refine AV.use (a := rlen) (AV.pure _) ?_
  refine AV.use (AV.sizeOf hi) ?_
  refine RV.use (first_rv (Row_un ap hr) hl) ?_
  have fin : k (Nat.min rlen len) h → awp P (pure (goInt (Nat.min rlen len)) : Sem Value) (un L h) false (fun v h' fl' => awp P (pure (Next.value v) : Sem Next) h' fl' (upon P ⟨d, .call ⟨.builtin .copy, [x, y].toArray, [t, t'].toArray⟩, ty, ps, af, gd⟩ ρ L h next C) fun v hf => C [{ v, recovered := false }] hf) fun v hf => C [{ v, recovered := false }] hf := fun kk => ⟨trivial, L, h, rfl, id, .refl _ _, nx _ _ kk⟩
  cases sa with
  | none => exact (awp_bind _ _ _ _).2 (fin hm)
  | some a =>
    rcases hm with ⟨rfl, kk⟩ | hm
    · exact (awp_bind _ _ _ _).2 (fin kk)
    · obtain ⟨hsp, c, e', fz, hb, hlt, hfz, kk⟩ := hm
      obtain ⟨e1, e2⟩ := un_put (o' := .cells (lay c a.off l) e' fz) ap hb
      refine (awp_bind _ _ _ _).2 ?_
      refine storeCells_run hsp _ 0 _ _ _ _ hp (un_at ap hb) (by rw [Nat.add_zero]; exact hlt) (fun j hj => by rw [Nat.add_zero]; exact hfz j hj) ?_
      rw [Nat.add_zero, e1]
      exact ⟨trivial, L, _, rfl, fun _ => e2, .refl _ _, nx _ _ kk⟩
end
def isPtr : TypeDesc → Bool | .pointer _ => true | _ => false
def methOf (P : Program) (t : TypeId) (name : String) : Option FuncId := match P.info? t, P.underlying t with
  | some ti, some td => match ti.methods.find? (·.name == name) with
    | some m => match m.path.toList, m.func with
      | [], some (f, pr) => bif pr == isPtr td then some f else none
      | _, _ => none
    | none => none
  | _, _ => none
theorem meth_q {P : Program} {t : TypeId} {name : String} {f : FuncId} {v : Value} (hme : methOf P t name = some f) (n : Nat) : QV P (method (n + 1) t v name) (f, v) := by
  unfold methOf at hme
  cases hti : P.info? t with
  | none => rw [hti] at hme; cases hme
  | some ti =>
    cases hu : P.underlying t with
    | none => rw [hti, hu] at hme; cases hme
    | some td =>
      rw [hti, hu] at hme
      simp only at hme
      cases hfind : ti.methods.find? (·.name == name) with
      | none => rw [hfind] at hme; cases hme
      | some m =>
        rw [hfind] at hme
        simp only at hme
        cases hp : m.path.toList with
        | cons => rw [hp] at hme; cases hme
        | nil =>
          cases hf : m.func with
          | none => rw [hp, hf] at hme; cases hme
          | some q =>
            obtain ⟨g, pr⟩ := q
            rw [hp, hf] at hme
            simp only at hme
            have hb : (pr == isPtr td) = true ∧ g = f := by
              cases h : (pr == isPtr td) <;> rw [h] at hme
              · cases hme
              · cases hme; exact ⟨rfl, rfl⟩
            obtain ⟨hb, rfl⟩ := hb
            unfold method
            refine QV.bind (QV.typeInfo hti) ?_
            rw [hfind]
            simp only [hp, hf]
            refine QV.bind (a := (t, Place.val v)) (QV.pure _) ?_
            refine QV.bind (a := v) ?_ (QV.pure _)
            unfold receiverAt
            refine QV.bind (QV.underlying hu) ?_
            cases td <;> cases pr <;> first | exact QV.pure _ | (simp [isPtr] at hb; done)
def mInvoke {T : Type} (P : Program) (enc : T → Value) (name : String) (fv : Value) (args : List Value) (k : T → H → Prop) : H → Prop := fun h =>
  ∃ t v f fn, fv = .iface t v ∧ methOf P t name = some f ∧ Callee P f fn ∧ ACall P f (#[v] ++ args.toArray) h (fun w h' => ∃ r, w = enc r ∧ k r h') noP
def mAssert {X : Type} (vc : X → Value) (z : X) (t : TypeId) (fv : Value) (k : X × Bool → H → Prop) : H → Prop := fun h =>
  (fv = .nilIface ∧ k (z, false) h) ∨ ∃ t' w, fv = .iface t' w ∧ ((t' ≠ t ∧ k (z, false) h) ∨ (t' = t ∧ ∃ x, w = vc x ∧ k (x, true) h))
def mAssert1 {X : Type} (vc : X → Value) (t : TypeId) (fv : Value) (k : X → H → Prop) : H → Prop := fun h => ∃ x, fv = .iface t (vc x) ∧ k x h
def mNth {X : Type} (l : List X) (i : Int) (k : X → H → Prop) : H → Prop := fun h => ∃ x, 0 ≤ i ∧ l[i.toNat]? = some x ∧ k x h
def mMark (s : Sl) (k : Sl → H → Prop) : H → Prop := fun h => ∃ a c e fz, s.a = some a ∧ h a.block = some (.cells c e fz) ∧ k s (upd h a.block (freezeIn (.cells c e fz) ⟨a.block, c.size, none⟩ 1))
section
variable {P : Program} {C : PPost} {next : Post} {ρ : Env} {L h : H} {v : Value}
variable {d : Option Tmp} {ty : TypeId} {ps : String} {af : Array Edge} {gd : Option (Nat × Bool)}
theorem y_iface {t : TypeId} {td : TypeDesc} {x : Operand} (hu : P.underlying t = some td) (hi : ∀ ms, td ≠ .interface ms) (hx : ev ρ x = v) : YE P ⟨d, .makeInterface t x, ty, ps, af, gd⟩ ρ (.iface t v) := by
  refine YE.val rfl rfl ?_
  show QV P (Instr.makeInterface t (ev ρ x)) _
  rw [hx]
  unfold Instr.makeInterface
  refine QV.bind (QV.underlying hu) ?_
  cases td <;> first | exact QV.pure _ | exact absurd rfl (hi _)
theorem exec_assert {x : Operand} {xt t : TypeId} {ok : Bool} : execOp (ev ρ) ⟨d, .typeAssert x xt t ok, ty, ps, af, gd⟩ = (do pure (.value (← Instr.typeAssert (ev ρ x) xt t ok)) : Sem Next) := rfl
theorem y_assert {X : Type} {vc : X → Value} {z : X} {t xt : TypeId} {td : TypeDesc} {x : Operand} {fv : Value} (hu : P.underlying t = some td) (hi : ∀ ms, td ≠ .interface ms) (hz : QV P (zeroValue t) (vc z)) (hx : ev ρ x = fv) {k : X × Bool → H → Prop} {h : H} (hm : mAssert vc z t fv k h) :
    ∃ r, YE P ⟨d, .typeAssert x xt t true, ty, ps, af, gd⟩ ρ (.tuple #[vc r.1, .bool r.2]) ∧ k r h := by
  have go : ∀ w, QV P (Instr.typeAssert fv xt t true) w → YE P ⟨d, .typeAssert x xt t true, ty, ps, af, gd⟩ ρ w := fun w q => YE.val rfl exec_assert (by rw [hx]; exact q)
  have fails : ∀ fv', (∀ ms, td ≠ .interface ms) → (fv' = .nilIface ∨ ∃ t' w, fv' = .iface t' w ∧ t' ≠ t) → QV P (Instr.typeAssert fv' xt t true) (.tuple #[vc z, .bool false]) := fun fv' hi hf => by
    unfold Instr.typeAssert
    refine QV.bind (QV.underlying hu) ?_
    rcases hf with rfl | ⟨t', w, rfl, ht⟩
    · cases td <;> first | exact absurd rfl (hi _) | exact QV.bind hz (QV.pure _)
    · cases td <;> first | exact absurd rfl (hi _) | (simp only [if_neg ht, if_true]; exact QV.bind hz (QV.pure _))
  rcases hm with ⟨rfl, kk⟩ | ⟨t', w, rfl, ⟨ht, kk⟩ | ⟨rfl, y, rfl, kk⟩⟩
  · exact ⟨(z, false), go _ (fails _ hi (.inl rfl)), kk⟩
  · exact ⟨(z, false), go _ (fails _ hi (.inr ⟨_, _, rfl, ht⟩)), kk⟩
  · refine ⟨(y, true), go _ ?_, kk⟩
    unfold Instr.typeAssert
    refine QV.bind (QV.underlying hu) ?_
    cases td <;> first | exact absurd rfl (hi _) | (simp only [if_true]; exact QV.pure _)
theorem y_assert1 {X : Type} {vc : X → Value} {t xt : TypeId} {td : TypeDesc} {x : Operand} {fv : Value} (hu : P.underlying t = some td) (hi : ∀ ms, td ≠ .interface ms) (hx : ev ρ x = fv) {k : X → H → Prop} {h : H} (hm : mAssert1 vc t fv k h) :
    ∃ r, YE P ⟨d, .typeAssert x xt t false, ty, ps, af, gd⟩ ρ (vc r) ∧ k r h := by
  obtain ⟨y, rfl, kk⟩ := hm
  refine ⟨y, YE.val rfl exec_assert ?_, kk⟩
  rw [hx]
  unfold Instr.typeAssert
  refine QV.bind (QV.underlying hu) ?_
  cases td <;> first | exact absurd rfl (hi _) | (simp only [if_true]; exact QV.pure _)
theorem v_invoke {T : Type} {enc : T → Value} {x : Operand} {name : String} {fv : Value} {l : List Operand} {vl : List Value} {ts : Array TypeId} {k : T → H → Prop} (hx : ev ρ x = fv) (hv : l.map (ev ρ) = vl) (hm : mInvoke P enc name fv vl k h)
    (nx : ∀ r h', k r h' → next (put ρ d (enc r)) L h') : aOp P ⟨d, .call ⟨.invoke x name, l.toArray, ts⟩, ty, ps, af, gd⟩ ρ L h next C := fun ap => by
  obtain ⟨t, v, f, fn, rfl, hme, c, hc⟩ := hm
  show awp P (execOp (ev ρ) ⟨d, .call ⟨.invoke x name, l.toArray, ts⟩, ty, ps, af, gd⟩) _ _ _ _
  have e : execOp (ev ρ) ⟨d, .call ⟨.invoke x name, l.toArray, ts⟩, ty, ps, af, gd⟩ = callMethod (.iface t v) name vl.toArray := by
    have e0 : (#[Value.iface t v] ++ vl.toArray)[0]? = some (.iface t v) := by simp
    have e1 : (#[Value.iface t v] ++ vl.toArray).extract 1 (#[Value.iface t v] ++ vl.toArray).size = vl.toArray := by simp
    show (match (#[ev ρ x] ++ l.toArray.map (ev ρ))[0]? with | some recv => callMethod recv name ((#[ev ρ x] ++ l.toArray.map (ev ρ)).extract 1 (#[ev ρ x] ++ l.toArray.map (ev ρ)).size) | _ => _ : Sem Next) = _
    rw [hx, List.map_toArray, hv, e0]
    simp only [e1]
  rw [e]
  have hq : QV P (method (P.types.size + Made.depth) t v name) (f, v) := meth_q hme (P.types.size + 99)
  unfold callMethod
  refine a_use (a := P) QV.program ?_
  refine a_use hq ?_
  exact callFunc_awp c ⟨trivial, L, h, rfl, id, .refl _ _, hc.mono (fun w h'' ⟨r, e, k⟩ _ => by subst e; exact nx r h'' k) fun _ _ k => k.elim⟩
theorem y_idxV {t e : TypeId} {n : Nat} {te : TypeInfo} {td : TypeDesc} {x j : Operand} {cs : Array Value} {k : IntKind} {i : Int} (hu : P.underlying t = some (.array n e)) (hi : P.info? e = some te) (he : P.underlying e = some td) (hx : ev ρ x = .agg cs) (hj : ev ρ j = .int k i) (h0 : 0 ≤ i) (h1 : i < n)
    (hv : (aggB td = true ∧ v = .agg (cs.extract (i.toNat * te.size) (i.toNat * te.size + te.size))) ∨ (aggB td = false ∧ cs[i.toNat * te.size]? = some v)) : YE P ⟨d, .index t x j, ty, ps, af, gd⟩ ρ v := by
  refine YE.val rfl rfl ?_
  show QV P (Instr.index t (ev ρ x) (ev ρ j)) _
  rw [hx, hj]
  unfold Instr.index
  refine QV.bind (a := (k, i)) (QV.pure _) (QV.bind (QV.underlying hu) ?_)
  simp only []
  rw [if_pos ⟨h0, h1⟩]
  refine QV.bind (QV.sizeOf hi) ?_
  unfold part
  refine QV.bind (QV.isAgg he) ?_
  rcases hv with ⟨ha, rfl⟩ | ⟨ha, hv⟩
  · rw [ha]; exact QV.bind (QV.sizeOf hi) (QV.pure _)
  · rw [ha]; simp only [Bool.false_eq_true, if_false, hv]; exact QV.pure _
theorem v_mark {t e : TypeId} {x : Operand} {s : Sl} {k : Sl → H → Prop} (hu : P.underlying t = some (.slice e)) (he : P.underlying e = some (.int .u8)) (hx : ev ρ x = s.val) (hm : mMark s k h) (nx : ∀ s' h', k s' h' → next (put ρ d s'.val) L h') :
    aOp P ⟨d, .convert t t x, ty, ps, af, gd⟩ ρ L h next C := fun ap => by
  rw [show quietOp P (Op.convert t t x) = false by simp only [quietOp, hu]]
  show awp P (do pure (.value (← convert t t (ev ρ x))) : Sem Next) _ _ _ _
  obtain ⟨a, c, e', fz, ha, hb, kk⟩ := hm
  rw [hx]
  refine (awp_bind _ _ _ _).2 ?_
  unfold convert
  refine AV.use (AV.underlying hu) (AV.use (AV.underlying hu) ?_)
  obtain ⟨sa, len, cap⟩ := s
  have ha : sa = some a := ha
  subst ha
  unfold Sl.val
  simp only []
  refine AV.use (AV.underlying he) ?_
  simp only [beq_self_eq_true]
  obtain ⟨p1, p2⟩ := un_put (o' := freezeIn (.cells c e' fz) ⟨a.block, c.size, none⟩ 1) ap hb
  refine (awp_bind _ _ _ _).2 ?_
  refine ⟨_, un_at ap hb, ?_⟩
  refine ⟨_, un_at ap hb, rfl, Nat.one_ne_zero, ?_⟩
  exact ⟨trivial, L, _, p1, fun _ => p2, .refl _ _, nx _ _ kk⟩
end
def Keeps (h h' : H) : Prop := ∀ b o, h b = some o → h' b = some o
theorem Keeps.refl (h : H) : Keeps h h := fun _ _ e => e
theorem Keeps.trans {a b c : H} (x : Keeps a b) (y : Keeps b c) : Keeps a c := fun _ _ e => y _ _ (x _ _ e)
theorem Keeps.new {h : H} {b : Nat} {o : Obj} (e : h b = none) : Keeps h (upd h b o) := fun x o' e' => by
  rw [upd_ne]; exact e'
  intro q; subst q; rw [e] at e'; cases e'
def But (F : Nat → Prop) (h h' : H) : Prop := ∀ b o, h b = some o → ¬ F b → h' b = some o
theorem But.refl (F : Nat → Prop) (h : H) : But F h h := fun _ _ e _ => e
theorem But.of {F : Nat → Prop} {h h' : H} (k : Keeps h h') : But F h h' := fun b o e _ => k b o e
theorem But.keeps {F : Nat → Prop} {h h' : H} (k : But F h h') (e : ∀ b, ¬ F b) : Keeps h h' := fun b o q => k b o q (e b)
theorem But.trans {F G : Nat → Prop} {a b c : H} (x : But F a b) (y : But G b c) (e : ∀ n, G n → F n ∨ a n = none) : But F a c := fun n o q hf =>
  y n o (x n o q hf) fun g => (e n g).elim hf fun k => by rw [k] at q; cases q
theorem But.mono {F G : Nat → Prop} {a b : H} (x : But F a b) (e : ∀ n, F n → G n) : But G a b := fun n o q hg => x n o q fun f => hg (e n f)
theorem But.upd {F : Nat → Prop} {h : H} {b : Nat} {o : Obj} (f : F b) : But F h (upd h b o) := fun x o' e hf => by
  rw [upd_ne]; exact e
  intro q; subst q; exact hf f
theorem Keeps.but {F : Nat → Prop} {a b c : H} (k : Keeps a b) (x : But F b c) (e : ∀ n, F n → a n = none) : Keeps a c := fun n o q =>
  x n o (k n o q) fun f => by rw [e n f] at q; cases q
theorem Keeps.fresh {a b : H} (k : Keeps a b) {n : Nat} (e : b n = none) : a n = none := by
  cases q : a n with
  | none => rfl
  | some o => rw [k n o q] at e; cases e
theorem grab_iff : ∀ {l : List Value} {c : Array Value} {off : Nat}, grab c off l.length = some l ↔ ∀ i v, l[i]? = some v → c[off + i]? = some v := by
  intro l
  induction l with
  | nil => intro c off; simp [grab]
  | cons x r ih =>
    intro c off
    simp only [List.length_cons, grab]
    constructor
    · intro hg i v hi
      cases h1 : c[off]? with
      | none => rw [h1] at hg; simp at hg
      | some y =>
        cases h2 : grab c (off + 1) r.length with
        | none => rw [h1, h2] at hg; simp at hg
        | some r' =>
          rw [h1, h2] at hg
          simp only [Option.some.injEq, List.cons.injEq] at hg
          obtain ⟨rfl, rfl⟩ := hg
          cases i with
          | zero => simp at hi; subst hi; exact h1
          | succ i =>
            have := (ih (c := c) (off := off + 1)).1 h2 i v (by simpa using hi)
            rw [← this]; congr 1; omega
    · intro hh
      have h1 := hh 0 x rfl
      have h2 := (ih (c := c) (off := off + 1)).2 fun i v hi => by
        have := hh (i + 1) v (by simpa using hi)
        rw [← this]; congr 1; omega
      rw [Nat.add_zero] at h1
      rw [h1, h2]
theorem add_block (a : Addr) (i : Nat) : (a.add i).block = a.block := by unfold Addr.add; split <;> rfl
theorem add_off (a : Addr) (i : Nat) : (a.add i).off = a.off + i := by
  unfold Addr.add; split
  · rename_i e; simp_all
  · rfl
theorem add_spot {a : Addr} (e : a.spot = none) (i : Nat) : (a.add i).spot = none := by unfold Addr.add; split <;> first | exact e | rfl
theorem at_iff {h : H} {a : Addr} {l : List Value} : At h a l ↔ a.spot = none ∧ ∃ c e fz, h a.block = some (.cells c e fz) ∧ ∀ i v, l[i]? = some v → c[a.off + i]? = some v := by
  unfold At; simp only [grab_iff]
theorem At.sub {h : H} {a : Addr} {l1 l2 l3 : List Value} (x : At h a (l1 ++ l2 ++ l3)) {n : Nat} (e : l1.length = n) : At h (a.add n) l2 := by
  subst e
  obtain ⟨hs, c, e, fz, hb, hg⟩ := at_iff.1 x
  refine at_iff.2 ⟨add_spot hs _, c, e, fz, by rw [add_block]; exact hb, fun i v hi => ?_⟩
  rw [add_off, Nat.add_assoc]
  refine hg _ _ ?_
  have hlt : i < l2.length := by
    rcases Nat.lt_or_ge i l2.length with q | q
    · exact q
    · rw [List.getElem?_eq_none q] at hi; cases hi
  rw [List.append_assoc, List.getElem?_append_right (by omega), List.getElem?_append_left (by omega)]
  rw [← hi]; congr 1; omega
theorem At.head {h : H} {a : Addr} {l1 l2 : List Value} (x : At h a (l1 ++ l2)) : At h a l1 := by
  obtain ⟨hs, c, e, fz, hb, hg⟩ := at_iff.1 x
  refine at_iff.2 ⟨hs, c, e, fz, hb, fun i v hi => hg i v ?_⟩
  have hlt : i < l1.length := by
    rcases Nat.lt_or_ge i l1.length with q | q
    · exact q
    · rw [List.getElem?_eq_none q] at hi; cases hi
  rw [List.getElem?_append_left hlt]; exact hi
theorem At.frame {h h' : H} {a : Addr} {l : List Value} (x : At h a l) (e : h' a.block = h a.block) : At h' a l := by
  obtain ⟨hs, c, t, fz, hb, hg⟩ := x
  exact ⟨hs, c, t, fz, e.trans hb, hg⟩
theorem At.keep {h h' : H} {a : Addr} {l : List Value} (x : At h a l) (k : Keeps h h') : At h' a l := by
  obtain ⟨hs, c, t, fz, hb, hg⟩ := x
  exact ⟨hs, c, t, fz, k _ _ hb, hg⟩
theorem At.but {F : Nat → Prop} {h h' : H} {a : Addr} {l : List Value} (x : At h a l) (k : But F h h') (f : ¬ F a.block) : At h' a l := by
  obtain ⟨hs, c, t, fz, hb, hg⟩ := x
  exact ⟨hs, c, t, fz, k _ _ hb f, hg⟩
theorem At.ex {h : H} {a : Addr} {l : List Value} (x : At h a l) : ∃ o, h a.block = some o := by
  obtain ⟨_, c, t, fz, hb, _⟩ := x; exact ⟨_, hb⟩
theorem At.eq {h : H} {a : Addr} {l l' : List Value} (x : At h a l) (y : At h a l') (e : l.length = l'.length) : l = l' := by
  obtain ⟨_, c, t, fz, hb, hg⟩ := x
  obtain ⟨_, c', t', fz', hb', hg'⟩ := y
  obtain ⟨rfl, _, _⟩ := cells_inj (hb.symm.trans hb')
  rw [e] at hg
  exact Option.some.inj (hg.symm.trans hg')
def flat {T : Type} (cells : T → List Value) (xs : List T) : List Value := xs.flatMap cells
theorem flat_nil {T : Type} (cells : T → List Value) : flat cells [] = [] := rfl
theorem flat_cons {T : Type} (cells : T → List Value) (x : T) (xs : List T) : flat cells (x :: xs) = cells x ++ flat cells xs := rfl
theorem flat_append {T : Type} (cells : T → List Value) (xs ys : List T) : flat cells (xs ++ ys) = flat cells xs ++ flat cells ys := by simp [flat]
theorem flat_len {T : Type} {cells : T → List Value} {sz : Nat} (hs : ∀ x, (cells x).length = sz) : ∀ xs : List T, (flat cells xs).length = xs.length * sz := by
  intro xs
  induction xs with
  | nil => simp [flat]
  | cons x r ih => rw [flat_cons, List.length_append, hs, ih, List.length_cons, Nat.add_mul]; omega
theorem split_at {T : Type} {xs : List T} {i : Nat} {x : T} (e : xs[i]? = some x) : xs = xs.take i ++ x :: xs.drop (i + 1) := by
  have hlt : i < xs.length := by
    rcases Nat.lt_or_ge i xs.length with q | q
    · exact q
    · rw [List.getElem?_eq_none q] at e; cases e
  have hx : xs[i] = x := by rw [List.getElem?_eq_getElem hlt] at e; exact Option.some.inj e
  rw [← hx, List.getElem_cons_drop, List.take_append_drop]
theorem lt_of_get {T : Type} {xs : List T} {i : Nat} {x : T} (e : xs[i]? = some x) : i < xs.length := by
  rcases Nat.lt_or_ge i xs.length with q | q
  · exact q
  · rw [List.getElem?_eq_none q] at e; cases e
theorem At.elem {T : Type} {cells : T → List Value} {sz : Nat} (hs : ∀ x, (cells x).length = sz) {h : H} {a : Addr} {xs : List T} (x : At h a (flat cells xs)) {i : Nat} {v : T} (e : xs[i]? = some v) : At h (a.add (i * sz)) (cells v) := by
  have hlt := lt_of_get e
  rw [split_at e, flat_append, flat_cons, ← List.append_assoc] at x
  exact x.sub (by rw [flat_len hs, List.length_take]; congr 1; omega)
structure Arr {T : Type} (cells : T → List Value) (h : H) (s : Sl) (xs : List T) : Prop where
  len : s.len = xs.length
  cap : s.len ≤ s.cap
  at_ : xs ≠ [] → ∃ a, s.a = some a ∧ At h a (flat cells xs)
theorem Arr.keep {T : Type} {cells : T → List Value} {h h' : H} {s : Sl} {xs : List T} (x : Arr cells h s xs) (k : Keeps h h') : Arr cells h' s xs :=
  ⟨x.len, x.cap, fun e => by obtain ⟨a, ha, q⟩ := x.at_ e; exact ⟨a, ha, q.keep k⟩⟩
theorem Arr.but {T : Type} {cells : T → List Value} {F : Nat → Prop} {h h' : H} {s : Sl} {xs : List T} (x : Arr cells h s xs) (k : But F h h') (f : xs ≠ [] → ∀ a, s.a = some a → ¬ F a.block) : Arr cells h' s xs :=
  ⟨x.len, x.cap, fun e => by obtain ⟨a, ha, q⟩ := x.at_ e; exact ⟨a, ha, q.but k (f e a ha)⟩⟩
theorem Arr.row {T : Type} {cells : T → List Value} {h : H} {s : Sl} {xs : List T} (x : Arr cells h s xs) : Row h s.a (flat cells xs) := by
  unfold Row
  by_cases e : xs = []
  · subst e; split <;> first | rfl | exact .inl rfl
  · obtain ⟨a, ha, q⟩ := x.at_ e; rw [ha]; exact .inr q
theorem Arr.idx {T : Type} {cells : T → List Value} {sz : Nat} (hs : ∀ x, (cells x).length = sz) {h : H} {s : Sl} {xs : List T} (x : Arr cells h s xs) {i : Nat} {v : T} (e : xs[i]? = some v) : ∃ a, isIdx s i sz a ∧ At h a (cells v) := by
  have hlt := lt_of_get e
  obtain ⟨a, ha, q⟩ := x.at_ (fun k => by rw [k] at hlt; cases hlt)
  exact ⟨a.add (i * sz), ⟨a, ha, by omega, by have := x.len; omega, by rw [Int.toNat_natCast]⟩, q.elem hs e⟩
section rules
variable {h : H}
theorem w_if {c : Bool} {A B : H → Prop} (x : c = true → A h) (y : c = false → B h) : mIf c A B h := ⟨x, y⟩
theorem w_ifT {c : Bool} {A B : H → Prop} (e : c = true) (x : A h) : mIf c A B h := ⟨fun _ => x, fun k => by rw [e] at k; cases k⟩
theorem w_ifF {c : Bool} {A B : H → Prop} (e : c = false) (x : B h) : mIf c A B h := ⟨fun k => (by rw [e] at k; cases k), fun _ => x⟩
theorem w_if' {p : Prop} [Decidable p] {A B : H → Prop} (x : p → A h) (y : ¬ p → B h) : mIf (decide p) A B h := ⟨fun k => x (of_decide_eq_true k), fun k => y (of_decide_eq_false k)⟩
theorem w_deref {a : Addr} {k : Addr → H → Prop} (x : k a h) : mDeref (some a) k h := ⟨a, rfl, x⟩
theorem w_load {T : Type} {cells : T → List Value} {a : Addr} {k : T → H → Prop} {v : T} (x : At h a (cells v)) (y : k v h) : mLoad cells a k h := ⟨v, x, y⟩
theorem w_idx {T : Type} {cells : T → List Value} {sz : Nat} (hs : ∀ x, (cells x).length = sz) {s : Sl} {xs : List T} (x : Arr cells h s xs) {i : Nat} {v : T} (e : xs[i]? = some v) {j : Int} (hj : j = i) {k : Addr → H → Prop}
    (y : ∀ a, isIdx s i sz a → At h a (cells v) → k a h) : mIdx s j sz k h := by
  subst hj
  obtain ⟨a, ha, q⟩ := x.idx hs e
  exact ⟨a, ha, y a ha q⟩
theorem w_pure {R : Type} {m : (R → H → Prop) → H → Prop} {k : R → H → Prop} (r : R) (x : ∀ (h' : H) (k' : R → H → Prop), k' r h' → m k' h') (y : k r h) : mPure m k h := ⟨r, x, y⟩
theorem w_new {t : TypeId} {c : Array Value} {k : Addr → H → Prop} (x : ∀ b, h b = none → k ⟨b, 0, none⟩ (upd h b (.cells c t (0, 0)))) : mNew t c k h := x
theorem w_nn {b : Int} {k : H → Prop} (e : 0 ≤ b) (x : k h) : mNN b k h := ⟨e, x⟩
theorem At.own {b i : Nat} {l1 l2 l3 : List Value} {t : TypeId} {fz : Nat × Nat} (e : h b = some (.cells (l1 ++ l2 ++ l3).toArray t fz)) (hi : l1.length = i) : At h ⟨b, i, none⟩ l2 := by
  subst hi
  refine at_iff.2 ⟨rfl, _, _, _, e, fun j v hj => ?_⟩
  have := lt_of_get hj
  rw [List.getElem?_toArray, List.append_assoc, List.getElem?_append_right (by simp), List.getElem?_append_left (by simp; omega)]
  rw [← hj]; congr 1; simp
theorem lay_list : ∀ {l l' : List Value} {l1 l3 : List Value}, l'.length = l.length → lay (l1 ++ l ++ l3).toArray l1.length l' = (l1 ++ l' ++ l3).toArray := by
  intro l
  induction l with
  | nil => intro l' l1 l3 e; cases l' with
    | nil => rfl
    | cons => simp at e
  | cons x r ih =>
    intro l' l1 l3 e
    cases l' with
    | nil => simp at e
    | cons y r' =>
      simp only [List.length_cons, Nat.add_right_cancel_iff] at e
      simp only [lay]
      have h1 : (l1 ++ (x :: r) ++ l3).toArray.setIfInBounds l1.length y = ((l1 ++ [y]) ++ r ++ l3).toArray := by
        simp
      rw [h1]
      have := ih (l' := r') (l1 := l1 ++ [y]) (l3 := l3) e
      rw [show (l1 ++ [y]).length = l1.length + 1 from by simp] at this
      rw [this]
      simp
def Thawed (fz : Nat × Nat) (n : Nat) : Prop := ∀ i, i < n → frozenIn (.cells #[] 0 fz) i = false
theorem thaw {fz : Nat × Nat} {n i : Nat} (x : Thawed fz n) (hi : i < n) (c : Array Value) (e : TypeId) : frozenIn (.cells c e fz) i = false := by
  have := x i hi
  obtain ⟨lo, up⟩ := fz
  exact this
theorem thawed0 (n : Nat) : Thawed (0, 0) n := fun i _ => by simp [frozenIn]
theorem w_storeF {b i : Nat} {l1 l2 l3 new : List Value} {t : TypeId} {a : Addr} {fz : Nat × Nat} {k : H → Prop} (ha : a = ⟨b, i, none⟩) (e : h b = some (.cells (l1 ++ l2 ++ l3).toArray t fz)) (hf : Thawed fz (l1 ++ l2 ++ l3).length) (hi : l1.length = i) (hn : new.length = l2.length)
    (x : k (upd h b (.cells (l1 ++ new ++ l3).toArray t fz))) : mStore a new k h := by
  subst ha; subst hi
  refine ⟨rfl, _, _, _, e, by simp; omega, fun j hj => thaw hf (by simp; omega) _ _, ?_⟩
  rw [lay_list hn]
  exact x
theorem w_store {b i : Nat} {l1 l2 l3 new : List Value} {t : TypeId} {a : Addr} {k : H → Prop} (ha : a = ⟨b, i, none⟩) (e : h b = some (.cells (l1 ++ l2 ++ l3).toArray t (0, 0))) (hi : l1.length = i) (hn : new.length = l2.length)
    (x : k (upd h b (.cells (l1 ++ new ++ l3).toArray t (0, 0)))) : mStore a new k h := by
  subst ha; subst hi
  refine ⟨rfl, _, _, _, e, by simp; omega, fun _ _ => by simp [frozenIn], ?_⟩
  rw [lay_list hn]
  exact x
structure Buf {T : Type} (cells : T → List Value) (sz : Nat) (e : TypeId) (h : H) (s : Sl) (xs : List T) : Prop where
  len : s.len = xs.length
  cap : s.len ≤ s.cap
  at_ : (s.a = none ∧ s.cap = 0) ∨ ∃ b z fz, s.a = some ⟨b, 0, none⟩ ∧ h b = some (.cells (flat cells xs ++ z).toArray e fz) ∧ (flat cells xs ++ z).length = s.cap * sz ∧ Thawed fz (s.cap * sz)
theorem Buf.arr {T : Type} {cells : T → List Value} {sz : Nat} {e : TypeId} {s : Sl} {xs : List T} (x : Buf cells sz e h s xs) : Arr cells h s xs := by
  refine ⟨x.len, x.cap, fun hne => ?_⟩
  rcases x.at_ with ⟨_, h0⟩ | ⟨b, z, fz, ha, hb, _⟩
  · have := x.len; have := x.cap
    exact absurd (List.length_eq_zero_iff.1 (by omega)) hne
  · exact ⟨_, ha, At.own (l1 := []) hb rfl⟩
theorem Buf.nil {T : Type} {cells : T → List Value} {sz : Nat} {e : TypeId} : Buf cells sz e h Sl.nil ([] : List T) := ⟨rfl, Nat.le_refl _, .inl ⟨rfl, rfl⟩⟩
theorem Buf.keep {T : Type} {cells : T → List Value} {sz : Nat} {e : TypeId} {h' : H} {s : Sl} {xs : List T} (x : Buf cells sz e h s xs) (k : Keeps h h') : Buf cells sz e h' s xs :=
  ⟨x.len, x.cap, x.at_.imp id fun ⟨b, z, fz, ha, hb, hl⟩ => ⟨b, z, fz, ha, k _ _ hb, hl⟩⟩
theorem Buf.but {T : Type} {cells : T → List Value} {sz : Nat} {e : TypeId} {F : Nat → Prop} {h' : H} {s : Sl} {xs : List T} (x : Buf cells sz e h s xs) (k : But F h h') (f : ∀ a, s.a = some a → ¬ F a.block) : Buf cells sz e h' s xs :=
  ⟨x.len, x.cap, x.at_.imp id fun ⟨b, z, fz, ha, hb, hl⟩ => ⟨b, z, fz, ha, k _ _ hb (f _ ha), hl⟩⟩
def Sl.foot (s : Sl) (b : Nat) : Prop := ∃ a, s.a = some a ∧ a.block = b
theorem growBy_le (n : Nat) : ∀ (r c : Nat), Builtin.growBy n r c ≤ max c (n + (n + 768) / 4) := by
  intro r
  induction r with
  | zero => intro c; simp only [Builtin.growBy]; omega
  | succ r ih =>
    intro c
    simp only [Builtin.growBy]
    split
    · omega
    · have := ih (c + (c + 768) / 4); omega
theorem next_le {need cap : Nat} (hc : cap < need) : Builtin.nextslicecap need cap ≤ 2 * need + 192 := by
  unfold Builtin.nextslicecap
  split
  · omega
  · split
    · omega
    · have := growBy_le need 4 cap; omega
theorem zero_len (z : Array Value) (n : Nat) : (Builtin.zeroCells z n).size = n * z.size := by simp [Builtin.zeroCells]
theorem w_appX {T : Type} {cells : T → List Value} {sz by_ : Nat} {e : TypeId} (hs : ∀ x, (cells x).length = sz) {zero : Array Value} (hz : zero.size = sz) {m : Nat} {new : List Value} {s : Sl} {xs : List T} (x : Buf cells sz e h s xs) (ys : List T) (hnew : new = flat cells ys) (hm : m = ys.length)
    (room : (2 * (xs.length + ys.length) + 192) * by_ ≤ 2 ^ 48 ∨ (s.cap = 0 ∧ ys.length * by_ ≤ 2 ^ 48)) {k : Sl → H → Prop}
    (y : ∀ s' h', Buf cells sz e h' s' (xs ++ ys) → But (fun b => s.foot b ∧ s.len + ys.length ≤ s.cap) h h' → (∀ b, s'.foot b → (s.foot b ∧ s.len + ys.length ≤ s.cap) ∨ h b = none) → (∀ b, h' b = none → h b = none) → k s' h') : mApp e sz by_ zero m new s k h := by
  subst hm; subst hnew
  have hlen := x.len
  refine ⟨fun hle => ?_, fun hgt => ?_⟩
  · rcases x.at_ with ⟨ha, h0⟩ | ⟨b, z, fz, ha, hb, hl, hth⟩
    · have hx : xs = [] := List.length_eq_zero_iff.1 (by omega)
      have hy : ys = [] := List.length_eq_zero_iff.1 (by omega)
      subst hx; subst hy
      rw [ha]
      refine ⟨rfl, y _ _ ⟨by simpa using hlen, by simpa using hle, .inl ⟨rfl, h0⟩⟩ (But.refl _ _) (fun b hb => ?_) fun _ e => e⟩
      obtain ⟨a, k, _⟩ := hb; cases k
    · rw [ha]
      have hoff : ((⟨b, 0, none⟩ : Addr).add (s.len * sz)).off = s.len * sz := by rw [add_off]; exact Nat.zero_add _
      have hroom : s.len * sz + ys.length * sz ≤ s.cap * sz := by rw [← Nat.add_mul]; exact Nat.mul_le_mul_right _ hle
      refine .inr ⟨add_spot rfl _, _, _, _, by rw [show (⟨b, 0, none⟩ : Addr).block = b from rfl]; exact hb, ?_, fun j hj => thaw hth (by rw [hoff]; rw [flat_len hs] at hj; omega) _ _, ?_⟩
      · rw [add_off, flat_len hs]
        show 0 + s.len * sz + ys.length * sz ≤ _
        rw [List.size_toArray, hl, Nat.zero_add, ← Nat.add_mul]
        exact Nat.mul_le_mul_right _ hle
      · have hcut : z = z.take (ys.length * sz) ++ z.drop (ys.length * sz) := (List.take_append_drop _ _).symm
        have hzl : z.length = s.cap * sz - xs.length * sz := by
          rw [List.length_append, flat_len hs] at hl; omega
        have hmul : ys.length * sz ≤ z.length := by
          rw [hzl]
          have : (xs.length + ys.length) * sz ≤ s.cap * sz := Nat.mul_le_mul_right _ (by omega)
          rw [Nat.add_mul] at this; omega
        have hlay : lay (flat cells xs ++ z).toArray ((⟨b, 0, none⟩ : Addr).add (s.len * sz)).off (flat cells ys) = (flat cells (xs ++ ys) ++ z.drop (ys.length * sz)).toArray := by
          rw [add_off, Nat.zero_add, hlen, ← flat_len hs xs]
          conv => lhs; rw [hcut, ← List.append_assoc]
          rw [lay_list (by rw [flat_len hs, List.length_take]; omega), flat_append]
        rw [hlay]
        refine y _ _ ⟨by rw [List.length_append]; show s.len + ys.length = _; omega, hle, .inr ⟨b, _, fz, rfl, upd_same _ _ _, ?_, hth⟩⟩ (But.upd ⟨⟨_, ha, rfl⟩, hle⟩) (fun c hc => ?_) fun c hc => (upd_none.1 hc).2
        · rw [List.length_append, flat_len hs, List.length_append, List.length_drop, hzl]
          show _ = s.cap * sz
          rw [Nat.add_mul]
          rw [hzl] at hmul
          have : xs.length * sz ≤ s.cap * sz := Nat.mul_le_mul_right _ (by have := x.cap; omega)
          omega
        · obtain ⟨a, k, rfl⟩ := hc
          cases k
          exact .inl ⟨⟨_, ha, rfl⟩, hle⟩
  · refine ⟨flat cells xs, x.arr.row, fun _ => by rw [flat_len hs, hlen], ?_, fun b cap hb hcap => ?_⟩
    · unfold Room
      rcases room with r | ⟨r1, r2⟩
      · refine Nat.le_trans (Nat.mul_le_mul_right _ (next_le (by omega))) (by rw [hlen]; exact r)
      · have h0 : s.len = 0 := by have := x.cap; omega
        rw [h0, r1, Nat.zero_add]
        unfold Builtin.nextslicecap
        rw [if_pos (by omega)]; exact r2
    · refine y _ _ ⟨by rw [List.length_append]; show s.len + ys.length = _; omega, hcap, .inr ⟨b, (Builtin.zeroCells zero (cap - (s.len + ys.length))).toList, (0, 0), rfl, ?_, ?_, thawed0 _⟩⟩ (But.of (.new hb)) (fun c hc => ?_) fun c hc => (upd_none.1 hc).2
      · rw [upd_same, flat_append]; congr 2; simp
      · rw [List.length_append, flat_len hs, show (Builtin.zeroCells zero (cap - (s.len + ys.length))).toList.length = (Builtin.zeroCells zero (cap - (s.len + ys.length))).size from Array.length_toList, zero_len, hz, List.length_append, hlen, ← Nat.add_mul]
        show _ = cap * sz
        congr 1; omega
      · obtain ⟨a, k, rfl⟩ := hc
        cases k
        exact .inr hb
theorem w_app {T : Type} {cells : T → List Value} {sz by_ : Nat} {e : TypeId} (hs : ∀ x, (cells x).length = sz) {zero : Array Value} (hz : zero.size = sz) {m : Nat} {new : List Value} {s : Sl} {xs : List T} (x : Buf cells sz e h s xs) (ys : List T) (hnew : new = flat cells ys) (hm : m = ys.length)
    (room : (2 * (xs.length + ys.length) + 192) * by_ ≤ 2 ^ 48 ∨ (s.cap = 0 ∧ ys.length * by_ ≤ 2 ^ 48)) {k : Sl → H → Prop}
    (y : ∀ s' h', Buf cells sz e h' s' (xs ++ ys) → But s.foot h h' → (∀ b, s'.foot b → s.foot b ∨ h b = none) → (∀ b, h' b = none → h b = none) → k s' h') : mApp e sz by_ zero m new s k h :=
  w_appX hs hz x ys hnew hm room fun s' h' bu b f n => y s' h' bu (b.mono fun _ q => q.1) (fun c hc => (f c hc).imp (fun q => q.1) id) n
theorem w_append {T : Type} {cells : T → List Value} {sz by_ : Nat} {e : TypeId} (hs : ∀ x, (cells x).length = sz) (hp : ∀ x, (cells x).all plainVal = true) {zero : Array Value} (hz : zero.size = sz) {s x' : Sl} {xs ys : List T} (x : Buf cells sz e h s xs) (hx : Arr cells h x' ys)
    (room : (2 * (xs.length + ys.length) + 192) * by_ ≤ 2 ^ 48 ∨ (s.cap = 0 ∧ ys.length * by_ ≤ 2 ^ 48)) {k : Sl → H → Prop}
    (y : ∀ s' h', Buf cells sz e h' s' (xs ++ ys) → But s.foot h h' → (∀ b, s'.foot b → s.foot b ∨ h b = none) → (∀ b, h' b = none → h b = none) → k s' h') : mAppend e sz by_ zero s x' k h := by
  refine ⟨flat cells ys, hx.row, fun _ => by rw [flat_len hs, hx.len], ?_, w_app hs hz x ys rfl hx.len room y⟩
  rw [List.all_eq_true]
  intro v hv
  obtain ⟨t, _, hv⟩ := List.mem_flatMap.1 hv
  exact List.all_eq_true.1 (hp t) v hv
theorem w_cut {s : Sl} {lo hi : Nat} {size : Nat} {i j : Int} {k : Sl → H → Prop} (hi' : i = lo) (hj : j = hi) (h1 : lo ≤ hi) (h2 : hi ≤ s.cap)
    (y : k ⟨if s.cap = lo then s.a else s.a.map (·.add (lo * size)), hi - lo, s.cap - lo⟩ h) : mCut s i j size k h := by
  subst hi'; subst hj
  exact ⟨_, ⟨by omega, by omega, by omega, rfl⟩, by simpa using y⟩
theorem add_zero (a : Addr) : a.add 0 = a := by
  unfold Addr.add; simp
theorem w_take {T : Type} {cells : T → List Value} {s : Sl} {xs : List T} {size : Nat} (x : Arr cells h s xs) {n : Nat} (hn : n ≤ xs.length) {i j : Int} (hi : i = 0) (hj : j = n) {k : Sl → H → Prop}
    (y : ∀ s', Arr cells h s' (xs.take n) → (∀ b, s'.foot b → s.foot b) → s'.cap = s.cap → k s' h) : mCut s i j size k h := by
  have hl := x.len
  have hc := x.cap
  refine w_cut (lo := 0) (hi := n) hi hj (Nat.zero_le _) (by omega) ?_
  have ha : (if s.cap = 0 then s.a else s.a.map (·.add (0 * size))) = s.a := by
    split
    · rfl
    · cases s.a <;> simp [add_zero]
  rw [ha]
  refine y _ ⟨by simp; omega, by show n - 0 ≤ s.cap - 0; omega, fun hne => ?_⟩ (fun b f => f) rfl
  obtain ⟨a, ha, q⟩ := x.at_ (fun e => hne (by rw [e]; exact List.take_nil))
  refine ⟨a, ha, ?_⟩
  rw [← List.take_append_drop n xs, flat_append] at q
  exact q.head
theorem w_set {T : Type} {cells : T → List Value} {sz : Nat} {e : TypeId} (hs : ∀ x, (cells x).length = sz) {s : Sl} {xs : List T} (x : Buf cells sz e h s xs) {i : Nat} {v v' : T} (hv : xs[i]? = some v) {a a' : Addr} (ha : isIdx s i sz a)
    {c1 c2 c3 new : List Value} (h1 : cells v = c1 ++ c2 ++ c3) (h2 : cells v' = c1 ++ new ++ c3) (hn : new.length = c2.length) (ha' : a' = a.add c1.length) {k : H → Prop}
    (y : ∀ h', Buf cells sz e h' s (xs.set i v') → But s.foot h h' → (∀ b, h' b = none → h b = none) → k h') : mStore a' new k h := by
  have hlt := lt_of_get hv
  obtain ⟨a0, ha0, _, _, rfl⟩ := ha
  rcases x.at_ with ⟨hq, _⟩ | ⟨b, z, fz, hb0, hb, hz, hth⟩
  · rw [hq] at ha0; cases ha0
  rw [hb0] at ha0
  obtain rfl := Option.some.inj ha0
  subst ha'
  have hsp := split_at hv
  have e1 : flat cells xs ++ z = (flat cells (xs.take i) ++ c1) ++ c2 ++ (c3 ++ (flat cells (xs.drop (i + 1)) ++ z)) := by
    conv => lhs; rw [hsp]
    rw [flat_append, flat_cons, h1]
    simp [List.append_assoc]
  have hset : xs.set i v' = xs.take i ++ v' :: xs.drop (i + 1) := by rw [List.set_eq_take_append_cons_drop, if_pos hlt]
  have e2 : flat cells (xs.set i v') ++ z = (flat cells (xs.take i) ++ c1) ++ new ++ (c3 ++ (flat cells (xs.drop (i + 1)) ++ z)) := by
    rw [hset, flat_append, flat_cons, h2]
    simp [List.append_assoc]
  have hoff : ((⟨b, 0, none⟩ : Addr).add ((i : Int).toNat * sz)).add c1.length = ⟨b, (flat cells (xs.take i) ++ c1).length, none⟩ := by
    have key : ∀ (o i : Nat), (⟨b, o, none⟩ : Addr).add i = ⟨b, o + i, none⟩ := fun o i => by
      unfold Addr.add; split
      · rename_i e; subst e; rfl
      · rfl
    rw [key, key, List.length_append, flat_len hs, List.length_take, Int.toNat_natCast, Nat.min_eq_left (by omega), Nat.zero_add]
  rw [e1] at hb hz
  refine w_storeF hoff hb (by rw [hz]; exact hth) rfl hn ?_
  rw [← e2]
  refine y _ ⟨by rw [List.length_set]; exact x.len, x.cap, .inr ⟨b, z, fz, hb0, upd_same _ _ _, ?_, hth⟩⟩ (But.upd ⟨_, hb0, rfl⟩) fun c hc => (upd_none.1 hc).2
  rw [← hz, ← e1, List.length_append, List.length_append, flat_len hs, flat_len hs, List.length_set]
theorem w_joinP {σ : Type} {rest : σ → H → Prop} {body : (σ → H → Prop) → H → Prop} (I : σ → H → Prop) (hb : ∀ rest' : σ → H → Prop, (∀ s h, I s h → rest' s h) → body rest' h) (hr : ∀ s h, I s h → rest s h) : mJoin rest body h := hb rest hr
theorem w_join {σ : Type} {rest : σ → H → Prop} {body : (σ → H → Prop) → H → Prop} (x : body rest h) : mJoin rest body h := x
end rules
end Go.Proofs.YtdleanjofhghnaaDoor.K
namespace Go.Proofs.YtdleanjofhghnaaDoor.K
open Go Go.ChangeShapes Go.WideShapes Go.ChangeAt Go.RowKit Go.Proofs
def heapH (w : World) : H := fun b => w.heap[b]?
theorem sat_heap (w : World) : Sat2 w (heapH w) (fun _ => none) := ⟨fun _ _ e => e, fun _ _ e => (by cases e), fun _ => .inr rfl⟩
theorem calls_law {P : Program} {f : FuncId} {args : Array Value} {W : World} (x : ACall P f args (heapH W) (fun v h' => v = .bool true ∧ Keeps (heapH W) h') noP) :
    Calls P f args W fun e W' => e = .returned (.bool true) ∧ Below W.heap.size W W' := by
  refine (x W _ (sat_heap W)).mono fun e W' r => ?_
  cases e with
  | returned v =>
    obtain ⟨h', s, ex, rfl, k⟩ := r
    refine ⟨rfl, ex.os, ex.tape, ex.output, ex.size, fun b hb => ?_⟩
    have e : heapH W b = some W.heap[b] := Array.getElem?_eq_getElem hb
    rw [s.hs _ _ (k _ _ e), ← e]; rfl
  | panicked c => obtain ⟨h', _, _, k⟩ := r; exact k.elim
  | outgrown => exact r.elim
theorem add_add (a : Addr) (i j : Nat) : (a.add i).add j = a.add (i + j) := by
  unfold Addr.add
  by_cases hi : i = 0
  · subst hi; simp
  · by_cases hj : j = 0
    · subst hj; simp
    · rw [if_neg hi, if_neg hj, if_neg (by omega)]
      simp [Nat.add_assoc]
theorem At.join {h : H} {a : Addr} {l1 l2 : List Value} (x : At h a l1) (y : At h (a.add l1.length) l2) : At h a (l1 ++ l2) := by
  obtain ⟨hs, c, e, fz, hb, hg⟩ := at_iff.1 x
  obtain ⟨_, c', e', fz', hb', hg'⟩ := at_iff.1 y
  rw [add_block] at hb'
  obtain ⟨rfl, _, _⟩ := cells_inj (hb.symm.trans hb')
  refine at_iff.2 ⟨hs, c, e, fz, hb, fun i v hi => ?_⟩
  rcases Nat.lt_or_ge i l1.length with q | q
  · rw [List.getElem?_append_left q] at hi; exact hg i v hi
  · rw [List.getElem?_append_right q] at hi
    have := hg' _ v hi
    rw [add_off] at this
    rw [← this]; congr 1; omega
theorem at_flat {T : Type} {cells : T → List Value} {sz : Nat} (hs : ∀ x, (cells x).length = sz) {h : H} : ∀ (xs : List T) (a : Addr), xs ≠ [] → (∀ i v, xs[i]? = some v → At h (a.add (i * sz)) (cells v)) → At h a (flat cells xs) := by
  intro xs
  induction xs with
  | nil => intro a hne; exact absurd rfl hne
  | cons x r ih =>
    intro a _ hh
    have h0 := hh 0 x rfl
    rw [Nat.zero_mul, add_zero] at h0
    rw [flat_cons]
    by_cases hr : r = []
    · subst hr; rw [flat_nil, List.append_nil]; exact h0
    · refine h0.join ?_
      rw [hs]
      refine ih _ hr fun i v hi => ?_
      rw [add_add]
      have := hh (i + 1) v (by simpa using hi)
      rw [Nat.add_mul, Nat.one_mul, Nat.add_comm] at this
      exact this
theorem at_cells {w : World} {base : Nat} {a : Addr} {n : Nat} {cs : List Value} (e : w.cells? base a n = some cs) (hn : 0 < n) : At (heapH w) a cs := by
  obtain ⟨_, hlen, hc⟩ := World.cells?_some e
  · have hget : ∀ i v, cs[i]? = some v → w.cell? (a.add i) = some v := fun i v hi => by
      have hlt := lt_of_get hi
      rw [hc i (by omega)]; exact hi
    have h0 := hget 0 cs[0] (List.getElem?_eq_getElem (by omega))
    rw [add_zero] at h0
    unfold World.cell? at h0
    split at h0
    · rename_i c t fz hb
      split at h0
      · cases h0
      · rename_i hsp
        have hsp' : a.spot = none := by simpa using hsp
        refine at_iff.2 ⟨hsp', c, t, fz, hb, fun i v hi => ?_⟩
        have := hget i v hi
        unfold World.cell? at this
        rw [add_block, hb] at this
        simp only [add_spot hsp' i, Option.isSome_none, Bool.false_eq_true, if_false, add_off] at this
        exact this
    · cases h0
theorem open_arrC {HH : Type} {enc : TypeId × Value → HH} {P : Program} {W : World} {t e : TypeId} {T : Type} (cells : T → List Value) (Good : T → Prop) {sz : Nat} (hs : ∀ x, (cells x).length = sz) (hpos : 0 < sz) (hc : P.cellsOf e = sz) (ht : P.underlying t = some (.slice e))
    (hT : ∀ n cs y, DataW.trod enc P W 0 (fun _ => true) true n e cs = some y → ∃ x, cs = cells x ∧ Good x) {fuel : Nat} {cs : List Value} {d : DataW HH} {ps : List MemPlace} (hf : DataW.trod enc P W 0 (fun _ => true) true fuel t cs = some (d, ps)) :
    ∃ s xs, cs = [Sl.val s] ∧ Arr cells (heapH W) s xs ∧ (∀ x ∈ xs, Good x) ∧ s.cap ≤ maxLen ∧ ∀ B, (d.weights P t).all (· ≤ B) = true → xs.length * P.bytesOf e ≤ B := by
  rcases Go.Deep.open_slice ht hf with ⟨hcs, _⟩ | ⟨a, len, cap, m, n, D, Pl, hcs, _, hl, hm, hmm, hxd, hel⟩
  · subst hcs
    exact ⟨Sl.nil, [], rfl, ⟨rfl, Nat.le_refl _, fun e => absurd rfl e⟩, fun _ k => (by cases k), Nat.zero_le _, fun B _ => by simp⟩
  · subst hcs
    rw [if_pos rfl] at hmm
    have key : ∀ i, i < len → ∃ x, At (heapH W) (a.add (i * sz)) (cells x) ∧ Good x := fun i hi => by
      obtain ⟨cs', h1, h2⟩ := hel i (by omega)
      obtain ⟨x, rfl, g⟩ := hT _ _ _ h2
      rw [hc] at h1
      exact ⟨x, at_cells h1 hpos, g⟩
    have mk : ∀ n, n ≤ len → ∃ xs : List T, xs.length = n ∧ ∀ i v, xs[i]? = some v → At (heapH W) (a.add (i * sz)) (cells v) ∧ Good v := by
      intro n
      induction n with
      | zero => exact fun _ => ⟨[], rfl, fun i v k => by simp at k⟩
      | succ n ih =>
        intro hn
        obtain ⟨xs, hx, hg⟩ := ih (by omega)
        obtain ⟨x, q⟩ := key n (by omega)
        refine ⟨xs ++ [x], by simp [hx], fun i v k => ?_⟩
        rcases Nat.lt_or_ge i xs.length with r | r
        · rw [List.getElem?_append_left r] at k; exact hg i v k
        · rw [List.getElem?_append_right r] at k
          have hlt := lt_of_get k
          simp at hlt
          have : i = n := by omega
          subst this
          rw [hx, Nat.sub_self] at k
          cases k; exact q
    obtain ⟨xs, hx, hg⟩ := mk len (Nat.le_refl _)
    exact ⟨⟨some a, len, cap⟩, xs, rfl, ⟨hx.symm, hl, fun hne => ⟨a, rfl, at_flat hs xs a hne fun i v k => (hg i v k).1⟩⟩, fun x hx => by
      obtain ⟨i, hi, rfl⟩ := List.getElem_of_mem hx
      exact (hg i _ (List.getElem?_eq_getElem hi)).2, hm, fun B hw => by
        obtain ⟨rfl, -⟩ := Prod.mk.inj hxd
        rw [DataW.weights, ht] at hw
        simp only [List.all_cons, Bool.and_eq_true, decide_eq_true_eq, List.length_map, List.length_range] at hw
        refine Nat.le_trans (Nat.mul_le_mul_right _ ?_) hw.1
        omega⟩
theorem open_arr {HH : Type} {enc : TypeId × Value → HH} {P : Program} {W : World} {base : Nat} {t e : TypeId} {T : Type} (cells : T → List Value) (Good : T → Prop) {sz : Nat} (hs : ∀ x, (cells x).length = sz) (hpos : 0 < sz) (hc : P.cellsOf e = sz) (ht : P.underlying t = some (.slice e))
    (hT : ∀ n cs y, DataW.trod enc P W 0 (fun _ => true) true n e cs = some y → ∃ x, cs = cells x ∧ Good x) {v : Value} {d : DataW HH} {ps : List MemPlace} (hval : Value.okWide P W .any base t v) (h : DataW.Trod enc P W 0 (fun _ => true) true t v d ps) :
    ∃ s xs, v = Sl.val s ∧ Arr cells (heapH W) s xs ∧ (∀ x ∈ xs, Good x) ∧ s.cap ≤ maxLen ∧ ∀ B, (d.weights P t).all (· ≤ B) = true → xs.length * P.bytesOf e ≤ B := by
  obtain ⟨a0, len, cap, rfl⟩ := okWide_slice ht hval
  obtain ⟨fuel, hf⟩ := h
  obtain ⟨s, xs, e1, r⟩ := open_arrC cells Good hs hpos hc ht hT hf
  exact ⟨s, xs, (List.cons.inj e1).1, r⟩
theorem same_of_below {W W' : World} (hb : Below W.heap.size W W') {p : MemPlace} (hp : p.block < W.heap.size) : W.sameAt W' p := by
  cases p with
  | cell b off =>
    show W'.cell? ⟨b, off, none⟩ = W.cell? ⟨b, off, none⟩
    have := hb.block b hp
    simp only [World.cell?, this]
  | map b => exact hb.block b hp
theorem trodAll_stays {HH : Type} {enc : TypeId × Value → HH} {P : Program} {W W' : World} (hl : laidOutB P = true) {sp : Nat → Bool} : ∀ (ts : List TypeId) (vs : List Value) (ds : List (DataW HH)) (ps : List MemPlace),
    ts.all (fun t => P.readableRec t && decide (t < P.types.size)) = true → DataW.TrodAll enc P W 0 (fun _ => true) true ts vs ds ps → (∀ p ∈ ps, W.sameAt W' p) → (∀ p ∈ ps, sp p.block = true) → DataW.TrodAll enc P W' 0 sp true ts vs ds ps := by
  intro ts
  induction ts with
  | nil => intro vs ds ps _ h _ _; cases vs <;> cases ds <;> first | exact h | exact h.elim
  | cons t r ih =>
    intro vs ds ps ht h hsame hsp
    cases vs with
    | nil => exact h.elim
    | cons v vs =>
      cases ds with
      | nil => exact h.elim
      | cons d ds =>
        obtain ⟨p, q, h1, h2, rfl⟩ := h
        rw [List.all_cons, Bool.and_eq_true, Bool.and_eq_true] at ht
        exact ⟨p, q, Go.WideElems.Trod_stays hl ht.1.1 (of_decide_eq_true ht.1.2) h1 (fun x hx => hsame x (List.mem_append_left _ hx)) (fun x hx => hsp x (List.mem_append_left _ hx)),
          ih vs ds q ht.2 h2 (fun x hx => hsame x (List.mem_append_right _ hx)) (fun x hx => hsp x (List.mem_append_right _ hx)), rfl⟩
section
variable {HH : Type} {enc : TypeId × Value → HH} {P : Program}
theorem post_law {f : Func} {s : ChangeSpec} {W W' : World} {args : Array Value} {ds gs : List (DataW HH)} {before : List MemPlace} {tb : TypeId}
    (hl : laidOutB P = true) (htb : P.underlying tb = some .bool) (hrt : f.resultTypes = #[tb]) (hts : f.params.toList.all (fun t => P.readableRec t && decide (t < P.types.size)) = true) (hvars : s.vars = [])
    (hW : DataW.Whole enc P f.params.toList s.vars false W args.toList ds gs before) (hspec : (s.fn HH (ds ++ gs)).results = [.lit (.bool true)] ∧ (s.fn HH (ds ++ gs)).args = ds ∧ (s.fn HH (ds ++ gs)).vars = gs) (hb : Below W.heap.size W W') :
    s.post enc P f false true false false W args (.bool true) W' := by
  have hlt : ∀ p ∈ before, p.block < W.heap.size := fun p hp => hW.lt p hp
  have hold : ∀ p ∈ before, (fun b => decide (b < W.heap.size)) p.block = true := fun p hp => by simpa using hlt p hp
  have hWW := hW
  obtain ⟨pa, pv, hA, hV, rfl, hz, hn⟩ := hW
  have hg : gs = [] ∧ pv = [] := by
    rw [hvars] at hV
    cases gs with
    | nil => exact ⟨rfl, hV⟩
    | cons => exact hV.elim
  obtain ⟨rfl, rfl⟩ := hg
  have hres : ∀ (b : Nat) (sp : Nat → Bool) (hd : Bool), DataW.TrodAll enc P W' b sp hd f.resultTypes.toList ((Value.bool true).resultList f.resultTypes.size) (s.fn HH (ds ++ [])).results [] := fun b sp hd => by
    rw [hrt, hspec.1]
    exact trodAll_mk1 (shut_bool htb true)
  have hargs : ∀ sp : Nat → Bool, (∀ p ∈ pa ++ [], sp p.block = true) → DataW.TrodAll enc P W' 0 sp true f.params.toList args.toList (s.fn HH (ds ++ [])).args pa := fun sp hsp => by
    rw [hspec.2.1]
    exact trodAll_stays hl _ _ _ _ hts hA (fun p hp => same_of_below hb (hlt p (by simpa using hp))) fun p hp => hsp p (by simpa using hp)
  have hvs : ∀ sp : Nat → Bool, (∀ p ∈ pa ++ [], sp p.block = true) → DataW.TrodVars enc P W' sp s.vars (s.fn HH (ds ++ [])).vars [] := fun sp _ => by
    rw [hspec.2.2, hvars]; exact rfl
  refine ⟨ds, [], pa ++ [], [], pa, [], hWW, hres _ _ _, hargs _ hold, hvs _ hold, World.keptBut_mono (fun p hp => ⟨hp, ?_⟩) (hb.frame (· ∈ pa ++ [])), fun _ => ?_⟩
  · rw [List.append_nil] at hp
    exact Or.inr (by simpa using hp)
  · refine ⟨ok_one hrt rfl (okWide_bool_mk htb true), _, _, ([] ++ pa) ++ [], ⟨[] ++ pa, [], trodAll_append (hargs _ (fun _ _ => rfl)) (hres _ _ _), hvs _ (fun _ _ => rfl), rfl, ?_, fun h => by cases h⟩, fun p hp _ => by simpa using hp⟩
    intro b off hp
    have hin : MemPlace.cell b off ∈ pa ++ [] := by simpa using hp
    rw [hb.frozen (hlt _ hin)]
    exact hz b off hin
end
end Go.Proofs.YtdleanjofhghnaaDoor.K
namespace Go.Proofs.YtdleanjofhghnaaDoor.K
open Go
abbrev HP := H → Prop
def no0 : Prop := False
def no1 := no0
def no2 := no1
def no3 := no2
def no4 := no3
def no5 := no4
def no6 := no5
def no7 := no6
def no8 := no7
def no9 := no8
def no10 := no9
def no11 := no10
def no12 := no11
def no13 := no12
def no14 := no13
def no15 := no14
def no16 := no15
def no17 := no16
def no18 := no17
def no19 := no18
def no20 := no19
def no21 := no20
def no22 := no21
def no23 := no22
def no24 := no23
def no25 := no24
def no26 := no25
def no27 := no26
def no28 := no27
def no29 := no28
def no30 := no29
def no31 := no30
def no32 := no31
def no33 := no32
def no34 := no33
def no35 := no34
def no36 := no35
def no37 := no36
def no38 := no37
def no39 := no38
def no40 := no39
def no41 := no40
def no42 := no41
def no43 := no42
def no44 := no43
def no45 := no44
def no46 := no45
def no47 := no46
def no48 := no47
def no49 := no48
def no50 := no49
def no51 := no50
def no52 := no51
def no53 := no52
def no54 := no53
def no55 := no54
def no56 := no55
def no57 := no56
def no58 := no57
def no59 := no58
def no60 := no59
def no61 := no60
def no62 := no61
def no63 := no62
def no64 := no63
def no65 := no64
def no66 := no65
def no67 := no66
def no68 := no67
def no69 := no68
def no70 := no69
def no71 := no70
def no72 := no71
def no73 := no72
def no74 := no73
def no75 := no74
def no76 := no75
def no77 := no76
def no78 := no77
def no79 := no78
def no80 := no79
def no81 := no80
def no82 := no81
def no83 := no82
def no84 := no83
def no85 := no84
def no86 := no85
def no87 := no86
def no88 := no87
def no89 := no88
def no90 := no89
def no91 := no90
def no92 := no91
def no93 := no92
def no94 := no93
def no95 := no94
def no96 := no95
def no97 := no96
def no98 := no97
def no99 := no98
def no100 := no99
def no101 := no100
def no102 := no101
def no103 := no102
def no104 := no103
def no105 := no104
def no106 := no105
def no107 := no106
def no108 := no107
def no109 := no108
def no110 := no109
def no111 := no110
def no112 := no111
def no113 := no112
def no114 := no113
def no115 := no114
def no116 := no115
def no117 := no116
def no118 := no117
def no119 := no118
def no120 := no119
def no121 := no120
def no122 := no121
def no123 := no122
def no124 := no123
def no125 := no124
def no126 := no125
def no127 := no126
def no128 := no127
def no129 := no128
def no130 := no129
def no131 := no130
def no132 := no131
def no133 := no132
def no134 := no133
def no135 := no134
def no136 := no135
def no137 := no136
def no138 := no137
def no139 := no138
def no140 := no139
def no141 := no140
def no142 := no141
def no143 := no142
def no144 := no143
def no145 := no144
def no146 := no145
def no147 := no146
def no148 := no147
def no149 := no148
def no150 := no149
def no151 := no150
def no152 := no151
def no153 := no152
def no154 := no153
def no155 := no154
def no156 := no155
def no157 := no156
def no158 := no157
def no159 := no158
def no160 := no159
def nope : HP := fun _ => no160
abbrev PV := { v : Value // plainVal v = true ∧ v.cells = #[v] }
inductive SV
  | no
  | v (v : Value)
  | pl (x : PV)
  | adr (a : Addr)
  | box (i off : Nat)
  | lit (i n : Nat)
structure Bx where
  key : Nat
  ty : TypeId
  cells : List (Option Value)
  dirty : Bool
inductive T
  | e
  | n (l : T) (v : SV) (r : T)
def T.left : T → T
  | .e => .e
  | .n l _ _ => l
def T.val : T → SV
  | .e => .no
  | .n _ v _ => v
def T.right : T → T
  | .e => .e
  | .n _ _ r => r
def T.get : T → Nat → SV
  | .e, _ => .no
  | .n l v r, k => bif Nat.beq k 0 then v else bif Nat.beq (k % 2) 1 then l.get (k / 2) else r.get (k / 2 - 1)
def T.set : Nat → T → Nat → SV → T
  | 0, _, _, _ => .e
  | f + 1, t, k, v => bif Nat.beq k 0 then .n t.left v t.right else bif Nat.beq (k % 2) 1 then .n (T.set f t.left (k / 2) v) t.val t.right else .n t.left t.val (T.set f t.right (k / 2 - 1) v)
def T.keep : T → (Nat → Bool) → T
  | .e, _ => .e
  | .n l v r, D => .n (l.keep fun k => D (2 * k + 1)) (bif D 0 then .no else v) (r.keep fun k => D (2 * k + 2))
def T.map (f : SV → SV) : T → T
  | .e => .e
  | .n l v r => .n (l.map f) (f v) (r.map f)
structure St where
  tr : T
  bx : List Bx
def St.σ (st : St) (t : Nat) : SV := st.tr.get t
theorem T.get_eq (t : T) (k : Nat) : t.get k = if k = 0 then t.val else if k % 2 = 1 then t.left.get (k / 2) else t.right.get (k / 2 - 1) := by
  have hb : ∀ a b : Nat, Nat.beq a b = decide (a = b) := fun a b => by
    rw [Bool.eq_iff_iff, Nat.beq_eq, decide_eq_true_eq]
  cases t with
  | e =>
    show SV.no = if k = 0 then .no else if k % 2 = 1 then .no else .no
    split <;> first | rfl | (split <;> rfl)
  | n l v r =>
    show (bif Nat.beq k 0 then v else bif Nat.beq (k % 2) 1 then l.get (k / 2) else r.get (k / 2 - 1)) = _
    rw [hb, hb]
    by_cases h0 : k = 0
    · simp [h0, T.val]
    · by_cases h1 : k % 2 = 1 <;> simp [h0, h1, T.left, T.right]
theorem T.get_set : ∀ (f : Nat) (t : T) (k : Nat) (v : SV) (k' : Nat), (T.set f t k v).get k' = .no ∨ (k' = k ∧ (T.set f t k v).get k' = v) ∨ (k' ≠ k ∧ (T.set f t k v).get k' = t.get k') := by
  have hb : ∀ a b : Nat, Nat.beq a b = decide (a = b) := fun a b => by
    rw [Bool.eq_iff_iff, Nat.beq_eq, decide_eq_true_eq]
  intro f
  induction f with
  | zero => intro t k v k'; exact .inl rfl
  | succ f ih =>
    intro t k v k'
    have hs : T.set (f + 1) t k v = if k = 0 then .n t.left v t.right else if k % 2 = 1 then .n (T.set f t.left (k / 2) v) t.val t.right else .n t.left t.val (T.set f t.right (k / 2 - 1) v) := by
      show (bif Nat.beq k 0 then T.n t.left v t.right else bif Nat.beq (k % 2) 1 then T.n (T.set f t.left (k / 2) v) t.val t.right else T.n t.left t.val (T.set f t.right (k / 2 - 1) v)) = _
      rw [hb, hb]
      by_cases h0 : k = 0
      · simp [h0]
      · by_cases h1 : k % 2 = 1 <;> simp [h0, h1]
    rw [hs]
    by_cases h0 : k = 0
    · rw [if_pos h0]
      rw [T.get_eq]
      by_cases g0 : k' = 0
      · rw [if_pos g0]; exact .inr (.inl ⟨by omega, rfl⟩)
      · rw [if_neg g0]
        refine .inr (.inr ⟨by omega, ?_⟩)
        rw [T.get_eq t k', if_neg g0]; rfl
    · rw [if_neg h0]
      by_cases h1 : k % 2 = 1
      · rw [if_pos h1, T.get_eq]
        by_cases g0 : k' = 0
        · rw [if_pos g0]
          refine .inr (.inr ⟨by omega, ?_⟩)
          rw [T.get_eq t k', if_pos g0]; rfl
        · rw [if_neg g0]
          by_cases g1 : k' % 2 = 1
          · rw [if_pos g1]
            show (T.set f t.left (k / 2) v).get (k' / 2) = _ ∨ _ ∧ (T.set f t.left (k / 2) v).get (k' / 2) = _ ∨ _ ∧ (T.set f t.left (k / 2) v).get (k' / 2) = _
            rcases ih t.left (k / 2) v (k' / 2) with q | ⟨q1, q2⟩ | ⟨q1, q2⟩
            · exact .inl q
            · exact .inr (.inl ⟨by omega, q2⟩)
            · refine .inr (.inr ⟨fun e => q1 (by rw [e]), ?_⟩)
              rw [q2, T.get_eq t k', if_neg g0, if_pos g1]
          · rw [if_neg g1]
            refine .inr (.inr ⟨fun e => g1 (by rw [e]; exact h1), ?_⟩)
            rw [T.get_eq t k', if_neg g0, if_neg g1]; rfl
      · rw [if_neg h1, T.get_eq]
        by_cases g0 : k' = 0
        · rw [if_pos g0]
          refine .inr (.inr ⟨by omega, ?_⟩)
          rw [T.get_eq t k', if_pos g0]; rfl
        · rw [if_neg g0]
          by_cases g1 : k' % 2 = 1
          · rw [if_pos g1]
            refine .inr (.inr ⟨fun e => h1 (by rw [← e]; exact g1), ?_⟩)
            rw [T.get_eq t k', if_neg g0, if_pos g1]; rfl
          · rw [if_neg g1]
            show (T.set f t.right (k / 2 - 1) v).get (k' / 2 - 1) = _ ∨ _ ∧ (T.set f t.right (k / 2 - 1) v).get (k' / 2 - 1) = _ ∨ _ ∧ (T.set f t.right (k / 2 - 1) v).get (k' / 2 - 1) = _
            rcases ih t.right (k / 2 - 1) v (k' / 2 - 1) with q | ⟨q1, q2⟩ | ⟨q1, q2⟩
            · exact .inl q
            · exact .inr (.inl ⟨by omega, q2⟩)
            · refine .inr (.inr ⟨fun e => q1 (by rw [e]), ?_⟩)
              rw [q2, T.get_eq t k', if_neg g0, if_neg g1]
theorem T.get_keep : ∀ (t : T) (D : Nat → Bool) (k : Nat), (t.keep D).get k = if D k then .no else t.get k := by
  intro t
  induction t with
  | e => intro D k; show SV.no = if D k then .no else .no; split <;> rfl
  | n l v r ihl ihr =>
    intro D k
    rw [T.get_eq, T.get_eq (.n l v r) k]
    show (if k = 0 then (bif D 0 then .no else v) else if k % 2 = 1 then (l.keep fun k => D (2 * k + 1)).get (k / 2) else (r.keep fun k => D (2 * k + 2)).get (k / 2 - 1)) = _
    rw [ihl, ihr]
    by_cases h0 : k = 0
    · subst h0; simp only [if_true]; cases D 0 <;> rfl
    · rw [if_neg h0, if_neg h0]
      by_cases h1 : k % 2 = 1
      · rw [if_pos h1, if_pos h1, show 2 * (k / 2) + 1 = k by omega]; rfl
      · rw [if_neg h1, if_neg h1, show 2 * (k / 2 - 1) + 2 = k by omega]; rfl
theorem T.get_map {f : SV → SV} (hf : f .no = .no) : ∀ (t : T) (k : Nat), (t.map f).get k = f (t.get k) := by
  intro t
  induction t with
  | e => intro k; exact hf.symm
  | n l v r ihl ihr =>
    intro k
    rw [T.get_eq, T.get_eq (.n l v r) k]
    show (if k = 0 then f v else if k % 2 = 1 then (l.map f).get (k / 2) else (r.map f).get (k / 2 - 1)) = _
    rw [ihl, ihr]
    by_cases h0 : k = 0
    · rw [if_pos h0, if_pos h0]; rfl
    · rw [if_neg h0, if_neg h0]
      by_cases h1 : k % 2 = 1
      · rw [if_pos h1, if_pos h1]; rfl
      · rw [if_neg h1, if_neg h1]; rfl
def deep : Nat := 16
def InK (l : List Bx) (i : Nat) : Prop := ∃ e, e ∈ l ∧ e.key = i
def Rel (l : List Bx) (β : Nat → Nat) (x : Value) : SV → Prop
  | .no => True
  | .v v => x = v
  | .pl v => x = v.1
  | .adr a => x = .pointer (some a)
  | .box i off => InK l i → x = .pointer (some ⟨β i, off, none⟩)
  | .lit i n => InK l i → x = .slice (some ⟨β i, 0, none⟩) n n
def Known (c : Array Value) (l : List (Option Value)) : Prop := c.size = l.length ∧ ∀ (j : Nat) (v : Value), l[j]? = some (some v) → c[j]? = some v
def BoxOk (β : Nat → Nat) (L : H) (e : Bx) : Prop := ∃ c, L (β e.key) = some (.cells c e.ty (0, 0)) ∧ Known c e.cells
structure Ok (β : Nat → Nat) (st : St) (ρ : Env) (L : H) : Prop where
  slots : ∀ t, Rel st.bx β (ρ t) (st.σ t)
  boxes : ∀ e, e ∈ st.bx → BoxOk β L e
  inj : ∀ i j, InK st.bx i → InK st.bx j → β i = β j → i = j
  nd : (st.bx.map Bx.key).Nodup
def findB : List Bx → Nat → Option Bx
  | [], _ => none
  | e :: r, i => bif Nat.beq e.key i then some e else findB r i
def setB : List Bx → Nat → List (Option Value) → List Bx
  | [], _, _ => []
  | e :: r, i, c => bif Nat.beq e.key i then ⟨e.key, e.ty, c, true⟩ :: r else e :: setB r i c
def takeS : Nat → List (Option Value) → Option (List Value)
  | 0, _ => some []
  | n + 1, some v :: r => match takeS n r with | some l => some (v :: l) | none => none
  | _, _ => none
def grabO (l : List (Option Value)) (off n : Nat) : Option (List Value) := takeS n (l.drop off)
def layO : List (Option Value) → Nat → List Value → List (Option Value)
  | [], _, _ => []
  | _ :: r, 0, v :: vs => some v :: layO r 0 vs
  | c :: r, 0, [] => c :: r
  | c :: r, n + 1, vs => c :: layO r n vs
def SV.is (s : SV) (v : Value) : Prop := match s with | .v u => v = u | .pl x => v = x.1 | .adr a => v = .pointer (some a) | _ => False
structure Ty : Type 1 where
  T : Type
  val : T → Value
  cells : T → List Value
  dec : SV → Option T
  sv : T → SV
  n : Nat
  agg : Bool
  law : ∀ s x, dec s = some x → s.is (val x)
  svl : ∀ x, (sv x).is (val x)
  hc : (agg = true ∧ ∀ x, val x = .agg (cells x).toArray ∧ (cells x).length = n) ∨ (agg = false ∧ ∀ x, cells x = [val x])
def tInt (k : IntKind) : Ty := ⟨Int, .int k, cInt k, fun | .v (.int j n) => bif decide (j = k) then some n else none | _ => none, fun x => .v (.int k x), 1, false,
  fun s x e => (by
    split at e
    · rename_i j n
      cases h : decide (j = k) <;> rw [h] at e
      · cases e
      · cases e; have := of_decide_eq_true h; subst this; rfl
    · cases e), fun _ => rfl, .inr ⟨rfl, fun _ => rfl⟩⟩
def tBool : Ty := ⟨Bool, .bool, cBool, fun | .v (.bool b) => some b | _ => none, fun x => .v (.bool x), 1, false, fun s x e => (by split at e <;> cases e; rfl), fun _ => rfl, .inr ⟨rfl, fun _ => rfl⟩⟩
def tStr : Ty := ⟨ByteArray, .string, cStr, fun | .v (.string b) => some b | _ => none, fun x => .v (.string x), 1, false, fun s x e => (by split at e <;> cases e; rfl), fun _ => rfl, .inr ⟨rfl, fun _ => rfl⟩⟩
def tSl : Ty := ⟨Sl, Sl.val, cSl, fun | .v (.slice a l c) => some ⟨a, l, c⟩ | _ => none, fun x => .v x.val, 1, false, fun s x e => (by split at e <;> cases e; rfl), fun _ => rfl, .inr ⟨rfl, fun _ => rfl⟩⟩
def tPtr : Ty := ⟨Option Addr, .pointer, cPtr, fun | .v (.pointer p) => some p | .adr a => some (some a) | _ => none, fun x => .v (.pointer x), 1, false, fun s x e => (by split at e <;> cases e <;> rfl), fun _ => rfl, .inr ⟨rfl, fun _ => rfl⟩⟩
def tMap : Ty := ⟨Option Nat, .map, cMap, fun | .v (.map p) => some p | _ => none, fun x => .v (.map x), 1, false, fun s x e => (by split at e <;> cases e; rfl), fun _ => rfl, .inr ⟨rfl, fun _ => rfl⟩⟩
def cPV (x : PV) : List Value := [x.1]
def asPV : Value → Option PV
  | .func a b c => some ⟨.func a b c, rfl, rfl⟩
  | .nilFunc => some ⟨.nilFunc, rfl, rfl⟩
  | .iface a b => some ⟨.iface a b, rfl, rfl⟩
  | .nilIface => some ⟨.nilIface, rfl, rfl⟩
  | _ => none
def tPV : Ty := ⟨PV, Subtype.val, cPV, fun | .pl x => some x | .v w => asPV w | _ => none, SV.pl, 1, false,
  fun s x e => (by
    split at e
    · cases e; rfl
    · unfold asPV at e; split at e <;> cases e <;> rfl
    · cases e), fun _ => rfl, .inr ⟨rfl, fun _ => rfl⟩⟩
def tAdr : Ty := ⟨Addr, fun a => .pointer (some a), fun a => [.pointer (some a)], fun | .adr a => some a | .v (.pointer (some a)) => some a | _ => none, SV.adr, 1, false, fun s x e => (by split at e <;> cases e <;> rfl), fun _ => rfl, .inr ⟨rfl, fun _ => rfl⟩⟩
def tyOf : List (Nat × Ty) → Nat → Option Ty
  | [], _ => none
  | (i, τ) :: r, t => bif Nat.beq i t then some τ else tyOf r t
def Den : List Ty → Type
  | [] => Unit
  | [t] => t.T
  | t :: u :: r => t.T × Den (u :: r)
def valsD : (l : List Ty) → Den l → List Value
  | [], _ => []
  | [t], x => [t.val x]
  | t :: u :: r, x => t.val x.1 :: valsD (u :: r) x.2
def svsD : (l : List Ty) → Den l → List SV
  | [], _ => []
  | [t], x => [t.sv x]
  | t :: u :: r, x => t.sv x.1 :: svsD (u :: r) x.2
def decs : (l : List Ty) → List SV → Option (Den l)
  | [], [] => some ()
  | [t], [s] => t.dec s
  | t :: u :: r, s :: ss => match t.dec s, decs (u :: r) ss with | some x, some y => some (x, y) | _, _ => none
  | _, _ => none
structure Spec (P : Program) : Type 1 where
  f : FuncId
  A : List Ty
  R : List Ty
  pure : Bool
  m : Den A → (Den R → HP) → HP
  ok : ∀ a K h, m a K h → ACall P f (valsD A a).toArray h (fun v h' => ∃ r, v = outV (valsD R r) ∧ K r h') noP
  callee : ∃ fn, Callee P f fn
structure Cx (P : Program) : Type 1 where
  ty : List (Nat × Ty)
  fs : List (Spec P)
  own : List Nat
  ents : List (Nat × Nat × Nat)
  mixed : P.follows .mixedOrders = true
def spec {P : Program} : List (Spec P) → FuncId → Option (Spec P)
  | [], _ => none
  | s :: r, f => bif Nat.beq s.f f then some s else spec r f
inductive Eff : Type 1
  | bad
  | ret (s : SV)
  | ask (X : Type) (w : (X → HP) → HP) (f : X → SV)
  | own (s : SV)
  | mem (X : Type) (w : (X → HP) → HP) (f : X → SV)
  | box (t : TypeId) (c : List Value) (lit : Option Nat)
  | set (i : Nat) (c : List (Option Value))
def St.put (st : St) (d : Option Tmp) (s : SV) : St := match d with
  | none => st
  | some d => ⟨T.set deep st.tr d s, st.bx⟩
def clr (i : Nat) : SV → SV
  | .box j o => bif Nat.beq j i then .no else .box j o
  | .lit j n => bif Nat.beq j i then .no else .lit j n
  | s => s
def litSV (d : Nat) : Option Nat → SV
  | none => .box d 0
  | some n => .lit d n
def run (how : Nat) (e : Eff) (d : Option Tmp) (st : St) (k : St → HP) : HP := match e with
  | .bad => nope
  | .ret s => k (st.put d s)
  | .own s => match Nat.beq how 0 with
    | true => nope
    | false => k (st.put d s)
  | .ask _ w f => match Nat.beq how 1 with
    | true => nope
    | false => w fun x => k (st.put d (f x))
  | .mem _ w f => match Nat.ble 2 how with
    | false => nope
    | true => w fun x => k (st.put d (f x))
  | .box t c lit => match Nat.ble 2 how with
    | false => nope
    | true => match d with
      | none => nope
      | some d => match findB st.bx d with
        | some _ => nope
        | none => k ⟨T.set deep (st.tr.map (clr d)) d (litSV d lit), ⟨d, t, c.map some, false⟩ :: st.bx⟩
  | .set i c => match Nat.beq how 3 with
    | true => k ⟨(st.put d .no).tr, setB st.bx i c⟩
    | false => nope
def sv (st : St) : Operand → SV
  | .tmp t => st.σ t
  | .const v => .v v
  | .global g => .adr ⟨g, 0, none⟩
  | .func f => .v (.func (.func f) #[] #[])
def plains (s : SV) : Option (List Value) := match s with
  | .v (.agg c) => bif c.toList.all plainVal then some c.toList else none
  | .v (.tuple _) => none
  | .v v => some [v]
  | .pl x => some [x.1]
  | .adr a => some [.pointer (some a)]
  | _ => none
def tyOk (P : Program) (t : TypeId) (τ : Ty) : Bool := match P.underlying t, P.info? t with
  | some td, some ti => match τ.agg with
    | true => aggB td && Nat.beq ti.size τ.n
    | false => !aggB td
  | _, _ => false
def mv : SV → Eff
  | .no => .bad
  | s => .ret s
section effs
variable (P : Program) (X : Cx P) (st : St)
def eLoad (t : TypeId) (x : Operand) : Eff := match sv st x with
  | .box i off => match findB st.bx i, P.underlying t, P.info? t with
    | some e, some td, some ti => match aggB td with
      | true => match grabO e.cells off ti.size with | some l => .own (.v (.agg l.toArray)) | none => .bad
      | false => match grabO e.cells off 1 with | some [v] => .own (.v v) | _ => .bad
    | _, _, _ => .bad
  | .adr a => match tyOf X.ty t with
    | some τ => match tyOk P t τ with | true => .mem τ.T (mLoad τ.cells a) τ.sv | false => .bad
    | none => .bad
  | _ => .bad
def eStore (t : TypeId) (x y : Operand) : Eff := match plains (sv st y), P.info? t with
  | some l, some ti => match Nat.beq l.length ti.size with
    | true => match sv st x with
      | .box i off => match findB st.bx i with
        | some e => match Nat.ble (off + l.length) e.cells.length with | true => .set i (layO e.cells off l) | false => .bad
        | none => .bad
      | .adr a => .mem Unit (fun k => mStore a l (k ())) (fun _ => .no)
      | _ => .bad
    | false => .bad
  | _, _ => .bad
def newE (d : Option Tmp) (t : TypeId) (c : Array Value) : Eff := match d with
  | some d => match memB X.own d with
    | true => .box t c.toList none
    | false => .mem Addr (mNew t c) .adr
  | none => .bad
def eAlloc (d : Option Tmp) (t : TypeId) : Eff := match P.info? t with
  | some ti => match ti.zero with | some z => newE P X d t z.cells | none => .bad
  | none => .bad
def eBox (d : Option Tmp) (t : TypeId) (x : Operand) : Eff := match sv st x with
  | .v w => newE P X d t w.cells
  | .pl x => newE P X d t #[x.1]
  | .adr a => newE P X d t #[.pointer (some a)]
  | _ => .bad
def ePick (c x y : Operand) : Eff := match sv st c with
  | .v (.bool b) => mv (bif b then sv st x else sv st y)
  | _ => .bad
def eNil (x : Operand) : Eff := match sv st x with
  | .adr a => .ret (.adr a)
  | .v (.pointer p) => .ask Addr (mDeref p) .adr
  | _ => .bad
def eFieldAddr (t : TypeId) (x : Operand) (i : Nat) : Eff := match P.underlying t with
  | some (.struct fs) => match fs.toList[i]? with
    | some f => match P.info? f.type with
      | some ti => match Nat.beq ti.size 0 with
        | false => match sv st x with
          | .adr a => .ret (.adr (a.add f.offset))
          | .box i off => match findB st.bx i with | some _ => .ret (.box i (off + f.offset)) | none => .bad
          | _ => .bad
        | true => .bad
      | none => .bad
    | none => .bad
  | _ => .bad
def eField (t : TypeId) (x : Operand) (i : Nat) : Eff := match P.underlying t, sv st x with
  | some (.struct fs), .v (.agg cs) => match fs.toList[i]? with
    | some f => match P.underlying f.type, P.info? f.type with
      | some td, some ti => match aggB td with
        | true => .ret (.v (.agg ((cs.toList.drop f.offset).take ti.size).toArray))
        | false => match cs.toList[f.offset]? with | some v => .ret (.v v) | none => .bad
      | _, _ => .bad
    | none => .bad
  | _, _ => .bad
def eExtract (x : Operand) (i : Nat) : Eff := match sv st x with
  | .v (.tuple vs) => match vs.toList[i]? with | some v => .ret (.v v) | none => .bad
  | _ => .bad
def eUn (op : UnOp) (x : Operand) : Eff := match op, sv st x with
  | .not, .v (.bool b) => .ret (.v (.bool !b))
  | .neg, .v (.int k a) => .ret (.v (.int k (iSub k 0 a)))
  | .xor, .v (.int k a) => .ret (.v (.int k (iNot k a)))
  | _, _ => .bad
def eConv (s t : TypeId) (x : Operand) : Eff := match P.underlying s, P.underlying t, sv st x with
  | some _, some (.int k), .v (.int _ a) => .ret (.v (.int k (k.wrap a)))
  | some (.slice e), some .string, .v (.slice a l c) => match P.underlying e with
    | some (.int .u8) => .mem ByteArray (mText ⟨a, l, c⟩) (fun x => .v (.string x))
    | _ => .bad
  | some .string, some (.slice e), .v (.string b) => match P.underlying e with
    | some (.int .u8) => .mem Sl (mBytes e b) (fun x => .v x.val)
    | _ => .bad
  | some (.slice _), some (.slice e), .v (.slice a l c) => match decide (s = t), P.underlying e with
    | true, some (.int .u8) => .mem Sl (mMark ⟨a, l, c⟩) (fun x => .v x.val)
    | _, _ => .bad
  | _, _, _ => .bad
def partV (P : Program) (f : Field) (cs : Array Value) : Option Value := match P.underlying f.type, P.info? f.type with
  | some td, some ti => match aggB td with
    | true => some (.agg (cs.extract f.offset (f.offset + ti.size)))
    | false => cs.toList[f.offset]?
  | _, _ => none
def eqFs (P : Program) (eq : TypeId → Value → Value → Option Bool) : List Field → Array Value → Array Value → Option Bool
  | [], _, _ => some true
  | f :: r, xs, ys => match f.name == "_", partV P f xs, partV P f ys with
    | false, some x, some y => match eq f.type x y, eqFs P eq r xs ys with
      | some p, some q => some (p && q)
      | _, _ => none
    | _, _, _ => none
def eqV (P : Program) : Nat → TypeId → Value → Value → Option Bool
  | 0, _, _, _ => none
  | n + 1, t, x, y => match P.underlying t with
    | some (.int _) => match x, y with | .int j a, .int k b => (match decide (j = k) with | true => some (decide (a = b)) | false => none) | _, _ => none
    | some .bool => match x, y with | .bool a, .bool b => some (a == b) | _, _ => none
    | some .string => match x, y with | .string a, .string b => some (a == b) | _, _ => none
    | some (.struct fs) => match P.stoodInHeld t, x, y with
      | false, .agg xs, .agg ys => eqFs P (eqV P n) fs.toList xs ys
      | _, _, _ => none
    | _ => none
def eqW (P : Program) (n : Nat) (t : TypeId) (x y : Value) : Option Bool := match P.underlying t with
  | some (.array len e) => match P.info? e, x, y with
    | some ti, .agg xs, .agg ys => eqFs P (eqV P n) (elems e ti.size (List.range len)) xs ys
    | _, _, _ => none
  | _ => eqV P n t x y
def isNilConst : Operand → Bool
  | .const (.pointer none) | .const (.map none) => true
  | .const (.slice none _ _) => true
  | _ => false
def valOf? : SV → Option Value
  | .v v => some v
  | .pl x => some x.1
  | .adr a => some (.pointer (some a))
  | _ => none
def isNilI : Operand → Bool
  | .const .nilIface => true
  | _ => false
def eNilI (op : BinOp) (t : TypeId) (y : Operand) (fv : Value) : Eff := match isNilI y, P.underlying t, op with
  | true, some (.interface _), .eql => .ask Bool (mIsNil fv) (fun b => .v (.bool b))
  | true, some (.interface _), .neq => .ask Bool (mIsNil fv) (fun b => .v (.bool (!b)))
  | _, _, _ => .bad
def eBin (op : BinOp) (t : TypeId) (x y : Operand) : Eff := match sv st x, sv st y with
  | .v (.int k a), .v (.int j b) => match op with
    | .shl => match y with
      | .const (.int _ n) => (match decide (0 ≤ n) with | true => .ret (.v (.int k (iShl k a n))) | false => .bad)
      | _ => .ask Unit (fun q => mNN b (q ())) (fun _ => .v (.int k (iShl k a b)))
    | .shr => match y with
      | .const (.int _ n) => (match decide (0 ≤ n) with | true => .ret (.v (.int k (iShr k a n))) | false => .bad)
      | _ => .ask Unit (fun q => mNN b (q ())) (fun _ => .v (.int k (iShr k a b)))
    | .quo => match decide (k = j) with
      | true => (match y with
        | .const (.int _ n) => (match decide (n = 0) with | false => .ret (.v (.int k (iQuo k a n))) | true => .bad)
        | _ => .ask Unit (fun q => mNZ b (q ())) (fun _ => .v (.int k (iQuo k a b))))
      | false => .bad
    | .rem => match decide (k = j) with
      | true => (match y with
        | .const (.int _ n) => (match decide (n = 0) with | false => .ret (.v (.int k (iRem k a n))) | true => .bad)
        | _ => .ask Unit (fun q => mNZ b (q ())) (fun _ => .v (.int k (iRem k a b))))
      | false => .bad
    | op => match decide (k = j) with
      | true => (match binI op k a b with | some v => .ret (.v v) | none => .bad)
      | false => .bad
  | .v (.string a), .v (.string b) => match op with
    | .add => .ask ByteArray (mCat a b) (fun x => .v (.string x))
    | op => (match binS op a b with | some v => .ret (.v v) | none => .bad)
  | .v (.bool a), .v (.bool b) => match P.underlying t, op with
    | some .bool, .eql => .ret (.v (.bool (a == b)))
    | some .bool, .neq => .ret (.v (.bool (!(a == b))))
    | _, _ => .bad
  | .v (.pointer p), .v (.pointer _) => match isNilConst y, P.underlying t, op with
    | true, some (.pointer _), .eql => .ret (.v (.bool p.isNone))
    | true, some (.pointer _), .neq => .ret (.v (.bool (!p.isNone)))
    | _, _, _ => .bad
  | .adr p, .v (.pointer _) => match isNilConst y, P.underlying t, op with
    | true, some (.pointer _), .eql => .ret (.v (.bool (some p).isNone))
    | true, some (.pointer _), .neq => .ret (.v (.bool (!(some p).isNone)))
    | _, _, _ => .bad
  | .v (.slice p _ _), .v (.slice _ _ _) => match isNilConst y, P.underlying t, op with
    | true, some (.slice _), .eql => .ret (.v (.bool p.isNone))
    | true, some (.slice _), .neq => .ret (.v (.bool (!p.isNone)))
    | _, _, _ => .bad
  | .v (.map p), .v (.map _) => match isNilConst y, P.underlying t, op with
    | true, some (.map _ _), .eql => .ret (.v (.bool p.isNone))
    | true, some (.map _ _), .neq => .ret (.v (.bool (!p.isNone)))
    | _, _, _ => .bad
  | .v (.agg xs), .v (.agg ys) => match P.eqGuardType P.depth t, eqW P 40 t (.agg xs) (.agg ys), op with
    | false, some b, .eql => .ret (.v (.bool b))
    | false, some b, .neq => .ret (.v (.bool (!b)))
    | _, _, _ => .bad
  | a, .v .nilIface => match valOf? a with | some fv => eNilI P op t y fv | none => .bad
  | _, _ => .bad
def valsOf : List Operand → Option (List Value)
  | [] => some []
  | x :: r => match valOf? (sv st x), valsOf r with | some v, some l => some (v :: l) | _, _ => none
def partsOf : List (Nat × Operand) → Option (List (Nat × Value))
  | [] => some []
  | (i, x) :: r => match valOf? (sv st x), partsOf r with | some v, some l => some ((i, v) :: l) | _, _ => none
def eBuild (t : TypeId) (l : List (Nat × Operand)) : Eff := match P.underlying t, P.info? t with
  | some (.struct fs), some ti => match ti.zero, sizesOf P fs.toList, partsOf st l with
    | some z, some pl, some vl => match Instr.fill (fun i => pl.toArray[i]?) z.cells vl with
      | some cs => .ret (.v (.agg cs))
      | none => .bad
    | _, _, _ => .bad
  | some (.array _ e), some ti => match ti.zero, P.info? e, partsOf st l with
    | some z, some te, some vl => match Instr.fill (fun i => some (i * te.size, te.size)) z.cells vl with
      | some cs => .ret (.v (.agg cs))
      | none => .bad
    | _, _, _ => .bad
  | _, _ => .bad
def eLit (d : Option Tmp) (t : TypeId) (n : Nat) (l : List (Nat × Operand)) : Eff := match P.underlying t with
  | some (.slice e) => match P.info? e with
    | some ti => match ti.zero, partsOf st l, Nat.ble (n * ti.size) (2 ^ 24) with
      | some z, some vl, true => match Instr.fill (fun i => some (i * ti.size, ti.size)) ((List.range (n * ti.size)).map fun j => (if n * ti.size = 0 then #[] else z.cells)[j % (if n * ti.size = 0 then #[] else z.cells).size]!).toArray vl with
        | some cs => match d with
          | some d => match memB X.own d with
            | true => .box e cs.toList (some n)
            | false => .mem Addr (mNew e cs) (fun a => .v (.slice (some a) n n))
          | none => .bad
        | none => .bad
      | _, _, _ => .bad
    | none => .bad
  | _ => .bad
def eIdxAddr (t : TypeId) (x j : Operand) : Eff := match P.underlying t, sv st x, sv st j with
  | some (.slice e), .v (.slice a l c), .v (.int _ i) => match P.info? e with
    | some ti => .ask Addr (mIdx ⟨a, l, c⟩ i ti.size) .adr
    | none => .bad
  | some (.array n e), .adr a, .v (.int _ i) => match P.info? e with
    | some ti => .ask Addr (mIdx ⟨some a, n, n⟩ i ti.size) .adr
    | none => .bad
  | _, _, _ => .bad
def chunks (sz : Nat) : Nat → List Value → List (List Value)
  | 0, _ => []
  | n + 1, l => l.take sz :: chunks sz n (l.drop sz)
def decA (τ : Ty) : List (List Value) → Option (List τ.T)
  | [] => some []
  | c :: r => match τ.dec (.v (match τ.agg with | true => .agg c.toArray | false => c.headD undef)), decA τ r with
    | some x, some l => some (x :: l)
    | _, _ => none
def eIdx (t : TypeId) (x j : Operand) : Eff := match P.underlying t, sv st x, sv st j with
  | some .string, .v (.string s), .v (.int _ i) => .ask Int (mByte s i) (fun x => .v (.int .u8 x))
  | some (.array n e), .v (.agg cs), .v (.int _ i) => match P.info? e, tyOf X.ty e with
    | some te, some τ => match tyOk P e τ && (τ.agg || Nat.beq te.size 1 && Nat.beq cs.toList.length n), decA τ (chunks te.size n cs.toList) with
      | true, some l => .ask τ.T (mNth l i) τ.sv
      | _, _ => .bad
    | _, _ => .bad
  | _, _, _ => .bad
def isIface : TypeDesc → Bool
  | .interface _ => true
  | _ => false
def eIface (t : TypeId) (x : Operand) : Eff := match P.underlying t, valOf? (sv st x) with
  | some td, some v => match isIface td with | false => .ret (.v (.iface t v)) | true => .bad
  | _, _ => .bad
def eAssert (t : TypeId) (x : Operand) (ok : Bool) : Eff := match P.underlying t, P.info? t, tyOf X.ty t, valOf? (sv st x) with
  | some td, some ti, some τ, some fv => match isIface td, ok, ti.zero with
    | false, true, some z => match τ.dec (.v z) with
      | some z0 => .ask (τ.T × Bool) (mAssert τ.val z0 t fv) (fun r => .v (.tuple #[τ.val r.1, .bool r.2]))
      | none => .bad
    | false, false, _ => .ask τ.T (mAssert1 τ.val t fv) τ.sv
    | _, _, _ => .bad
  | _, _, _, _ => .bad
def bnd? (dflt : Int) : Option Operand → Option Int
  | none => some dflt
  | some x => match sv st x with | .v (.int _ n) => some n | _ => none
def eCut (t : TypeId) (x : Operand) (l r : Option Operand) : Eff := match P.underlying t, sv st x with
  | some (.slice e), .v (.slice a n c) => match P.info? e, bnd? st 0 l, bnd? st n r with
    | some ti, some lo, some hi => .ask Sl (mCut ⟨a, n, c⟩ lo hi ti.size) (fun s => .v s.val)
    | _, _, _ => .bad
  | some (.array n e), .adr a => match P.info? e, bnd? st 0 l, bnd? st n r with
    | some ti, some lo, some hi => .ask Sl (mCut ⟨some a, n, n⟩ lo hi ti.size) (fun s => .v s.val)
    | _, _, _ => .bad
  | some .string, .v (.string s) => match bnd? st 0 l, bnd? st s.size r with
    | some lo, some hi => .ask ByteArray (mSub s lo hi) (fun s => .v (.string s))
    | _, _ => .bad
  | _, _ => .bad
def eCut3 (t : TypeId) (x : Operand) (l : Option Operand) (r m : Operand) : Eff := match P.underlying t, sv st x with
  | some (.slice e), .v (.slice a n c) => match P.info? e, bnd? st 0 l, sv st r, sv st m with
    | some ti, some lo, .v (.int _ hi), .v (.int _ mx) => .ask Sl (mCut3 ⟨a, n, c⟩ lo hi mx ti.size) (fun s => .v s.val)
    | _, _, _, _ => .bad
  | _, _ => .bad
def eMakeSl (t : TypeId) (x y : Operand) : Eff := match P.underlying t, sv st x, sv st y with
  | some (.slice e), .v (.int _ n), .v (.int _ c) => match P.info? e with
    | some ti => match ti.zero with
      | some z => match Nat.beq z.cells.size ti.size with
        | true => .mem Sl (mMake e ti.bytes z.cells n c) (fun s => .v s.val)
        | false => .bad
      | none => .bad
    | none => .bad
  | _, _, _ => .bad
def flatC : Value → Bool
  | .int _ _ => true
  | .string _ => true
  | .bool _ => true
  | _ => false
def flatV : Value → Bool
  | .agg cs => cs.toList.all flatC
  | v => flatC v
def keyOk (kt : TypeId) (kv : Value) : Bool := match eqV P 40 kt kv kv with
  | some _ => flatV kv
  | none => false
def entTy : List (Nat × Nat × Nat) → Nat → Option (Nat × Nat)
  | [], _ => none
  | (i, p) :: r, d => bif Nat.beq i d then some p else entTy r d
def eLookup (t : TypeId) (x key : Operand) (ok : Bool) : Eff := match P.underlying t, sv st x, valOf? (sv st key) with
  | some (.map kt et), .v (.map m), some kv => match keyOk P kt kv, P.info? et, tyOf X.ty et with
    | true, some ti, some τ => match ti.zero with
      | some z => match τ.dec (.v z) with
        | some z0 => match ok with
          | true => .mem (τ.T × Bool) (mLookup (eqV P 40 kt) τ.val z0 m kv) (fun r => .v (.tuple #[τ.val r.1, .bool r.2]))
          | false => .mem (τ.T × Bool) (mLookup (eqV P 40 kt) τ.val z0 m kv) (fun r => τ.sv r.1)
        | none => .bad
      | none => .bad
    | _, _, _ => .bad
  | _, _, _ => .bad
def eMapSet (t : TypeId) (x key val : Operand) : Eff := match P.underlying t, sv st x, valOf? (sv st key), valOf? (sv st val) with
  | some (.map kt _), .v (.map m), some kv, some w => match keyOk P kt kv with
    | true => .mem Unit (fun k => mMapSet (eqV P 40 kt) m kv w (k ())) (fun _ => .no)
    | false => .bad
  | _, _, _, _ => .bad
def eRange (t : TypeId) (x : Operand) : Eff := match P.underlying t, sv st x with
  | some (.map _ _), .v (.map m) => .mem Addr (mRange m) .adr
  | _, _ => .bad
def eNext (x : Operand) : Eff := match sv st x with
  | .adr a => .mem (Bool × List Value) (mNext a) (fun r => .v (.tuple ⟨.bool r.1 :: r.2⟩))
  | _ => .bad
def eEntry (d : Option Tmp) (x : Operand) : Eff := match d, sv st x with
  | some d, .adr a => match entTy X.ents d with
    | some (kt, et) => match tyOf X.ty kt, tyOf X.ty et with
      | some τ, some σ => .mem (τ.T × σ.T) (mEntry τ.val σ.val a) (fun r => .v (.tuple #[τ.val r.1, σ.val r.2]))
      | _, _ => .bad
    | none => .bad
  | _, _ => .bad
def eFunc (fn : Fn) (first cap : List Operand) : Eff := match fn, valsOf st first, valsOf st cap with
  | .func f, some fl, some vl => .ret (.v (.func (.func f) fl.toArray vl.toArray))
  | _, _, _ => .bad
def eBuiltin (b : Builtin) (args : List Operand) (ts : List TypeId) : Eff := match b, args, ts with
  | .len, [x], [t] => match P.underlying t, sv st x with
    | some .string, .v (.string s) => .ret (.v (.int .i64 s.size))
    | some (.slice _), .v (.slice _ l _) => .ret (.v (.int .i64 l))
    | some (.map _ _), .v (.map m) => .mem Int (mMapLen m) (fun n => .v (.int .i64 n))
    | _, _ => .bad
  | .clear, [x], [t] => match P.underlying t, sv st x with
    | some (.slice e), .v (.slice a l c) => match P.info? e with
      | some ti => match ti.zero with
        | some z => match z.cells.toList.all plainVal with
          | true => .mem Unit (fun k => mClear z.cells ⟨a, l, c⟩ (k ())) (fun _ => .no)
          | false => .bad
        | none => .bad
      | none => .bad
    | _, _ => .bad
  | .copy, [x, y], [t, _] => match P.underlying t, sv st x, sv st y with
    | some (.slice e), .v (.slice a l c), .v (.slice a' l' c') => match P.info? e with
      | some ti => .mem Int (mCopy ti.size ⟨a, l, c⟩ ⟨a', l', c'⟩) (fun n => .v (.int .i64 n))
      | none => .bad
    | _, _, _ => .bad
  | .delete, [x, y], [t, _] => match P.underlying t, sv st x, valOf? (sv st y) with
    | some (.map kt _), .v (.map m), some kv => match keyOk P kt kv with
      | true => .mem Unit (fun k => mMapDel (eqV P 40 kt) m kv (k ())) (fun _ => .no)
      | false => .bad
    | _, _, _ => .bad
  | .min, [x, y], _ => match sv st x, sv st y with
    | .v (.int k a), .v (.int j b) => (match decide (k = j) with | true => .ret (.v (.int k (iMin a b))) | false => .bad)
    | _, _ => .bad
  | .max, [x, y], _ => match sv st x, sv st y with
    | .v (.int k a), .v (.int j b) => (match decide (k = j) with | true => .ret (.v (.int k (iMax a b))) | false => .bad)
    | _, _ => .bad
  | .append, [x, y], [t, t'] => match P.underlying t, P.underlying t', sv st x with
    | some (.slice e), some (.slice _), .v (.slice a l c) => match P.info? e with
      | some ti => match ti.zero, Nat.beq ti.bytes 0 with
        | some z, false => match sv st y with
          | .lit i n => match findB st.bx i with
            | some b => match grabO b.cells 0 (n * ti.size) with
              | some new => (match new.all plainVal with | true => .mem Sl (mApp e ti.size ti.bytes z.cells n new ⟨a, l, c⟩) (fun s => .v s.val) | false => .bad)
              | none => .bad
            | none => .bad
          | .v (.slice a' l' c') => .mem Sl (mAppend e ti.size ti.bytes z.cells ⟨a, l, c⟩ ⟨a', l', c'⟩) (fun s => .v s.val)
          | _ => .bad
        | _, _ => .bad
      | none => .bad
    | _, _, _ => .bad
  | _, _, _ => .bad
def svsOf : List Operand → List SV
  | [] => []
  | x :: r => sv st x :: svsOf r
def resTys (P : Program) (l : List (Nat × Ty)) (t : TypeId) : Option (List Ty) := match P.underlying t with
  | some (.tuple ts) => ts.toList.mapM (tyOf l)
  | _ => match tyOf l t with | some τ => some [τ] | none => none
def eCall (o : Oper) (c : Call) : Eff := match c.callee with
  | .builtin b => eBuiltin P st b c.args.toList c.argTypes.toList
  | .value (.func f) => match spec X.fs f with
    | some s => match decs s.A (svsOf st c.args.toList) with
      | some a => match s.pure with
        | true => .ask (Den s.R) (mPure (s.m a)) (fun r => .v (outV (valsD s.R r)))
        | false => .mem (Den s.R) (s.m a) (fun r => .v (outV (valsD s.R r)))
      | none => .bad
    | none => .bad
  | .value x => match valOf? (sv st x), valsOf st c.args.toList, resTys P X.ty o.type with
    | some fv, some vl, some R => .mem (Den R) (mCallV P (fun r => outV (valsD R r)) fv vl) (fun r => .v (outV (valsD R r)))
    | _, _, _ => .bad
  | .invoke x name => match valOf? (sv st x), valsOf st c.args.toList, resTys P X.ty o.type with
    | some fv, some vl, some R => .mem (Den R) (mInvoke P (fun r => outV (valsD R r)) name fv vl) (fun r => .v (outV (valsD R r)))
    | _, _, _ => .bad
def effOf (o : Oper) : Eff := match o.op with
  | .move x => mv (sv st x)
  | .assign x => mv (sv st x)
  | .pick c x y => ePick st c x y
  | .load t x => eLoad P X st t x
  | .store t x y => eStore P st t x y
  | .alloc t => eAlloc P X o.dst t
  | .box t x => eBox P X st o.dst t x
  | .nilCheck x => eNil st x
  | .fieldAddr t x i => eFieldAddr P st t x i
  | .field t x i => eField P st t x i
  | .extract x i => eExtract st x i
  | .unOp op _ x => eUn st op x
  | .binOp op t x y _ => eBin P st op t x y
  | .convert s t x => eConv P st s t x
  | .build t l => eBuild P st t l.toList
  | .buildSlice t n l => eLit P X st o.dst t n l.toList
  | .indexAddr t x j => eIdxAddr P st t x j
  | .index t x j => eIdx P X st t x j
  | .slice t x l r none => eCut P st t x l r
  | .slice t x l (some r) (some m) => eCut3 P st t x l r m
  | .makeSlice t x y => eMakeSl P st t x y
  | .makeMap _ none => .mem (Option Nat) mMakeMap (fun r => .v (.map r))
  | .lookup t x y ok => eLookup P X st t x y ok
  | .mapUpdate t x y z => eMapSet P st t x y z
  | .insert t x y z => eMapSet P st t x y z
  | .makeInterface t x => eIface P st t x
  | .typeAssert x _ t ok => eAssert P X st t x ok
  | .range t x => eRange P st t x
  | .next x false => eNext st x
  | .entry x => eEntry P X st o.dst x
  | .makeFunc fn first cap => eFunc st fn first.toList cap.toList
  | .call c => eCall P X st o c
  | _ => .bad
end effs
theorem findB_some : ∀ {l : List Bx} {i : Nat} {e : Bx}, findB l i = some e → e ∈ l ∧ e.key = i := by
  intro l
  induction l with
  | nil => intro i e h; cases h
  | cons x r ih =>
    intro i e h
    simp only [findB] at h
    cases hb : Nat.beq x.key i <;> rw [hb] at h
    · obtain ⟨h1, h2⟩ := ih h
      exact ⟨List.mem_cons_of_mem _ h1, h2⟩
    · cases h
      exact ⟨List.mem_cons_self .., by rwa [Nat.beq_eq] at hb⟩
theorem takeS_some : ∀ {n : Nat} {l : List (Option Value)} {vs : List Value}, takeS n l = some vs → vs.length = n ∧ ∀ (i : Nat) (v : Value), vs[i]? = some v → l[i]? = some (some v) := by
  intro n
  induction n with
  | zero => intro l vs h; cases l <;> cases h <;> exact ⟨rfl, fun i v e => by simp at e⟩
  | succ n ih =>
    intro l vs h
    match l, h with
    | some v :: r, h =>
      simp only [takeS] at h
      split at h
      · rename_i l' e
        cases h
        obtain ⟨h1, h2⟩ := ih e
        refine ⟨by simp [h1], fun i w hi => ?_⟩
        cases i with
        | zero => simpa using hi
        | succ i => simpa using h2 i w (by simpa using hi)
      · cases h
theorem grabO_grab {c : Array Value} {l : List (Option Value)} {off n : Nat} {vs : List Value} (k : Known c l) (h : grabO l off n = some vs) : grab c off n = some vs := by
  obtain ⟨h1, h2⟩ := takeS_some h
  subst h1
  refine grab_iff.2 fun i v hi => k.2 _ _ ?_
  have := h2 i v hi
  rw [List.getElem?_drop] at this
  exact this
theorem layO_len : ∀ (l : List (Option Value)) (off : Nat) (vs : List Value), (layO l off vs).length = l.length := by
  intro l
  induction l with
  | nil => intro off vs; rfl
  | cons x r ih =>
    intro off vs
    cases off with
    | zero => cases vs with
      | nil => rfl
      | cons v vs => simp [layO, ih]
    | succ n => simp [layO, ih]
theorem layO_known : ∀ (vs : List Value) (l : List (Option Value)) (c : Array Value) (off : Nat), off + vs.length ≤ l.length → Known c l → Known (lay c off vs) (layO l off vs) := by
  have step : ∀ (l : List (Option Value)) (off : Nat) (v : Value) (vs : List Value), off < l.length → layO l off (v :: vs) = layO (l.set off (some v)) (off + 1) vs := by
    intro l
    induction l with
    | nil => intro off v vs h; cases h
    | cons x r ih =>
      intro off v vs h
      cases off with
      | zero => simp [layO]
      | succ n => simp only [layO, List.set_cons_succ]; rw [ih n v vs (by simpa using h)]
  intro vs
  induction vs with
  | nil =>
    intro l c off h k
    have : layO l off [] = l := by
      clear h k c
      induction l generalizing off with
      | nil => rfl
      | cons x r ih => cases off <;> simp [layO, ih]
    rw [this]; exact k
  | cons v vs ih =>
    intro l c off h k
    rw [List.length_cons] at h
    rw [step l off v vs (by omega)]
    refine ih _ _ _ (by rw [List.length_set]; omega) ⟨by rw [List.length_set, Array.size_setIfInBounds]; exact k.1, fun j w hj => ?_⟩
    rw [List.getElem?_set] at hj
    rw [Array.getElem?_setIfInBounds]
    split at hj
    · rename_i e
      rw [if_pos e]
      split at hj
      · cases hj; rw [if_pos (by rw [k.1]; omega)]
      · cases hj
    · rename_i e
      rw [if_neg e]; exact k.2 _ _ hj
theorem SV.is.rel {s : SV} {v : Value} (h : s.is v) (l : List Bx) (β : Nat → Nat) : Rel l β v s := by
  cases s <;> first | exact h | exact h.elim
def litV (b : Nat) : Option Nat → Value
  | none => .pointer (some ⟨b, 0, none⟩)
  | some n => .slice (some ⟨b, 0, none⟩) n n
def EffOk (P : Program) (o : Oper) (β : Nat → Nat) (st : St) (ρ : Env) (L : H) : Eff → Prop
  | .bad => True
  | .ret s => ∃ v, Rel st.bx β v s ∧ YE P o ρ v
  | .ask X w f => ∀ (k : X → HP) (h : H), w k h → ∃ x v, (f x).is v ∧ YE P o ρ v ∧ k x h
  | .own s => ∃ v, Rel st.bx β v s ∧ YR P o ρ L v
  | .mem X w f => ∀ (k : X → HP) (h : H) (next : Post), w k h → (∀ x v h', k x h' → (f x = .no ∨ (f x).is v) → next (put ρ o.dst v) L h') → aOp P o ρ L h next noP
  | .box t c lit => ∀ (h : H) (next : Post), (∀ b, L b = none → next (put ρ o.dst (litV b lit)) (upd L b (.cells c.toArray t (0, 0))) h) → aOp P o ρ L h next noP
  | .set i c => ∃ e c', findB st.bx i = some e ∧ c.length = e.cells.length ∧ Known c' c ∧ ∀ (h : H) (next : Post), next (put ρ o.dst undef) (upd L (β i) (.cells c' e.ty (0, 0))) h → aOp P o ρ L h next noP
section oks
variable {P : Program} {X : Cx P} {β : Nat → Nat} {st : St} {ρ : Env} {L : H}
theorem Ok.val (k : Ok β st ρ L) (x : Operand) : Rel st.bx β (ev ρ x) (sv st x) := by
  cases x with
  | tmp t => exact k.slots t
  | _ => rfl
theorem Ok.v (k : Ok β st ρ L) {x : Operand} {w : Value} (e : sv st x = .v w) : ev ρ x = w := by
  have := k.val x; rw [e] at this; exact this
theorem Ok.pl (k : Ok β st ρ L) {x : Operand} {w : PV} (e : sv st x = .pl w) : ev ρ x = w.1 := by
  have := k.val x; rw [e] at this; exact this
theorem Ok.adr (k : Ok β st ρ L) {x : Operand} {a : Addr} (e : sv st x = .adr a) : ev ρ x = .pointer (some a) := by
  have := k.val x; rw [e] at this; exact this
theorem Ok.box (k : Ok β st ρ L) {x : Operand} {i off : Nat} (e : sv st x = .box i off) {b : Bx} (hb : findB st.bx i = some b) : ev ρ x = .pointer (some ⟨β i, off, none⟩) := by
  have := k.val x; rw [e] at this
  obtain ⟨h1, h2⟩ := findB_some hb
  exact this ⟨b, h1, h2⟩
theorem Ok.box' (k : Ok β st ρ L) {x : Operand} {i off : Nat} (e : sv st x = .box i off) {b : Bx} (hb : findB st.bx i = some b) : ev ρ x = .pointer (some ⟨β i, off, none⟩) := by
  have := k.val x; rw [e] at this
  obtain ⟨h1, h2⟩ := findB_some hb
  exact this ⟨b, h1, h2⟩
theorem Ok.lit (k : Ok β st ρ L) {x : Operand} {i n : Nat} (e : sv st x = .lit i n) {b : Bx} (hb : findB st.bx i = some b) : ev ρ x = .slice (some ⟨β i, 0, none⟩) n n := by
  have := k.val x; rw [e] at this
  obtain ⟨h1, h2⟩ := findB_some hb
  exact this ⟨b, h1, h2⟩
theorem Ok.at (k : Ok β st ρ L) {i : Nat} {b : Bx} (hb : findB st.bx i = some b) : ∃ c, L (β i) = some (.cells c b.ty (0, 0)) ∧ Known c b.cells := by
  obtain ⟨h1, rfl⟩ := findB_some hb
  exact k.boxes _ h1
theorem Ok.at' (k : Ok β st ρ L) {i : Nat} {b : Bx} (hb : findB st.bx i = some b) : ∃ c, L (β i) = some (.cells c b.ty (0, 0)) ∧ Known c b.cells := by
  obtain ⟨h1, rfl⟩ := findB_some hb
  exact k.boxes _ h1
theorem valOf_ok (k : Ok β st ρ L) {x : Operand} {w : Value} (e : valOf? (sv st x) = some w) : ev ρ x = w := by
  have := k.val x
  unfold valOf? at e
  split at e <;> rename_i q <;> first | (rw [q] at this; cases e; exact this) | cases e
theorem valsOf_ok (k : Ok β st ρ L) : ∀ {l : List Operand} {vl : List Value}, valsOf st l = some vl → l.map (ev ρ) = vl := by
  intro l
  induction l with
  | nil => intro vl e; cases e; rfl
  | cons x r ih =>
    intro vl e
    simp only [valsOf] at e
    split at e
    · rename_i v l' h1 h2
      cases e
      rw [List.map_cons, valOf_ok k h1, ih h2]
    · cases e
theorem partsOf_ok (k : Ok β st ρ L) : ∀ {l : List (Nat × Operand)} {vl : List (Nat × Value)}, partsOf st l = some vl → (l.map fun p => (p.1, ev ρ p.2)) = vl := by
  intro l
  induction l with
  | nil => intro vl e; cases e; rfl
  | cons x r ih =>
    intro vl e
    obtain ⟨i, x⟩ := x
    simp only [partsOf] at e
    split at e
    · rename_i v l' h1 h2
      cases e
      rw [List.map_cons, ih h2]
      simp only [valOf_ok k h1]
    · cases e
theorem spec_some : ∀ {l : List (Spec P)} {f : FuncId} {s : Spec P}, spec l f = some s → s.f = f := by
  intro l
  induction l with
  | nil => intro f s h; cases h
  | cons x r ih =>
    intro f s h
    simp only [spec] at h
    cases hb : Nat.beq x.f f <;> rw [hb] at h
    · exact ih h
    · cases h; rwa [Nat.beq_eq] at hb
theorem decs_ok (k : Ok β st ρ L) : ∀ {A : List Ty} {l : List Operand} {a : Den A}, decs A (svsOf st l) = some a → l.map (ev ρ) = valsD A a := by
  have one : ∀ {τ : Ty} {x : Operand} {a : τ.T}, τ.dec (sv st x) = some a → ev ρ x = τ.val a := fun {τ x a} e => by
    have h1 := τ.law _ _ e
    have h2 := k.val x
    revert h1 h2
    cases sv st x <;> intro h1 h2 <;> first | (exact h2.trans (Eq.symm h1)) | exact h1.elim
  intro A
  induction A with
  | nil =>
    intro l a e
    cases l with
    | nil => rfl
    | cons => cases e
  | cons t r ih =>
    intro l a e
    cases r with
    | nil =>
      match l, e with
      | [x], e => show [ev ρ x] = [t.val a]; rw [one e]
      | x :: y :: r, e => cases e
    | cons u r =>
      match l, e with
      | x :: xs, e =>
        have e : (match t.dec (sv st x), decs (u :: r) (svsOf st xs) with | some p, some q => some (p, q) | _, _ => none) = some a := e
        split at e
        · rename_i p q h1 h2
          cases e
          rw [List.map_cons, one h1, ih h2]; rfl
        · cases e
variable {d : Option Tmp} {ty : TypeId} {ps : String} {af : Array Edge} {gd : Option (Nat × Bool)}
theorem mv_ok {o : Oper} {x : Operand} (k : Ok β st ρ L) (y : YE P o ρ (ev ρ x)) : EffOk P o β st ρ L (mv (sv st x)) := by
  have := k.val x
  unfold mv
  split
  · trivial
  · exact ⟨_, this, y⟩
theorem tyOk_spec {t : TypeId} {τ : Ty} (h : tyOk P t τ = true) : ∃ td, P.underlying t = some td ∧ ((aggB td = false ∧ τ.agg = false) ∨ ∃ ti, P.info? t = some ti ∧ aggB td = true ∧ τ.agg = true ∧ ti.size = τ.n) := by
  unfold tyOk at h
  split at h
  · rename_i td ti h1 h2
    refine ⟨td, h1, ?_⟩
    split at h
    · rename_i ha
      rw [Bool.and_eq_true, Nat.beq_eq] at h
      exact .inr ⟨ti, h2, h.1, ha, h.2⟩
    · rename_i ha
      exact .inl ⟨by simpa using h, ha⟩
  · cases h
theorem oLoad (k : Ok β st ρ L) {t : TypeId} {x : Operand} : EffOk P ⟨d, .load t x, ty, ps, af, gd⟩ β st ρ L (eLoad P X st t x) := by
  unfold eLoad
  split
  · rename_i i off hx
    split
    · rename_i e td ti h1 h2 h3
      obtain ⟨c, hc, kn⟩ := k.at h1
      have hv := k.box hx h1
      split
      · rename_i ha
        split
        · rename_i l hl
          exact ⟨_, rfl, r_loadA hv hc h2 ha h3 (grabO_grab kn hl)⟩
        · trivial
      · rename_i ha
        split
        · rename_i v hl
          exact ⟨_, rfl, r_load hv hc h2 ha (grab_one (grabO_grab kn hl))⟩
        · trivial
    · trivial
  · rename_i a hx
    have hv := k.adr hx
    split
    · rename_i τ hτ
      split
      · rename_i ho
        obtain ⟨td, hu, hor⟩ := tyOk_spec ho
        intro q h next hw hn
        have is : ∀ y, (τ.sv y).is (τ.val y) := τ.svl
        rcases hor with ⟨h1, h2⟩ | ⟨ti, hi, h1, h2, h3⟩
        · rcases τ.hc with ⟨c1, _⟩ | ⟨_, c2⟩
          · rw [h2] at c1; cases c1
          · exact v_load hw hv hu h1 τ.val c2 fun y ky => hn y _ _ ky (.inr (is y))
        · rcases τ.hc with ⟨_, c2⟩ | ⟨c1, _⟩
          · exact v_loadA hw hv hu h1 hi τ.val (fun y => ⟨(c2 y).1, by rw [(c2 y).2, h3]⟩) fun y ky => hn y _ _ ky (.inr (is y))
          · rw [h2] at c1; cases c1
      · trivial
    · trivial
  · trivial
theorem plains_ok (k : Ok β st ρ L) {y : Operand} {l : List Value} (h : plains (sv st y) = some l) : (ev ρ y).cells.toList = l ∧ l.all plainVal = true := by
  have hv := k.val y
  unfold plains at h
  split at h
  · rename_i c e
    rw [e] at hv
    cases ha : c.toList.all plainVal <;> rw [ha] at h
    · cases h
    · cases h
      rw [show ev ρ y = _ from hv]
      exact ⟨rfl, ha⟩
  · cases h
  · rename_i v h1 h2 e
    rw [e] at hv
    cases h
    rw [show ev ρ y = _ from hv]
    cases v <;> first | exact ⟨rfl, rfl⟩ | exact (h1 _ rfl).elim | exact (h2 _ rfl).elim
  · rename_i x e
    rw [e] at hv
    cases h
    rw [show ev ρ y = _ from hv, x.2.2]
    exact ⟨rfl, by simp [x.2.1]⟩
  · rename_i a e
    rw [e] at hv
    cases h
    rw [show ev ρ y = _ from hv]
    exact ⟨rfl, rfl⟩
  · cases h
theorem oStore (k : Ok β st ρ L) {t : TypeId} {x y : Operand} : EffOk P ⟨d, .store t x y, ty, ps, af, gd⟩ β st ρ L (eStore P st t x y) := by
  unfold eStore
  split
  · rename_i l ti h1 h2
    obtain ⟨hw, hp⟩ := plains_ok k h1
    split
    · rename_i hs
      rw [Nat.beq_eq] at hs
      have hs : l.length = ti.size := hs
      split
      · rename_i i off hx
        split
        · rename_i e he
          obtain ⟨c, hc, kn⟩ := k.at' he
          have hv := k.box' hx he
          split
          · rename_i hle
            have hle := Nat.le_of_ble_eq_true hle
            have hsz : (ev ρ y).cells.size = l.length := by rw [← hw, Array.length_toList]
            refine ⟨e, _, he, layO_len .., layO_known l _ c off hle kn, fun h next hn => ?_⟩
            refine b_store hv rfl hc h2 (by rw [hsz]; exact hs) (by rw [hw]; exact hp) (by rw [hsz, kn.1]; exact hle) ?_
            rw [hw]; exact hn
          · trivial
        · trivial
      · rename_i a hx
        exact fun q h next hm hn => v_store hm (k.adr hx) rfl hw h2 hs hp fun h' kk => hn () _ h' kk (.inl rfl)
      · trivial
    · trivial
  · trivial
theorem oNew (o : Oper) {t : TypeId} {c : Array Value} (hb : ∀ (h : H) (next : Post), (∀ b, L b = none → next (put ρ o.dst (.pointer (some ⟨b, 0, none⟩))) (upd L b (.cells c t (0, 0))) h) → aOp P o ρ L h next noP)
    (hm : ∀ (q : Addr → HP) (h : H) (next : Post), mNew t c q h → (∀ a h', q a h' → next (put ρ o.dst (.pointer (some a))) L h') → aOp P o ρ L h next noP) : EffOk P o β st ρ L (newE P X o.dst t c) := by
  unfold newE
  split
  · split
    · exact fun h next hn => hb h next hn
    · exact fun q h next hw hn => hm q h next hw fun a h' ka => hn a _ h' ka (.inr rfl)
  · trivial
theorem oAlloc {t : TypeId} : EffOk P ⟨d, .alloc t, ty, ps, af, gd⟩ β st ρ L (eAlloc P X d t) := by
  unfold eAlloc
  split
  · rename_i ti hi
    split
    · rename_i z hz
      exact oNew ⟨d, .alloc t, ty, ps, af, gd⟩ (fun h next hn => b_alloc hi hz rfl hn) (fun q h next hw hn => v_alloc hw hi hz rfl hn)
    · trivial
  · trivial
theorem oBox (k : Ok β st ρ L) {t : TypeId} {x : Operand} : EffOk P ⟨d, .box t x, ty, ps, af, gd⟩ β st ρ L (eBox P X st d t x) := by
  unfold eBox
  have fin : ∀ c, (ev ρ x).cells = c → EffOk P ⟨d, .box t x, ty, ps, af, gd⟩ β st ρ L (newE P X d t c) := fun c hc =>
    oNew ⟨d, .box t x, ty, ps, af, gd⟩ (fun h next hn => b_box hc hn) (fun q h next hw hn => v_box hw hc hn)
  split
  · rename_i w e; exact fin _ (by rw [k.v e])
  · rename_i w e; exact fin _ (by rw [k.pl e, w.2.2])
  · rename_i a e; exact fin _ (by rw [k.adr e]; rfl)
  · trivial
theorem oPick (k : Ok β st ρ L) {c x y : Operand} : EffOk P ⟨d, .pick c x y, ty, ps, af, gd⟩ β st ρ L (ePick st c x y) := by
  unfold ePick
  split
  · rename_i b e
    have hc := k.v e
    cases b
    · exact mv_ok k (y_pickF hc rfl rfl)
    · exact mv_ok k (y_pickT hc rfl rfl)
  · trivial
theorem oNil (k : Ok β st ρ L) {x : Operand} : EffOk P ⟨d, .nilCheck x, ty, ps, af, gd⟩ β st ρ L (eNil st x) := by
  unfold eNil
  split
  · rename_i a e; exact ⟨_, rfl, y_nil (k.adr e)⟩
  · rename_i p e
    rintro q h ⟨a, hp, ka⟩
    exact ⟨a, _, rfl, y_nilP (k.v e) hp, ka⟩
  · trivial
theorem addr_add (b o i : Nat) : (⟨b, o, none⟩ : Addr).add i = ⟨b, o + i, none⟩ := by
  unfold Addr.add; split
  · rename_i e; subst e; rfl
  · rfl
end oks
section oks
variable {P : Program} {X : Cx P} {β : Nat → Nat} {st : St} {ρ : Env} {L : H}
variable {d : Option Tmp} {ty : TypeId} {ps : String} {af : Array Edge} {gd : Option (Nat × Bool)}
theorem oFieldAddr (k : Ok β st ρ L) {t : TypeId} {x : Operand} {i : Nat} : EffOk P ⟨d, .fieldAddr t x i, ty, ps, af, gd⟩ β st ρ L (eFieldAddr P st t x i) := by
  unfold eFieldAddr
  split
  · rename_i fs hu
    split
    · rename_i f hf
      rw [Array.getElem?_toList] at hf
      split
      · rename_i ti hi
        split
        · rename_i hs
          split
          · rename_i a hx
            exact ⟨_, rfl, y_fieldAddr (k.adr hx) hu hf hi hs⟩
          · rename_i j off hx
            split
            · rename_i e he
              have := y_fieldAddr (P := P) (d := d) (ty := ty) (ps := ps) (af := af) (gd := gd) (k.box hx he) hu hf hi hs
              rw [addr_add] at this
              exact ⟨_, fun _ => rfl, this⟩
            · trivial
          · trivial
        · trivial
      · trivial
    · trivial
  · trivial
theorem extract_list (cs : Array Value) (o n : Nat) : cs.extract o (o + n) = ((cs.toList.drop o).take n).toArray := by
  apply Array.toList_inj.1
  rw [Array.toList_extract]
  unfold List.extract
  rw [Nat.add_sub_cancel_left]
theorem oField (k : Ok β st ρ L) {t : TypeId} {x : Operand} {i : Nat} : EffOk P ⟨d, .field t x i, ty, ps, af, gd⟩ β st ρ L (eField P st t x i) := by
  unfold eField
  split
  · rename_i fs cs hu hx
    split
    · rename_i f hf
      rw [Array.getElem?_toList] at hf
      split
      · rename_i td ti ht hi
        split
        · rename_i ha
          refine ⟨_, rfl, y_fieldA (k.v hx) hu hf ht ha hi ?_⟩
          rw [extract_list]
        · rename_i ha
          split
          · rename_i v hv
            rw [Array.getElem?_toList] at hv
            exact ⟨_, rfl, y_field (k.v hx) hu hf ht ha hv⟩
          · trivial
      · trivial
    · trivial
  · trivial
theorem oExtract (k : Ok β st ρ L) {x : Operand} {i : Nat} : EffOk P ⟨d, .extract x i, ty, ps, af, gd⟩ β st ρ L (eExtract st x i) := by
  unfold eExtract
  split
  · rename_i vs hx
    split
    · rename_i v hv
      rw [Array.getElem?_toList] at hv
      exact ⟨_, rfl, y_extract (k.v hx) hv⟩
    · trivial
  · trivial
theorem oUn (k : Ok β st ρ L) {op : UnOp} {t : TypeId} {x : Operand} : EffOk P ⟨d, .unOp op t x, ty, ps, af, gd⟩ β st ρ L (eUn st op x) := by
  unfold eUn
  split
  · rename_i b hx; exact ⟨_, rfl, y_not (k.v hx)⟩
  · rename_i kk a hx; exact ⟨_, rfl, y_neg (k.v hx)⟩
  · rename_i kk a hx; exact ⟨_, rfl, y_xor1 (k.v hx)⟩
  · trivial
theorem oConv (k : Ok β st ρ L) {s t : TypeId} {x : Operand} : EffOk P ⟨d, .convert s t x, ty, ps, af, gd⟩ β st ρ L (eConv P st s t x) := by
  unfold eConv
  split
  · rename_i sd kk kj a h1 h2 hx; exact ⟨_, rfl, y_conv (k.v hx) h1 h2⟩
  · rename_i e a l c h1 h2 hx
    split
    · rename_i h3
      exact fun q h next hm hn => v_text h1 h2 h3 (s := ⟨a, l, c⟩) (k.v hx) hm fun t kt => hn t _ _ kt (.inr rfl)
    · trivial
  · rename_i e b h1 h2 hx
    split
    · rename_i h3
      exact fun q h next hm hn => v_bytes h1 h2 h3 (k.v hx) hm fun t h' kt => hn t _ _ kt (.inr rfl)
    · trivial
  · rename_i e' e a l c h1 h2 hx
    split
    · rename_i h3 h4
      obtain rfl := of_decide_eq_true h3
      exact fun q h next hm hn => v_mark h2 h4 (s := ⟨a, l, c⟩) (k.v hx) hm fun t h' kt => hn t _ _ kt (.inr rfl)
    · trivial
  · trivial
theorem EQ.mono {n m : Nat} {t : TypeId} {x y : Value} {b : Bool} (h : EQ P n t x y b) (hle : n ≤ m) : EQ P m t x y b := fun k hk => h k (Nat.le_trans hle hk)
theorem partV_ok {f : Field} {cs : Array Value} {v : Value} (h : partV P f cs = some v) : PartOk P f cs v := by
  unfold partV at h
  split at h
  · rename_i td ti h1 h2
    split at h
    · rename_i ha; cases h; exact part_agg h1 ha h2 rfl
    · rename_i ha; rw [Array.getElem?_toList] at h; exact part_one h1 ha h
  · cases h
theorem eqFs_ok {n : Nat} {eq : TypeId → Value → Value → Option Bool} (heq : ∀ t x y b, eq t x y = some b → EQ P n t x y b) : ∀ {fl : List Field} {xs ys : Array Value} {b : Bool}, eqFs P eq fl xs ys = some b → EFs P n fl xs ys b := by
  intro fl
  induction fl with
  | nil => intro xs ys b h; cases h; exact efs_nil
  | cons f r ih =>
    intro xs ys b h
    simp only [eqFs] at h
    split at h
    · rename_i x y hn hx hy
      split at h
      · rename_i p q hp hq
        cases h
        exact efs_cons hn (partV_ok hx) (partV_ok hy) (heq _ _ _ _ hp) (Nat.ble_eq_true_of_le (Nat.le_refl n)) (ih hq)
      · cases h
    · cases h
theorem eqV_ok : ∀ (n : Nat) (t : TypeId) (x y : Value) (b : Bool), eqV P n t x y = some b → EQ P n t x y b := by
  intro n
  induction n with
  | zero => intro t x y b h; cases h
  | succ n ih =>
    intro t x y b h
    simp only [eqV] at h
    split at h
    · rename_i kk hu
      split at h
      · rename_i j a k' b' 
        split at h
        · rename_i hd
          have := of_decide_eq_true hd
          subst this
          cases h
          exact (eq_int hu).mono (by omega)
        · cases h
      · cases h
    · rename_i hu
      split at h
      · cases h; exact (eq_bool hu).mono (by omega)
      · cases h
    · rename_i hu
      split at h
      · cases h; exact (eq_str hu).mono (by omega)
      · cases h
    · rename_i fs hu
      split at h
      · rename_i xs ys hs
        exact eq_struct (fl := fs.toList) hu hs (eqFs_ok ih h)
      · cases h
    · cases h
theorem eqW_ok {n : Nat} {t : TypeId} {x y : Value} {b : Bool} (h : eqW P n t x y = some b) : EQ P (n + 1) t x y b := by
  unfold eqW at h
  split at h
  · rename_i len e hu
    split at h
    · rename_i ti xs ys hi
      exact eq_array hu hi (eqFs_ok (eqV_ok n) h)
    · cases h
  · exact fun m hm => eqV_ok n t x y b h m (by omega)
theorem ask_unit {o : Oper} {p : Prop} {w : (Unit → HP) → HP} {v : Value} (hw : ∀ q h, w q h → p ∧ q () h) (y : p → YE P o ρ v) : EffOk P o β st ρ L (.ask Unit w (fun _ => .v v)) := fun q h hq => by
  obtain ⟨h1, h2⟩ := hw q h hq
  exact ⟨(), v, rfl, y h1, h2⟩
theorem isNil_ok {y : Operand} (h : isNilConst y = true) : (y = .const (.pointer none)) ∨ (y = .const (.map none)) ∨ ∃ n c, y = .const (.slice none n c) := by
  unfold isNilConst at h
  split at h
  · exact .inl rfl
  · exact .inr (.inl rfl)
  · exact .inr (.inr ⟨_, _, rfl⟩)
  · cases h
theorem isNilI_ok {y : Operand} (h : isNilI y = true) : y = .const .nilIface := by
  unfold isNilI at h
  split at h
  · rfl
  · cases h
theorem oNilI {op : BinOp} {t u : TypeId} {x y : Operand} {fv : Value} (hx : ev ρ x = fv) : EffOk P ⟨d, .binOp op t x y u, ty, ps, af, gd⟩ β st ρ L (eNilI P op t y fv) := by
  unfold eNilI
  split
  · rename_i ms hn hu
    obtain rfl := isNilI_ok hn
    rintro q h (⟨e, kz⟩ | ⟨t', v', e, kz⟩)
    · exact ⟨true, _, rfl, y_eqI hu hx (.inl ⟨e, rfl⟩), kz⟩
    · exact ⟨false, _, rfl, y_eqI hu hx (.inr ⟨t', v', e, rfl⟩), kz⟩
  · rename_i ms hn hu
    obtain rfl := isNilI_ok hn
    rintro q h (⟨e, kz⟩ | ⟨t', v', e, kz⟩)
    · exact ⟨true, _, rfl, y_neI hu hx (.inl ⟨e, rfl⟩), kz⟩
    · exact ⟨false, _, rfl, y_neI hu hx (.inr ⟨t', v', e, rfl⟩), kz⟩
  · trivial
theorem oBin (k : Ok β st ρ L) {op : BinOp} {t u : TypeId} {x y : Operand} : EffOk P ⟨d, .binOp op t x y u, ty, ps, af, gd⟩ β st ρ L (eBin P st op t x y) := by
  unfold eBin
  split
  · rename_i kk a j b hx hy
    have vx := k.v hx
    have vy := k.v hy
    split
    · split
      · rename_i n
        have e : Value.int _ n = Value.int j b := vy
        cases e
        split
        · rename_i hd; exact ⟨_, rfl, y_shl vx vy (of_decide_eq_true hd)⟩
        · trivial
      · exact ask_unit (fun q h w => w) fun hb => y_shl vx vy hb
    · split
      · rename_i n
        have e : Value.int _ n = Value.int j b := vy
        cases e
        split
        · rename_i hd; exact ⟨_, rfl, y_shr vx vy (of_decide_eq_true hd)⟩
        · trivial
      · exact ask_unit (fun q h w => w) fun hb => y_shr vx vy hb
    · split
      · rename_i hk
        have := of_decide_eq_true hk
        subst this
        split
        · rename_i n
          have e : Value.int _ n = Value.int kk b := vy
          cases e
          split
          · rename_i hd; exact ⟨_, rfl, y_quo vx vy (of_decide_eq_false hd)⟩
          · trivial
        · exact ask_unit (fun q h w => w) fun hb => y_quo vx vy hb
      · trivial
    · split
      · rename_i hk
        have := of_decide_eq_true hk
        subst this
        split
        · rename_i n
          have e : Value.int _ n = Value.int kk b := vy
          cases e
          split
          · rename_i hd; exact ⟨_, rfl, y_rem vx vy (of_decide_eq_false hd)⟩
          · trivial
        · exact ask_unit (fun q h w => w) fun hb => y_rem vx vy hb
      · trivial
    · split
      · rename_i hk
        have := of_decide_eq_true hk
        subst this
        split
        · rename_i v hv; exact ⟨_, rfl, y_bin vx vy hv⟩
        · trivial
      · trivial
  · rename_i a b hx hy
    have vx := k.v hx
    have vy := k.v hy
    split
    · rintro q h ⟨z, hz, kz⟩
      exact ⟨z, _, rfl, y_cat vx vy hz, kz⟩
    · split
      · rename_i v hv; exact ⟨_, rfl, y_binS vx vy hv⟩
      · trivial
  · rename_i a b hx hy
    split
    · rename_i hu; exact ⟨_, rfl, y_eqB hu (k.v hx) (k.v hy)⟩
    · rename_i hu; exact ⟨_, rfl, y_neB hu (k.v hx) (k.v hy)⟩
    · trivial
  · rename_i p q hx hy
    have vy := k.v hy
    split
    · rename_i e hn hu
      rcases isNil_ok hn with rfl | rfl | ⟨_, _, rfl⟩ <;> first | (cases vy; done) | exact ⟨_, rfl, y_eqP hu (k.v hx) rfl⟩
    · rename_i e hn hu
      rcases isNil_ok hn with rfl | rfl | ⟨_, _, rfl⟩ <;> first | (cases vy; done) | exact ⟨_, rfl, y_neP hu (k.v hx) rfl⟩
    · trivial
  · rename_i p q hx hy
    have vy := k.v hy
    split
    · rename_i e hn hu
      rcases isNil_ok hn with rfl | rfl | ⟨_, _, rfl⟩ <;> first | (cases vy; done) | exact ⟨_, rfl, y_eqP hu (k.adr hx) rfl⟩
    · rename_i e hn hu
      rcases isNil_ok hn with rfl | rfl | ⟨_, _, rfl⟩ <;> first | (cases vy; done) | exact ⟨_, rfl, y_neP hu (k.adr hx) rfl⟩
    · trivial
  · rename_i p l c q l' c' hx hy
    have vy := k.v hy
    split
    · rename_i e hn hu
      rcases isNil_ok hn with rfl | rfl | ⟨n', c'', rfl⟩ <;> first | (cases vy; done) | exact ⟨_, rfl, y_eqSl hu (s := ⟨p, l, c⟩) (k.v hx) rfl⟩
    · rename_i e hn hu
      rcases isNil_ok hn with rfl | rfl | ⟨n', c'', rfl⟩ <;> first | (cases vy; done) | exact ⟨_, rfl, y_neSl hu (s := ⟨p, l, c⟩) (k.v hx) rfl⟩
    · trivial
  · rename_i p q hx hy
    have vy := k.v hy
    split
    · rename_i k1 e hn hu
      rcases isNil_ok hn with rfl | rfl | ⟨_, _, rfl⟩ <;> first | (cases vy; done) | exact ⟨_, rfl, y_eqM hu (k.v hx) rfl⟩
    · rename_i k1 e hn hu
      rcases isNil_ok hn with rfl | rfl | ⟨_, _, rfl⟩ <;> first | (cases vy; done) | exact ⟨_, rfl, y_neM hu (k.v hx) rfl⟩
    · trivial
  · rename_i xs ys hx hy
    split
    · rename_i b hq he; exact ⟨_, rfl, y_eqA hq (k.v hx) (k.v hy) (eqW_ok he) rfl⟩
    · rename_i b hq he; exact ⟨_, rfl, y_neA hq (k.v hx) (k.v hy) (eqW_ok he) rfl⟩
    · trivial
  · split
    · rename_i fv hf; exact oNilI (valOf_ok k hf)
    · trivial
  · trivial
theorem oBuild (k : Ok β st ρ L) {t : TypeId} {l : Array (Nat × Operand)} : EffOk P ⟨d, .build t l, ty, ps, af, gd⟩ β st ρ L (eBuild P st t l.toList) := by
  unfold eBuild
  split
  · rename_i fs ti hu hi
    split
    · rename_i z pl vl hz hp hv
      split
      · rename_i cs hc
        exact ⟨_, rfl, y_build (fl := fs.toList) hu hi hz hp (partsOf_ok k hv) hc⟩
      · trivial
    · trivial
  · rename_i n e ti hu hi
    split
    · rename_i z te vl hz he hv
      split
      · rename_i cs hc
        exact ⟨_, rfl, y_buildA (l := l.toList) hu hi hz he (partsOf_ok k hv) hc⟩
      · trivial
    · trivial
  · trivial
theorem oLit (k : Ok β st ρ L) {t : TypeId} {n : Nat} {l : Array (Nat × Operand)} : EffOk P ⟨d, .buildSlice t n l, ty, ps, af, gd⟩ β st ρ L (eLit P X st d t n l.toList) := by
  unfold eLit
  split
  · rename_i e hu
    split
    · rename_i ti hi
      split
      · rename_i z vl hz hv hn
        split
        · rename_i cs hc
          split
          · rename_i dd
            split
            · exact fun h next hh => b_lit (l := l.toList) hu hi hz hn (partsOf_ok k hv) hc hh
            · exact fun q h next hm hh => v_lit (l := l.toList) hm hu hi hz hn (partsOf_ok k hv) hc fun a h' ka => hh a _ h' ka (.inr rfl)
          · trivial
        · trivial
      · trivial
    · trivial
  · trivial
theorem oIdxAddr (k : Ok β st ρ L) {t : TypeId} {x j : Operand} : EffOk P ⟨d, .indexAddr t x j, ty, ps, af, gd⟩ β st ρ L (eIdxAddr P st t x j) := by
  unfold eIdxAddr
  split
  · rename_i e a l c kk i hu hx hj
    split
    · rename_i ti hi
      rintro q h ⟨z, hz, kz⟩
      exact ⟨z, _, rfl, y_idx hu hi (s := ⟨a, l, c⟩) (k.v hx) (k.v hj) hz, kz⟩
    · trivial
  · rename_i n e a kk i hu hx hj
    split
    · rename_i ti hi
      rintro q h ⟨z, hz, kz⟩
      exact ⟨z, _, rfl, y_idxA hu hi (k.adr hx) (k.v hj) hz, kz⟩
    · trivial
  · trivial
theorem chunks_get {sz : Nat} : ∀ {n : Nat} {l : List Value} {i : Nat} {c : List Value}, (chunks sz n l)[i]? = some c → i < n ∧ c = (l.drop (i * sz)).take sz := by
  intro n
  induction n with
  | zero => intro l i c e; simp [chunks] at e
  | succ n ih =>
    intro l i c e
    cases i with
    | zero => simp only [chunks, List.getElem?_cons_zero, Option.some.injEq] at e; exact ⟨Nat.succ_pos _, by rw [← e]; simp⟩
    | succ i =>
      simp only [chunks, List.getElem?_cons_succ] at e
      obtain ⟨h1, h2⟩ := ih e
      exact ⟨by omega, by rw [h2, List.drop_drop, Nat.succ_mul, Nat.add_comm]⟩
theorem decA_get {τ : Ty} : ∀ {cs : List (List Value)} {l : List τ.T} {i : Nat} {x : τ.T}, decA τ cs = some l → l[i]? = some x → ∃ c, cs[i]? = some c ∧ τ.val x = (match τ.agg with | true => .agg c.toArray | false => c.headD undef) := by
  intro cs
  induction cs with
  | nil => intro l i x e h; cases e; simp at h
  | cons c r ih =>
    intro l i x e h
    simp only [decA] at e
    split at e
    · rename_i y m h1 h2
      cases e
      cases i with
      | zero => cases h; exact ⟨c, rfl, τ.law _ _ h1⟩
      | succ i => exact ih h2 h
    · cases e
theorem oIdx (k : Ok β st ρ L) {t : TypeId} {x j : Operand} : EffOk P ⟨d, .index t x j, ty, ps, af, gd⟩ β st ρ L (eIdx P X st t x j) := by
  unfold eIdx
  split
  · rename_i s kk i hu hx hj
    rintro q h ⟨z, hz, kz⟩
    exact ⟨z, _, rfl, y_idxS hu (k.v hx) (k.v hj) hz, kz⟩
  · rename_i n e cs kk i hu hx hj
    split
    · rename_i te τ hi hτ
      split
      · rename_i l ho hl
        rintro q h ⟨z, h0, hz, kz⟩
        rw [Bool.and_eq_true] at ho
        obtain ⟨td, he, hor⟩ := tyOk_spec ho.1
        obtain ⟨c, hc, hv⟩ := decA_get hl hz
        obtain ⟨hlt, rfl⟩ := chunks_get hc
        refine ⟨z, _, τ.svl z, y_idxV hu hi he (k.v hx) (k.v hj) h0 (by omega) ?_, kz⟩
        rcases hor with ⟨h1, h2⟩ | ⟨ti, hi', h1, h2, h3⟩
        · have h4 := ho.2
          rw [h2, Bool.false_or, Bool.and_eq_true] at h4
          have hsz : te.size = 1 := Nat.eq_of_beq_eq_true h4.1
          have hlen : cs.toList.length = n := Nat.eq_of_beq_eq_true h4.2
          rw [h2] at hv
          simp only at hv
          refine .inr ⟨h1, ?_⟩
          rw [hsz, Nat.mul_one] at hv ⊢
          have hlt' : i.toNat < cs.toList.length := by rw [hlen]; exact hlt
          rw [List.drop_eq_getElem_cons hlt'] at hv
          simp only [List.take_succ_cons, List.take_zero, List.headD_cons] at hv
          rw [hv, ← Array.getElem?_toList, List.getElem?_eq_getElem hlt']
        · rw [hi] at hi'
          cases hi'
          rw [h2] at hv
          simp only at hv
          refine .inl ⟨h1, ?_⟩
          rw [hv, extract_list]
      · trivial
    · trivial
  · trivial
theorem not_iface {td : TypeDesc} (h : isIface td = false) : ∀ ms, td ≠ .interface ms := fun ms e => by subst e; cases h
theorem oIface (k : Ok β st ρ L) {t : TypeId} {x : Operand} : EffOk P ⟨d, .makeInterface t x, ty, ps, af, gd⟩ β st ρ L (eIface P st t x) := by
  unfold eIface
  split
  · rename_i td v h1 h2
    split
    · rename_i h3; exact ⟨_, rfl, y_iface h1 (not_iface h3) (valOf_ok k h2)⟩
    · trivial
  · trivial
theorem oAssert (k : Ok β st ρ L) {t xt : TypeId} {x : Operand} {ok : Bool} : EffOk P ⟨d, .typeAssert x xt t ok, ty, ps, af, gd⟩ β st ρ L (eAssert P X st t x ok) := by
  unfold eAssert
  split
  · rename_i td ti τ fv h1 h2 h3 h4
    split
    · rename_i z h5 h7
      split
      · rename_i z0 h8
        intro q h hm
        have hz : τ.val z0 = z := τ.law _ _ h8
        obtain ⟨r, y, kk⟩ := y_assert (xt := xt) h1 (not_iface h5) (by rw [hz]; exact QV.zero h2 h7) (valOf_ok k h4) hm
        exact ⟨r, _, rfl, y, kk⟩
      · trivial
    · rename_i h5
      intro q h hm
      obtain ⟨r, y, kk⟩ := y_assert1 (xt := xt) h1 (not_iface h5) (valOf_ok k h4) hm
      exact ⟨r, _, τ.svl r, y, kk⟩
    · trivial
  · trivial
theorem bnd_ok (k : Ok β st ρ L) {df n : Int} {o : Option Operand} (h : bnd? st df o = some n) : bnd ρ o df n := by
  cases o with
  | none => cases h; rfl
  | some x =>
    simp only [bnd?] at h
    split at h
    · rename_i kk m hx; cases h; exact ⟨_, k.v hx⟩
    · cases h
theorem oCut (k : Ok β st ρ L) {t : TypeId} {x : Operand} {l r : Option Operand} : EffOk P ⟨d, .slice t x l r none, ty, ps, af, gd⟩ β st ρ L (eCut P st t x l r) := by
  unfold eCut
  split
  · rename_i e a n c hu hx
    split
    · rename_i ti lo hi h1 h2 h3
      rintro q h ⟨z, hz, kz⟩
      exact ⟨z, _, rfl, y_cut hu h1 (s := ⟨a, n, c⟩) (k.v hx) (bnd_ok k h2) (bnd_ok k h3) hz, kz⟩
    · trivial
  · rename_i n e a hu hx
    split
    · rename_i ti lo hi h1 h2 h3
      rintro q h ⟨z, hz, kz⟩
      exact ⟨z, _, rfl, y_cutA hu h1 (k.adr hx) (bnd_ok k h2) (bnd_ok k h3) hz, kz⟩
    · trivial
  · rename_i s hu hx
    split
    · rename_i lo hi h2 h3
      rintro q h ⟨z, hz, kz⟩
      exact ⟨z, _, rfl, y_sub hu (k.v hx) (bnd_ok k h2) (bnd_ok k h3) hz, kz⟩
    · trivial
  · trivial
theorem oCut3 (k : Ok β st ρ L) {t : TypeId} {x r m : Operand} {l : Option Operand} : EffOk P ⟨d, .slice t x l (some r) (some m), ty, ps, af, gd⟩ β st ρ L (eCut3 P st t x l r m) := by
  unfold eCut3
  split
  · rename_i e a n c hu hx
    split
    · rename_i ti lo k1 hi k2 mx h1 h2 h3 h4
      rintro q h ⟨z, hz, kz⟩
      exact ⟨z, _, rfl, y_cut3 hu h1 (s := ⟨a, n, c⟩) (k.v hx) (bnd_ok k h2) (k.v h3) (k.v h4) hz, kz⟩
    · trivial
  · trivial
theorem oMakeSl (k : Ok β st ρ L) {t : TypeId} {x y : Operand} : EffOk P ⟨d, .makeSlice t x y, ty, ps, af, gd⟩ β st ρ L (eMakeSl P st t x y) := by
  unfold eMakeSl
  split
  · rename_i e k1 n k2 c hu hx hy
    split
    · rename_i ti hi
      split
      · rename_i z hz
        split
        · rename_i hs
          rw [Nat.beq_eq] at hs
          exact fun q h next hm hn => v_make hu hi hz hs (k.v hx) (k.v hy) hm fun s h' ks => hn s _ h' ks (.inr rfl)
        · trivial
      · trivial
    · trivial
  · trivial
theorem oFunc (k : Ok β st ρ L) {fn : Fn} {first cap : Array Operand} : EffOk P ⟨d, .makeFunc fn first cap, ty, ps, af, gd⟩ β st ρ L (eFunc st fn first.toList cap.toList) := by
  unfold eFunc
  split
  · rename_i f fl vl hf hv
    exact ⟨_, rfl, y_makeFunc (fl := first.toList) (l := cap.toList) (valsOf_ok k hf) (valsOf_ok k hv)⟩
  · trivial
theorem ckFields {n : Nat} {em : Bool} (ih : ∀ (t : TypeId) (x y : Value) (b : Bool), eqV P n t x y = some b → ∀ m, n ≤ m → QV P (Instr.checkKey em m t x) ()) {m : Nat} (hm : n ≤ m) {xs ys : Array Value} : ∀ (fs : List Field) (b : Bool), eqFs P (eqV P n) fs xs ys = some b → QV P (do
      for f in fs do
        if f.name ≠ "_" then Instr.checkKey em m f.type (← part f.type xs f.offset) : Sem Unit) () := by
  intro fs
  induction fs with
  | nil => intro b _; exact QV.pure _
  | cons f r ihr =>
    intro b h
    unfold eqFs at h
    split at h
    · rename_i x y hn hx hy
      split at h
      · rename_i p q hp hq
        have hne : f.name ≠ "_" := by intro z; rw [z] at hn; simp at hn
        have := ihr q hq
        simp only [List.forIn_cons, hne, ne_eq, not_false_eq_true, if_true, bind_assoc] at this ⊢
        refine QV.bind (partV_ok hx) (QV.bind (ih _ _ _ _ hp m hm) ?_)
        simpa using this
      · cases h
    · cases h
theorem ck_ok {em : Bool} : ∀ (n : Nat) (t : TypeId) (x y : Value) (b : Bool), eqV P n t x y = some b → ∀ m, n ≤ m → QV P (Instr.checkKey em m t x) () := by
  intro n
  induction n with
  | zero => intro t x y b h; cases h
  | succ n ih =>
    intro t x y b h m hm
    obtain ⟨m, rfl⟩ : ∃ q, m = q + 1 := ⟨m - 1, by omega⟩
    simp only [eqV] at h
    unfold Instr.checkKey
    split at h
    · rename_i kk hu
      split at h
      · exact QV.bind (QV.underlying hu) (QV.pure _)
      · cases h
    · rename_i hu
      split at h
      · exact QV.bind (QV.underlying hu) (QV.pure _)
      · cases h
    · rename_i hu
      split at h
      · exact QV.bind (QV.underlying hu) (QV.pure _)
      · cases h
    · rename_i fs hu
      split at h
      · rename_i xs ys hs
        refine QV.bind (QV.underlying hu) ?_
        have := ckFields (em := em) ih (m := m) (by omega) fs.toList b h
        simpa using this
      · cases h
    · cases h
def scal : TypeDesc → Bool
  | .int _ => true
  | .bool => true
  | .string => true
  | _ => false
theorem sameNow_ok {n : Nat} {kt : TypeId} {td : TypeDesc} (hu : P.underlying kt = some td) (hs : scal td = true) {x y : Value} {b : Bool} (h : eqV P (n + 1) kt x y = some b) : Instr.sameNow td x y = some b := by
  simp only [eqV, hu] at h
  cases td <;> simp only [scal, Bool.false_eq_true] at hs <;> simp only at h
  · split at h
    · cases h; rfl
    · cases h
  · split at h
    · rename_i j a k' b'
      split at h
      · rename_i hd
        have := of_decide_eq_true hd
        subst this
        cases h
        simp only [Instr.sameNow, if_true]
        rfl
      · cases h
    · cases h
  · split at h
    · cases h; rfl
    · cases h
theorem eqV_td {n : Nat} {kt : TypeId} {x y : Value} {b : Bool} (h : eqV P (n + 1) kt x y = some b) : ∃ td, P.underlying kt = some td ∧ (scal td = true ∨ ∃ fs, td = .struct fs) := by
  simp only [eqV] at h
  split at h
  · rename_i kk hu; exact ⟨_, hu, .inl rfl⟩
  · rename_i hu; exact ⟨_, hu, .inl rfl⟩
  · rename_i hu; exact ⟨_, hu, .inl rfl⟩
  · rename_i fs hu; exact ⟨_, hu, .inr ⟨fs, rfl⟩⟩
  · cases h
theorem findNow_scal {kt : TypeId} {td : TypeDesc} (hu : P.underlying kt = some td) (hs : scal td = true) {kv : Value} : ∀ (l : List MapEntry) (i : Nat), (∀ e ∈ l, ∃ b, eqV P 40 kt kv e.key = some b) → Instr.findNow td kv l i = some (findR (eqV P 40 kt) kv l i) := by
  intro l
  induction l with
  | nil => intro i _; rfl
  | cons e r ih =>
    intro i hall
    obtain ⟨b, hb⟩ := hall e (List.mem_cons_self ..)
    have hr := ih (i + 1) fun e' he => hall e' (List.mem_cons_of_mem _ he)
    simp only [Instr.findNow, sameNow_ok (n := 39) hu hs hb, findR, hb]
    cases b
    · exact hr
    · rfl
theorem findAsking_ok {kt : TypeId} {kv : Value} : ∀ (l : List MapEntry) (i : Nat), (∀ e ∈ l, ∃ b, eqV P 40 kt kv e.key = some b) → QV P (Instr.findAsking kt kv l i) (findR (eqV P 40 kt) kv l i) := by
  intro l
  induction l with
  | nil => intro i _; exact QV.pure _
  | cons e r ih =>
    intro i hall
    obtain ⟨b, hb⟩ := hall e (List.mem_cons_self ..)
    have hr := ih (i + 1) fun e' he => hall e' (List.mem_cons_of_mem _ he)
    unfold Instr.findAsking
    simp only [findR, hb]
    refine QV.bind (eqV_ok 40 kt kv e.key b hb Op.maxDepth (by unfold Op.maxDepth; decide)) ?_
    cases b
    · exact hr
    · exact QV.pure _
theorem findKey_ok {kt : TypeId} {kv : Value} {es : Array MapEntry} {b0 : Bool} (h0 : eqV P 40 kt kv kv = some b0) (hall : Keys (eqV P 40 kt) kv es) : QV P (Instr.findKey kt kv es.toList) (findR (eqV P 40 kt) kv es.toList 0) := by
  obtain ⟨td, hu, hor⟩ := eqV_td (n := 39) h0
  unfold Instr.findKey
  refine QV.bind (QV.underlying hu) ?_
  unfold Keys at hall
  rcases hor with hs | ⟨fs, rfl⟩
  · rw [findNow_scal hu hs _ _ hall]
    exact QV.pure _
  · generalize es.toList = l at hall ⊢
    cases l with
    | nil => exact QV.pure _
    | cons e r =>
      have : Instr.findNow (.struct fs) kv (e :: r) 0 = none := rfl
      rw [this]
      exact findAsking_ok _ _ hall
theorem keyOk_spec {kt : TypeId} {kv : Value} (h : keyOk P kt kv = true) : (∃ b, eqV P 40 kt kv kv = some b) ∧ flatV kv = true := by
  unfold keyOk at h
  split at h
  · rename_i b hb; exact ⟨⟨b, hb⟩, h⟩
  · cases h
theorem bytes_self (s : ByteArray) : (s == s) = true := by cases s; exact beq_self_eq_true (α := Array UInt8) _
theorem flatC_bits {n : Nat} {v : Value} (h : flatC v = true) : Instr.sameBits n v v = true := by
  unfold flatC at h
  split at h
  · cases n <;> simp [Instr.sameBits]
  · cases n <;> exact bytes_self _
  · cases n <;> simp [Instr.sameBits]
  · cases h
theorem flat_bits {v : Value} (h : flatV v = true) : Instr.sameBits 10000 v v = true := by
  unfold flatV at h
  split at h
  · rename_i cs
    show (cs.size == cs.size && (cs.toList.zip cs.toList).all fun (x, y) => Instr.sameBits 9999 x y) = true
    rw [beq_self_eq_true, Bool.true_and, List.all_eq_true]
    rintro ⟨x, y⟩ hm
    obtain ⟨i, hi, e⟩ := List.getElem_of_mem hm
    rw [List.getElem_zip] at e
    cases e
    exact flatC_bits (List.all_eq_true.1 h _ (List.getElem_mem _))
  · exact flatC_bits h
theorem oLookup (k : Ok β st ρ L) {t : TypeId} {x key : Operand} {ok : Bool} : EffOk P ⟨d, .lookup t x key ok, ty, ps, af, gd⟩ β st ρ L (eLookup P X st t x key ok) := by
  unfold eLookup
  split
  · rename_i kt et m kv hu hx hk
    split
    · rename_i ti τ hko hi hτ
      obtain ⟨⟨b, hb⟩, hfl⟩ := keyOk_spec hko
      split
      · rename_i z hz
        split
        · rename_i z0 hz0
          have hzz : z = τ.val z0 := (τ.law _ _ hz0).symm
          have hq : QV P (zeroValue et) (τ.val z0) := hzz ▸ QV.zero hi hz
          split
          · exact fun q h next hm hn => v_lookup hu (k.v hx) (valOf_ok k hk) (fun es => findKey_ok hb) (fun em => ck_ok 40 _ _ _ _ hb _ (by decide)) hq hm fun r kr => hn r _ _ kr (.inr rfl)
          · exact fun q h next hm hn => v_lookup hu (k.v hx) (valOf_ok k hk) (fun es => findKey_ok hb) (fun em => ck_ok 40 _ _ _ _ hb _ (by decide)) hq hm fun r kr => hn r _ _ kr (.inr (τ.svl r.1))
        · trivial
      · trivial
    · trivial
  · trivial
theorem oMapSet (k : Ok β st ρ L) {t : TypeId} {x key val : Operand} : EffOk P ⟨d, .mapUpdate t x key val, ty, ps, af, gd⟩ β st ρ L (eMapSet P st t x key val) := by
  unfold eMapSet
  split
  · rename_i kt et m kv w hu hx hk hw
    split
    · rename_i hko
      obtain ⟨⟨b, hb⟩, hfl⟩ := keyOk_spec hko
      exact fun q h next hm hn => v_mapSet hu (k.v hx) (valOf_ok k hk) (valOf_ok k hw) (fun es => findKey_ok hb) (fun em => ck_ok 40 _ _ _ _ hb _ (by decide)) (flat_bits hfl) hm fun h' kk => hn () _ h' kk (.inl rfl)
    · trivial
  · trivial
theorem oRange (k : Ok β st ρ L) {t : TypeId} {x : Operand} : EffOk P ⟨d, .range t x, ty, ps, af, gd⟩ β st ρ L (eRange P st t x) := by
  unfold eRange
  split
  · rename_i kt et m hu hx
    exact fun q h next hm hn => v_range hu (k.v hx) hm fun a h' kk => hn a _ h' kk (.inr rfl)
  · trivial
theorem oNext (k : Ok β st ρ L) {x : Operand} : EffOk P ⟨d, .next x false, ty, ps, af, gd⟩ β st ρ L (eNext st x) := by
  unfold eNext
  split
  · rename_i a hx
    exact fun q h next hm hn => v_next (k.adr hx) hm fun r h' kk => hn r _ h' kk (.inr rfl)
  · trivial
theorem oEntry (k : Ok β st ρ L) {x : Operand} : EffOk P ⟨d, .entry x, ty, ps, af, gd⟩ β st ρ L (eEntry P X st d x) := by
  unfold eEntry
  split
  · rename_i d' a hx
    split
    · split
      · exact fun q h next hm hn => v_entry (k.adr hx) hm fun r kk => hn r _ _ kk (.inr rfl)
      · trivial
    · trivial
  · trivial
theorem oBuiltin (k : Ok β st ρ L) {b : Builtin} {args : Array Operand} {ts : Array TypeId} : EffOk P ⟨d, .call ⟨.builtin b, args, ts⟩, ty, ps, af, gd⟩ β st ρ L (eBuiltin P st b args.toList ts.toList) := by
  obtain ⟨al⟩ := args
  obtain ⟨tl⟩ := ts
  show EffOk P _ β st ρ L (eBuiltin P st b al tl)
  unfold eBuiltin
  split
  · rename_i x t
    split
    · rename_i s hu hx; exact ⟨_, rfl, y_lenS (k.v hx) rfl hu⟩
    · rename_i e a l c hu hx; exact ⟨_, rfl, y_len (s := ⟨a, l, c⟩) (k.v hx) rfl hu⟩
    · rename_i kt et m hu hx; exact fun q h next hm hn => v_mapLen hu (k.v hx) hm fun n kk => hn n _ _ kk (.inr rfl)
    · trivial
  · rename_i x t
    split
    · rename_i e a l c hu hx
      split
      · rename_i ti hi
        split
        · rename_i z hz
          split
          · rename_i hp
            exact fun q h next hm hn => v_clear hu hi hz hp (s := ⟨a, l, c⟩) (k.v hx) hm fun h' kk => hn () _ h' kk (.inl rfl)
          · trivial
        · trivial
      · trivial
    · trivial
  · rename_i x y t t'
    split
    · rename_i e a l c a' l' c' hu hx hy
      split
      · rename_i ti hi
        exact fun q h next hm hn => v_copy hu hi (s := ⟨a, l, c⟩) (r := ⟨a', l', c'⟩) (k.v hx) (k.v hy) hm fun n h' kk => hn n _ h' kk (.inr rfl)
      · trivial
    · trivial
  · rename_i x y t t'
    split
    · rename_i kt et m kv hu hx hk
      split
      · rename_i hko
        obtain ⟨⟨b, hb⟩, hfl⟩ := keyOk_spec hko
        exact fun q h next hm hn => v_mapDel hu (k.v hx) (valOf_ok k hk) (fun es => findKey_ok hb) (fun em => ck_ok 40 _ _ _ _ hb _ (by decide)) hm fun h' kk => hn () _ h' kk (.inl rfl)
      · trivial
    · trivial
  · rename_i x y
    split
    · rename_i kk a j b hx hy
      split
      · rename_i hk
        have := of_decide_eq_true hk
        subst this
        exact ⟨_, rfl, y_min (k.v hx) (k.v hy)⟩
      · trivial
    · trivial
  · rename_i x y
    split
    · rename_i kk a j b hx hy
      split
      · rename_i hk
        have := of_decide_eq_true hk
        subst this
        exact ⟨_, rfl, y_max (k.v hx) (k.v hy)⟩
      · trivial
    · trivial
  · rename_i x y t t'
    split
    · rename_i e e2 a l c hu hu' hx
      split
      · rename_i ti hi
        split
        · rename_i z hz hby
          split
          · rename_i i n hy
            split
            · rename_i bb hb
              split
              · rename_i new hg
                split
                · rename_i hpl
                  obtain ⟨cs, hc, kn⟩ := k.at hb
                  exact fun q h next hm hn => v_push hu hu' hi hz hby (s := ⟨a, l, c⟩) (k.v hx) (k.lit hy hb) hc (grabO_grab kn hg) hpl hm fun s h' ks => hn s _ h' ks (.inr rfl)
                · trivial
              · trivial
            · trivial
          · rename_i a' l' c' hy
            exact fun q h next hm hn => v_append hu hu' hi hz hby (s := ⟨a, l, c⟩) (x' := ⟨a', l', c'⟩) (k.v hx) (k.v hy) hm fun s h' ks => hn s _ h' ks (.inr rfl)
          · trivial
        · trivial
      · trivial
    · trivial
  · trivial
theorem oCall (k : Ok β st ρ L) {c : Call} : EffOk P ⟨d, .call c, ty, ps, af, gd⟩ β st ρ L (eCall P X st ⟨d, .call c, ty, ps, af, gd⟩ c) := by
  obtain ⟨cal, args, ts⟩ := c
  unfold eCall
  simp only
  split
  · exact oBuiltin k
  · rename_i f hc
    split
    · rename_i s hs
      have hf := spec_some hs
      subst hf
      obtain ⟨fn, cal⟩ := s.callee
      split
      · rename_i a ha
        have hv := decs_ok k ha
        split
        · rintro q h ⟨r, hr, kr⟩
          exact ⟨r, _, rfl, y_call (enc := fun r => outV (valsD s.R r)) hr (fun kk h hh => s.ok a kk h hh) cal hv, kr⟩
        · exact fun q h next hm hn => v_call (s.ok a q h hm) cal hv fun v h' ⟨r, e, kr⟩ => by subst e; exact hn r _ h' kr (.inr rfl)
      · trivial
    · trivial
  · rename_i x hc
    split
    · rename_i fv vl R h1 h2 h3
      exact fun q h next hm hn => v_callV (valOf_ok k h1) (valsOf_ok k h2) hm fun r h' kr => hn r _ h' kr (.inr rfl)
    · trivial
  · rename_i x name hc
    split
    · rename_i fv vl R h1 h2 h3
      exact fun q h next hm hn => v_invoke (valOf_ok k h1) (valsOf_ok k h2) hm fun r h' kr => hn r _ h' kr (.inr rfl)
    · trivial
theorem effOf_ok (k : Ok β st ρ L) (o : Oper) : EffOk P o β st ρ L (effOf P X st o) := by
  obtain ⟨d, op, ty, ps, af, gd⟩ := o
  unfold effOf
  split <;> try (rename_i e; cases e)
  · exact mv_ok k (y_move rfl)
  · exact mv_ok k (y_assign rfl)
  · exact oPick k
  · exact oLoad k
  · exact oStore k
  · exact oAlloc
  · exact oBox k
  · exact oNil k
  · exact oFieldAddr k
  · exact oField k
  · exact oExtract k
  · exact oUn k
  · exact oBin k
  · exact oConv k
  · exact oBuild k
  · exact oLit k
  · exact oIdxAddr k
  · exact oIdx k
  · exact oCut k
  · exact oCut3 k
  · exact oMakeSl k
  · exact fun q h next hm hn => v_makeMap hm fun r h' kk => hn r _ h' kk (.inr rfl)
  · exact oLookup k
  · exact oMapSet k
  · exact oMapSet (ty := ty) (ps := ps) (af := af) (gd := gd) k
  · exact oIface k
  · exact oAssert k
  · exact oRange k
  · exact oNext k
  · exact oEntry k
  · exact oFunc k
  · exact oCall k
  · trivial
end oks
end Go.Proofs.YtdleanjofhghnaaDoor.K
