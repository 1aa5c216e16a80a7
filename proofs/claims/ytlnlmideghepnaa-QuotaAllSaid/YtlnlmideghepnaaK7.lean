/- The rules for calls, results, building of structs and slices, appending. -/
import Derived.Test.YtlnlmideghepnaaK6
namespace Go.Proofs.Ytlnlmideghepnaa.K
open Go

section calls
variable {P : Program} {C : PPost} {next : Post} {ρ : Env} {L h : H} {v : Value}
variable {d : Option Tmp} {ty : TypeId} {ps : String} {af : Array Edge} {gd : Option (Nat × Bool)}
structure Callee (P : Program) (g : FuncId) (fn : Func) : Prop where
  here : P.funcs[g]? = some fn
  name : (fn.name == "runtime.NumGoroutine") = false
  body : fn.body.isNone = false
theorem callFunc_awp {g : FuncId} {fn : Func} (c : Callee P g fn) {args : Array Value} {hf : H} {fl : Bool} {K : Next → H → Bool → Prop} {E : Value → H → Prop} (k : K (.enter g args) hf fl) : awp P (callFunc g args) hf fl K E := by
  unfold callFunc
  refine (awp_bind _ _ _ _).2 ?_
  show awp P (match P.funcs[g]? with | none => _ | some fn => _) hf fl K E
  rw [c.here]
  simp only [c.name, c.body, Bool.false_eq_true, if_false]
  exact k
theorem exec_call {g : FuncId} {l : List Operand} {ts : Array TypeId} : execOp (ev ρ) ⟨d, .call ⟨.value (.func g), l.toArray, ts⟩, ty, ps, af, gd⟩ = callFunc g ((#[] ++ l.toArray.map (ev ρ)) ++ #[]) := rfl
theorem v_call {g : FuncId} {fn : Func} {l : List Operand} {vl : List Value} {ts : Array TypeId} {R : Value → H → Prop} (hm : ACall P g vl.toArray h R noP) (c : Callee P g fn) (hv : l.map (ev ρ) = vl) (nx : ∀ v h', R v h' → next (put ρ d v) L h') :
    aOp P ⟨d, .call ⟨.value (.func g), l.toArray, ts⟩, ty, ps, af, gd⟩ ρ L h next C := fun _ => by
  show awp P (execOp (ev ρ) ⟨d, .call ⟨.value (.func g), l.toArray, ts⟩, ty, ps, af, gd⟩) _ _ _ _
  rw [exec_call, List.map_toArray, hv]
  simp only [Array.empty_append, Array.append_empty]
  exact callFunc_awp c (⟨trivial, L, h, rfl, id, .refl _ _, hm.mono (fun v h'' k _ => nx v h'' k) fun _ _ k => k.elim⟩)
theorem y_call {T : Type} {enc : T → Value} {g : FuncId} {fn : Func} {l : List Operand} {vl : List Value} {ts : Array TypeId} {m : (T → H → Prop) → H → Prop} {r : T} (hp : ∀ (h' : H) (k' : T → H → Prop), k' r h' → m k' h')
    (hc : ∀ (k : T → H → Prop) (h : H), m k h → ACall P g vl.toArray h (fun v h' => ∃ r, v = enc r ∧ k r h') noP) (c : Callee P g fn) (hv : l.map (ev ρ) = vl) : YE P ⟨d, .call ⟨.value (.func g), l.toArray, ts⟩, ty, ps, af, gd⟩ ρ (enc r) := fun L' h' next C k =>
  v_call (hc (fun r' h'' => r' = r ∧ h'' = h') h' (hp h' _ ⟨rfl, rfl⟩)) c hv fun v h'' ⟨r', hv', hr, hh⟩ => by subst hv'; subst hr; subst hh; exact k

/-! Results. -/
theorem rds_load_scalar {t : TypeId} {td : TypeDesc} {a : Addr} {hf : H} {c : Array Value} {e : TypeId} {fz : Nat × Nat} (hu : P.underlying t = some td) (hs : aggB td = false) (hsp : a.spot = none) (hb : hf a.block = some (.cells c e fz)) (hv : c[a.off]? = some v) : rds P hf v (loadVar t a) := by
  refine rds_bind (x := false) ?_ ?_
  · refine rds_bind (x := td) (rds_bind (x := P) rfl (by rw [hu]; rfl)) ?_
    cases td <;> first | rfl | cases hs
  · exact ⟨hsp, c, e, fz, v, hb, hv, rfl⟩
theorem rds_loadFrom {a : Addr} {hf : H} {c : Array Value} {e : TypeId} {fz : Nat × Nat} (hsp : a.spot = none) (hb : hf a.block = some (.cells c e fz)) : ∀ (n i : Nat) (acc : Array Value) (l : List Value), grab c (a.off + i) n = some l → rds P hf (acc ++ l.toArray) (loadCellsFrom a i n acc) := by
  intro n
  induction n with
  | zero => intro i acc l hg; simp only [grab, Option.some.injEq] at hg; subst hg; show acc = _; simp
  | succ n ih =>
    intro i acc l hg
    simp only [grab] at hg
    cases h1 : c[a.off + i]? with
    | none => rw [h1] at hg; simp at hg
    | some x =>
      cases h2 : grab c (a.off + i + 1) n with
      | none => rw [h1, h2] at hg; simp at hg
      | some r =>
        rw [h1, h2] at hg
        simp only [Option.some.injEq] at hg
        subst hg
        have ha : (a.add i).block = a.block ∧ (a.add i).off = a.off + i ∧ (a.add i).spot = none := by
          unfold Addr.add; split
          · subst_vars; exact ⟨rfl, rfl, hsp⟩
          · exact ⟨rfl, rfl, rfl⟩
        have := ih (i + 1) (acc.push x) r h2
        rw [show acc.push x ++ r.toArray = acc ++ (x :: r).toArray from by simp] at this
        exact ⟨ha.2.2, c, e, fz, x, by rw [ha.1]; exact hb, by rw [ha.2.1]; exact h1, this⟩
theorem rds_load_agg {t : TypeId} {td : TypeDesc} {ti : TypeInfo} {a : Addr} {hf : H} {c : Array Value} {e : TypeId} {fz : Nat × Nat} {l : List Value} (hu : P.underlying t = some td) (hs : aggB td = true) (hi : P.info? t = some ti) (hsp : a.spot = none) (hb : hf a.block = some (.cells c e fz)) (hv : grab c a.off ti.size = some l) :
    rds P hf (.agg l.toArray) (loadVar t a) := by
  refine rds_bind (x := true) ?_ ?_
  · refine rds_bind (x := td) (rds_bind (x := P) rfl (by rw [hu]; rfl)) ?_
    cases td <;> first | rfl | cases hs
  · refine rds_bind (x := ti.size) (rds_bind (x := ti) (rds_bind (x := P) rfl (by rw [hi]; rfl)) rfl) ?_
    refine rds_bind (x := l.toArray) ?_ rfl
    have := rds_loadFrom (P := P) hsp hb ti.size 0 #[] l hv
    rw [Array.empty_append] at this
    exact this
/-- The results, one by one. -/
def RdsL (P : Program) (hf : H) (ρ : Env) : List ResultVar → List Value → Prop
  | [], [] => True
  | .tmp t :: r, v :: vs => ρ t = v ∧ RdsL P hf ρ r vs
  | .cell a t :: r, v :: vs => (∃ ad, ρ a = .pointer (some ad) ∧ rds P hf v (loadVar t ad)) ∧ RdsL P hf ρ r vs
  | _, _ => False
theorem rds_list {hf : H} : ∀ {rs : List ResultVar} {vs : List Value}, RdsL P hf ρ rs vs → rds P hf vs (rs.mapM fun | .tmp t => pure (ρ t) | .cell a t => do loadVar t (← asAddr (ρ a))) := by
  intro rs
  induction rs with
  | nil => intro vs h; cases vs with | nil => rfl | cons => exact h.elim
  | cons r rs ih =>
    intro vs h
    rw [List.mapM_cons]
    cases vs with
    | nil => cases r <;> exact h.elim
    | cons v vs =>
      cases r with
      | tmp t => exact rds_bind (x := v) (by show ρ t = v; exact h.1) (rds_bind (ih h.2) rfl)
      | cell a t =>
        obtain ⟨⟨ad, ha, hl⟩, hr⟩ := h
        refine rds_bind (x := v) ?_ (rds_bind (ih hr) rfl)
        show rds P hf v (do loadVar t (← asAddr (ρ a)))
        rw [ha]
        exact rds_bind (x := ad) rfl hl
def outV : List Value → Value
  | [x] => x
  | vs => .tuple vs.toArray
theorem rds_results {fn : Func} {hf : H} {rs : List ResultVar} {vs : List Value} (hr : fn.results = rs.toArray) (hl : RdsL P hf ρ rs vs) (hv : outV vs = v) : rds P hf v (resultsE fn ρ) := by
  unfold resultsE
  rw [hr, List.mapM_toArray]
  refine rds_bind (x := vs.toArray) (rds_bind (rds_list hl) rfl) ?_
  show _ = v
  rw [← hv]
  match vs with
  | [] => rfl
  | [x] => rfl
  | x :: y :: r => simp [outV]
theorem out_one {Q : Value → H → Prop} {fn : Func} (vs : List Value) (v : Value) {rs : List ResultVar} (hr : fn.results = rs.toArray) (hl : RdsL P (un L h) ρ rs vs) (hv : outV vs = v) (k : Q v h) : Out P fn Q ρ L h := ⟨v, rds_results hr hl hv, k⟩
/-! Structs and slices that are written out. -/
def sizesOf (P : Program) : List Field → Option (List (Nat × Nat))
  | [] => some []
  | f :: r => match P.info? f.type, sizesOf P r with
    | some i, some l => some ((f.offset, i.size) :: l)
    | _, _ => none
theorem sizes_nil : sizesOf P [] = some [] := rfl
theorem sizes_cons {f : Field} {r : List Field} {i : TypeInfo} {l : List (Nat × Nat)} (h1 : P.info? f.type = some i) (h2 : sizesOf P r = some l) : sizesOf P (f :: r) = some ((f.offset, i.size) :: l) := by simp only [sizesOf, h1, h2]
theorem QV.map {α β : Type} {s : Sem α} {a : α} (f : α → β) (x : QV P s a) : QV P (f <$> s) (f a) := QV.bind x (QV.pure _)
theorem sizes_run : ∀ {fl : List Field} {l : List (Nat × Nat)}, sizesOf P fl = some l → QV P (fl.mapM fun f => do pure (f.offset, ← sizeOf f.type)) l := by
  intro fl
  induction fl with
  | nil => intro l h; simp only [sizesOf, Option.some.injEq] at h; subst h; exact QV.pure _
  | cons f r ih =>
    intro l h
    simp only [sizesOf] at h
    cases h1 : P.info? f.type with
    | none => rw [h1] at h; simp at h
    | some i =>
      cases h2 : sizesOf P r with
      | none => rw [h1, h2] at h; simp at h
      | some q =>
        rw [h1, h2] at h
        simp only [Option.some.injEq] at h
        subst h
        rw [List.mapM_cons]
        exact QV.bind (QV.bind (QV.sizeOf h1) (QV.pure _)) (QV.bind (ih h2) (QV.pure _))
theorem y_build {t : TypeId} {ti : TypeInfo} {fl : List Field} {pl : List (Nat × Nat)} {l : List (Nat × Operand)} {vl : List (Nat × Value)} {z : Value} {cs : Array Value} (hu : P.underlying t = some (.struct fl.toArray)) (hi : P.info? t = some ti) (hz : ti.zero = some z) (hp : sizesOf P fl = some pl)
    (hv : (l.map fun p => (p.1, ev ρ p.2)) = vl) (hf : Instr.fill (fun i => pl.toArray[i]?) z.cells vl = some cs) : YE P ⟨d, .build t l.toArray, ty, ps, af, gd⟩ ρ (.agg cs) := by
  refine YE.val rfl rfl ?_
  show QV P (Instr.build t (l.toArray.map fun p => (p.1, ev ρ p.2))) _
  rw [List.map_toArray, hv]
  unfold Instr.build
  refine QV.bind (QV.zero hi hz) (QV.bind (QV.underlying hu) ?_)
  simp only []
  rw [List.mapM_toArray]
  refine QV.bind (QV.map _ (sizes_run hp)) ?_
  simp only [hf]
  exact QV.pure _
theorem fills {t e : TypeId} {ti : TypeInfo} {n : Nat} {vl : List (Nat × Value)} {z : Value} {cs : Array Value} {hf : H} {K : Value → H → Prop} {E : Value → H → Prop} (hu : P.underlying t = some (.slice e)) (hi : P.info? e = some ti) (hz : ti.zero = some z) (hn : Nat.ble (n * ti.size) (2 ^ 24) = true)
    (hc : Instr.fill (fun i => some (i * ti.size, ti.size)) ((List.range (n * ti.size)).map fun j => (if n * ti.size = 0 then #[] else z.cells)[j % (if n * ti.size = 0 then #[] else z.cells).size]!).toArray vl = some cs)
    (k : ∀ b, hf b = none → K (.slice (some ⟨b, 0, none⟩) n n) (upd hf b (.cells cs e (0, 0)))) : qwp P (Instr.buildSlice t n vl.toArray) hf K E := by
  unfold Instr.buildSlice
  refine (qwp_bind _ _ _).2 (QV.underlying hu hf _ _ ?_)
  simp only []
  refine (qwp_bind _ _ _).2 (QV.sizeOf hi hf _ _ ?_)
  rw [if_neg (by have := Nat.le_of_ble_eq_true hn; omega)]
  have fin : qwp P (match Instr.fill (fun i => some (i * ti.size, ti.size)) ((Array.range (n * ti.size)).map fun j => (if n * ti.size = 0 then #[] else z.cells)[j % (if n * ti.size = 0 then #[] else z.cells).size]!) vl with
      | some cells => do pure (.slice (some (← newRow e cells)) n n)
      | x => stuck "buildSlice: a part of the wrong size" : Sem Value) hf K E := by
    rw [show Array.range (n * ti.size) = (List.range (n * ti.size)).toArray from (List.toArray_range ..).symm, List.map_toArray, hc]
    exact fun b hb => k b hb
  have q0 : QV P (if n * ti.size = 0 then pure #[] else do pure (← zeroValue e).cells : Sem (Array Value)) (if n * ti.size = 0 then #[] else z.cells) := by
    split
    · exact QV.pure _
    · exact QV.bind (QV.zero hi hz) (QV.pure _)
  have sp : ∀ (f : Array Value → Sem Value), qwp P (f (if n * ti.size = 0 then #[] else z.cells)) hf K E → qwp P (do let zero ← (if n * ti.size = 0 then pure #[] else do pure (← zeroValue e).cells : Sem (Array Value)); f zero) hf K E := fun f x => (qwp_bind _ _ _).2 (q0 hf _ _ x)
  have := sp (fun zero => match Instr.fill (fun i => some (i * ti.size, ti.size)) ((Array.range (n * ti.size)).map fun j => zero[j % zero.size]!) vl with
      | some cells => do pure (.slice (some (← newRow e cells)) n n)
      | x => stuck "buildSlice: a part of the wrong size") fin
  by_cases h0 : n * ti.size = 0
  · rw [if_pos h0] at this ⊢
    exact this
  · rw [if_neg h0] at this ⊢
    rw [bind_assoc] at this
    exact this
theorem exec_lit {t : TypeId} {n : Nat} {l : List (Nat × Operand)} : execOp (ev ρ) ⟨d, .buildSlice t n l.toArray, ty, ps, af, gd⟩ = (do pure (.value (← Instr.buildSlice t n (l.map fun p => (p.1, ev ρ p.2)).toArray)) : Sem Next) := by
  have e : (l.toArray.map fun (i, x) => (i, ev ρ x)) = (l.map fun p => (p.1, ev ρ p.2)).toArray := List.map_toArray ..
  rw [← e]
  rfl
theorem v_lit {t e : TypeId} {ti : TypeInfo} {n : Nat} {l : List (Nat × Operand)} {vl : List (Nat × Value)} {z : Value} {cs : Array Value} {k : Addr → H → Prop} (hm : mNew e cs k h) (hu : P.underlying t = some (.slice e)) (hi : P.info? e = some ti) (hz : ti.zero = some z) (hn : Nat.ble (n * ti.size) (2 ^ 24) = true) (hv : (l.map fun p => (p.1, ev ρ p.2)) = vl)
    (hc : Instr.fill (fun i => some (i * ti.size, ti.size)) ((List.range (n * ti.size)).map fun j => (if n * ti.size = 0 then #[] else z.cells)[j % (if n * ti.size = 0 then #[] else z.cells).size]!).toArray vl = some cs)
    (nx : ∀ a h', k a h' → next (put ρ d (.slice (some a) n n)) L h') : aOp P ⟨d, .buildSlice t n l.toArray, ty, ps, af, gd⟩ ρ L h next C := by
  refine aOp_q (K := fun v hf => ∃ b, un L h b = none ∧ v = .slice (some ⟨b, 0, none⟩) n n ∧ hf = upd (un L h) b (.cells cs e (0, 0))) rfl exec_lit (fun _ => ?_) (fun v hf kk => ?_)
  · rw [hv]
    exact fills hu hi hz hn hc fun b hb => ⟨b, hb, rfl, rfl⟩
  · obtain ⟨b, hb, rfl, rfl⟩ := kk
    obtain ⟨e1, _, e3⟩ := un_new (o := .cells cs e (0, 0)) hb
    exact ⟨L, _, e1, fun ap => (e3 ap).1, .refl _ _, nx _ _ (hm b (un_none.1 hb).2)⟩
theorem b_lit {t e : TypeId} {ti : TypeInfo} {n : Nat} {l : List (Nat × Operand)} {vl : List (Nat × Value)} {z : Value} {cs : Array Value} (hu : P.underlying t = some (.slice e)) (hi : P.info? e = some ti) (hz : ti.zero = some z) (hn : Nat.ble (n * ti.size) (2 ^ 24) = true)
    (hv : (l.map fun p => (p.1, ev ρ p.2)) = vl) (hc : Instr.fill (fun i => some (i * ti.size, ti.size)) ((List.range (n * ti.size)).map fun j => (if n * ti.size = 0 then #[] else z.cells)[j % (if n * ti.size = 0 then #[] else z.cells).size]!).toArray vl = some cs)
    (nx : ∀ b, L b = none → next (put ρ d (.slice (some ⟨b, 0, none⟩) n n)) (upd L b (.cells cs e (0, 0))) h) : aOp P ⟨d, .buildSlice t n l.toArray, ty, ps, af, gd⟩ ρ L h next C := by
  refine aOp_q (K := fun v hf => ∃ b, un L h b = none ∧ v = .slice (some ⟨b, 0, none⟩) n n ∧ hf = upd (un L h) b (.cells cs e (0, 0))) rfl exec_lit (fun _ => ?_) (fun v hf kk => ?_)
  · rw [hv]
    exact fills hu hi hz hn hc fun b hb => ⟨b, hb, rfl, rfl⟩
  · obtain ⟨b, hb, rfl, rfl⟩ := kk
    obtain ⟨_, e2, e3⟩ := un_new (o := .cells cs e (0, 0)) hb
    refine ⟨_, h, e2, fun ap => (e3 ap).2, ?_, nx b (un_none.1 hb).1⟩
    intro z o hz
    rw [upd_ne _ _ (fun e => by rw [e, (un_none.1 hb).1] at hz; cases hz)]; exact hz
end calls
end Go.Proofs.Ytlnlmideghepnaa.K
