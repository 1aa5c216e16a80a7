/- The rules for appending, for texts and bytes, for comparisons beyond integers. -/
import Derived.Test.YtlnlmideghepnaaK7
namespace Go.Proofs.Ytlnlmideghepnaa.K
open Go

section more
variable {P : Program} {C : PPost} {next : Post} {ρ : Env} {L h : H} {v : Value}
variable {d : Option Tmp} {ty : TypeId} {ps : String} {af : Array Edge} {gd : Option (Nat × Bool)}

def AV {α : Type} (P : Program) (s : Sem α) (v : α) : Prop := ∀ (h : H) (fl : Bool) (K : α → H → Bool → Prop) (E : Value → H → Prop), K v h fl → awp P s h fl K E
theorem AV.pure {α : Type} (v : α) : AV P (pure v : Sem α) v := fun _ _ _ _ k => k
theorem AV.bind {α β : Type} {s : Sem α} {f : α → Sem β} {a : α} {b : β} (x : AV P s a) (y : AV P (f a) b) : AV P (s >>= f) b := fun h fl _ _ k => (awp_bind s f h fl).2 (x h fl _ _ (y h fl _ _ k))
theorem AV.underlying {t : TypeId} {d : TypeDesc} (e : P.underlying t = some d) : AV P (underlying t) d := AV.bind (a := P) (fun _ _ _ _ k => k) (by rw [e]; exact AV.pure d)
theorem AV.typeInfo {t : TypeId} {i : TypeInfo} (e : P.info? t = some i) : AV P (typeInfo t) i := AV.bind (a := P) (fun _ _ _ _ k => k) (by rw [e]; exact AV.pure i)
theorem AV.sizeOf {t : TypeId} {i : TypeInfo} (e : P.info? t = some i) : AV P (sizeOf t) i.size := AV.bind (AV.typeInfo e) (AV.pure _)
theorem AV.zero {t : TypeId} {i : TypeInfo} {z : Value} (e : P.info? t = some i) (hz : i.zero = some z) : AV P (zeroValue t) z := AV.bind (AV.typeInfo e) (by rw [hz]; exact AV.pure z)
theorem AV.use {α β : Type} {s : Sem α} {a : α} (x : AV P s a) {f : α → Sem β} {hf : H} {fl : Bool} {K : β → H → Bool → Prop} {E : Value → H → Prop} (k : awp P (f a) hf fl K E) : awp P (s >>= f) hf fl K E := (awp_bind _ _ _ _).2 (x _ _ _ _ k)
/-- A reading at the state 'hf' alone. -/
def RV {α : Type} (P : Program) (hf : H) (s : Sem α) (v : α) : Prop := ∀ (fl : Bool) (K : α → H → Bool → Prop) (E : Value → H → Prop), K v hf fl → awp P s hf fl K E
theorem RV.use {α β : Type} {hf : H} {s : Sem α} {a : α} (x : RV P hf s a) {f : α → Sem β} {fl : Bool} {K : β → H → Bool → Prop} {E : Value → H → Prop} (k : awp P (f a) hf fl K E) : awp P (s >>= f) hf fl K E := (awp_bind _ _ _ _).2 (x _ _ _ k)
theorem rv_of_q {hf : H} {α : Type} {s : Sem α} {a : α} (x : ∀ (K : α → H → Prop) (E : Value → H → Prop), K a hf → qwp P s hf K E) (fl : Bool) (K : α → H → Bool → Prop) (E : Value → H → Prop) (k : K a hf false) (hfl : fl = false) : awp P s hf fl K E := by
  subst hfl
  exact awp_mono (fun y h' fl' kk => by obtain ⟨rfl, rfl, rfl⟩ := kk; exact k) (fun _ _ k => k.elim) _ _ _ (qwp_awp _ _ (x (fun y h' => y = a ∧ h' = hf) noE ⟨rfl, rfl⟩))
theorem cells_rv {a : Addr} {hf : H} {c : Array Value} {e : TypeId} {fz : Nat × Nat} (hsp : a.spot = none) (hb : hf a.block = some (.cells c e fz)) : ∀ (n i : Nat) (acc : Array Value) (l : List Value), grab c (a.off + i) n = some l → RV P hf (loadCellsFrom a i n acc) (acc ++ l.toArray) := by
  intro n
  induction n with
  | zero => intro i acc l hg fl K E k; simp only [grab, Option.some.injEq] at hg; subst hg; show K acc hf fl; simpa using k
  | succ n ih =>
    intro i acc l hg fl K E k
    simp only [grab] at hg
    cases h1 : c[a.off + i]? with
    | none => rw [h1] at hg; simp at hg
    | some x =>
      cases h2 : grab c (a.off + i + 1) n with
      | none => rw [h1, h2] at hg; simp at hg
      | some r =>
        rw [h1, h2] at hg
        simp only [Option.some.injEq] at hg
        subst hg
        refine (awp_bind _ _ _ _).2 ?_
        have ha : (a.add i).block = a.block ∧ (a.add i).off = a.off + i ∧ (a.add i).spot = none := by
          unfold Addr.add; split
          · subst_vars; exact ⟨rfl, rfl, hsp⟩
          · exact ⟨rfl, rfl, rfl⟩
        refine ⟨ha.2.2, c, e, fz, x, by rw [ha.1]; exact hb, by rw [ha.2.1]; exact h1, ih (i + 1) _ r h2 fl K E ?_⟩
        rw [show acc.push x ++ r.toArray = acc ++ (x :: r).toArray from by simp]
        exact k
/-- The first cells of a slice. -/
theorem first_rv {hf : H} {a : Option Addr} {len cap size n : Nat} {l : List Value} (hr : Row hf a l) (hl : a.isSome = true → l.length = n * size) : RV P hf (Builtin.firstCells size n (.slice a len cap)) l.toArray := by
  cases a with
  | none => intro fl K E k; rw [show l = [] from hr] at k; exact k
  | some a =>
    rcases hr with hr | ⟨hsp, c, e, fz, hb, hg⟩
    · subst hr
      intro fl K E k
      show awp P (loadCellsFrom a 0 (n * size) #[]) hf fl K E
      have h0 : n * size = 0 := (hl rfl).symm
      rw [h0]; exact k
    intro fl K E k
    show awp P (loadCellsFrom a 0 (n * size) #[]) hf fl K E
    rw [hl rfl] at hg
    exact cells_rv hsp hb (n * size) 0 #[] l hg fl K E (by rw [Array.empty_append]; exact k)
theorem grab_fits : ∀ {n : Nat} {c : Array Value} {off : Nat} {l : List Value}, grab c off n = some l → n = 0 ∨ off + n ≤ c.size := by
  intro n
  induction n with
  | zero => exact fun _ => .inl rfl
  | succ n ih =>
    intro c off l hg
    simp only [grab] at hg
    cases h1 : c[off]? with
    | none => rw [h1] at hg; simp at hg
    | some x =>
      cases h2 : grab c (off + 1) n with
      | none => rw [h1, h2] at hg; simp at hg
      | some r =>
        have hlt : off < c.size := by
          rcases Nat.lt_or_ge off c.size with q | q
          · exact q
          · rw [Array.getElem?_eq_none q] at h1; cases h1
        rcases ih h2 with q | q <;> exact .inr (by omega)
/-- A block's extent. -/
theorem holds_av {hf : H} {a : Addr} {n : Nat} {c : Array Value} {e : TypeId} {fz : Nat × Nat} (hsp : a.spot = none) (hb : hf a.block = some (.cells c e fz)) (hl : a.off + n ≤ c.size) : RV P hf (Builtin.holdsCells a n) true := fun fl K E k => by
  refine ⟨_, hb, ?_⟩
  show K (a.spot.isNone && decide (a.off + n ≤ c.size)) hf fl
  simpa [hsp, hl] using k

theorem frozen_rv {hf : H} {a : Addr} {o : Obj} (hb : hf a.block = some o) : RV P hf (frozen a) (frozenIn o a.off) := fun _ _ _ k => ⟨o, hb, k⟩
theorem RV.bind {α β : Type} {hf : H} {s : Sem α} {f : α → Sem β} {a : α} {b : β} (x : RV P hf s a) (y : RV P hf (f a) b) : RV P hf (s >>= f) b := fun fl K E k => (awp_bind _ _ _ _).2 (x fl _ _ (y fl K E k))
theorem RV.pure {α : Type} {hf : H} (a : α) : RV P hf (pure a : Sem α) a := fun _ _ _ k => k
theorem room_av {n : Nat} {hf : H} {fl : Bool} {K : Unit → H → Bool → Prop} {E : Value → H → Prop} (k : ∀ fl', K () hf fl') : awp P (askRoom n) hf fl K E := by
  unfold askRoom
  split
  · exact k _
  · exact k _
/-- append: 'm' elements, whose cells are 'new', behind the slice 's'. -/
theorem append_awp {s : Sl} {xa : Option Addr} {m xcap : Nat} {new : List Value} {t t' e e2 ty' : TypeId} {ti : TypeInfo} {z : Value} {hf : H} {K : Value → H → Bool → Prop} {E : Value → H → Prop}
    (hu : P.underlying t = some (.slice e)) (hu' : P.underlying t' = some (.slice e2)) (hi : P.info? e = some ti) (hz : ti.zero = some z) (hby : ti.bytes ≠ 0)
    (hnew : Row hf xa new) (hnl : xa.isSome = true → new.length = m * ti.size) (hpl : new.all plainVal = true)
    (fits : s.len + m ≤ s.cap → match s.a with
      | none => new = [] ∧ K (.slice none (s.len + m) s.cap) hf false
      | some a => (new = [] ∧ K (.slice (some a) (s.len + m) s.cap) hf false) ∨ (a.add (s.len * ti.size)).spot = none ∧ ∃ c e' fz, hf a.block = some (.cells c e' fz) ∧ (a.add (s.len * ti.size)).off + new.length ≤ c.size ∧
        (∀ i, i < new.length → frozenIn (.cells c e' fz) ((a.add (s.len * ti.size)).off + i) = false) ∧ K (.slice (some a) (s.len + m) s.cap) (upd hf a.block (.cells (lay c (a.add (s.len * ti.size)).off new) e' fz)) false)
    (grows : ¬ s.len + m ≤ s.cap → ∃ old, Row hf s.a old ∧ (s.a.isSome = true → old.length = s.len * ti.size) ∧
      Room ti.bytes (s.len + m) s.cap ∧
      ∀ b cap fl, hf b = none → s.len + m ≤ cap → K (.slice (some ⟨b, 0, none⟩) (s.len + m) cap) (upd hf b (.cells (old.toArray ++ new.toArray ++ Builtin.zeroCells z.cells (cap - (s.len + m))) e (0, 0))) fl) :
    awp P (Builtin.append_ #[t, t'] ty' #[s.val, .slice xa m xcap]) hf false K E := by
  unfold Builtin.append_ Sl.val
  simp only [List.getElem?_toArray, List.getElem?_cons_zero, List.getElem?_cons_succ]
  refine AV.use (AV.underlying hu) ?_
  simp only []
  refine AV.use (AV.sizeOf hi) ?_
  refine AV.use (AV.underlying hu') ?_
  refine AV.use (a := false) (AV.pure _) ?_
  simp only [Bool.false_eq_true, if_false]
  refine AV.use (a := m) (AV.pure m) ?_
  simp only [Bool.not_false, if_true]
  split
  · rename_i hle
    refine RV.use (first_rv hnew hnl) ?_
    have f := fits hle
    cases ha : s.a with
    | none =>
      rw [ha] at f
      exact f.2
    | some a =>
      rw [ha] at f
      rcases f with ⟨rfl, k⟩ | ⟨hsp, c, e', fz, hb, hl, hfz, k⟩
      · exact (awp_bind _ _ _ _).2 k
      refine (awp_bind _ _ _ _).2 ?_
      have hbl : (a.add (s.len * ti.size)).block = a.block := by unfold Addr.add; split <;> rfl
      refine storeCells_run hsp new 0 hf c false _ hpl (by rw [hbl]; exact hb) (by simpa using hl) (by simpa using hfz) ?_
      rw [hbl]
      exact k
  · rename_i hgt
    obtain ⟨old, hold, hol, hroom, k⟩ := grows hgt
    refine AV.use (AV.typeInfo hi) ?_
    rw [if_neg (fun hh => by
      rcases hh.2 with q | q
      · cases q
      · exact hby q)]
    refine AV.use (AV.typeInfo hi) ?_
    rw [if_neg (Nat.not_lt.2 hroom)]
    · refine (awp_bind _ _ _ _).2 ?_
      intro q
      have hcap : s.len + m ≤ (Question.appendCap (s.len + m) s.cap e).cut q := by simp only [Question.cut]; omega
      generalize (Question.appendCap (s.len + m) s.cap e).cut q = cap at hcap
      show awp P (do let i ← typeInfo e; _) _ _ _ _
      refine AV.use (AV.typeInfo hi) ?_
      refine (awp_bind _ _ _ _).2 (room_av fun fl => ?_)
      refine RV.use (first_rv hold hol) (RV.use (first_rv hnew hnl) (AV.use (AV.zero hi hz) ?_))
      exact fun b hb => k b cap fl hb hcap
theorem un_at {b : Nat} {o : Obj} (ap : Apart L h) (hb : h b = some o) : un L h b = some o := by
  rcases ap b with q | q
  · rw [un_right q]; exact hb
  · rw [q] at hb; cases hb
theorem Row_un {a : Option Addr} {l : List Value} (ap : Apart L h) (x : Row h a l) : Row (un L h) a l := by
  cases a with
  | none => exact x
  | some a => exact x.imp id (At_un ap)
/-- The common part: 's' lies in known memory, the source in 'un L h'. -/
theorem app_awp {s : Sl} {xa : Option Addr} {m xcap : Nat} {new : List Value} {t t' e e2 ty' : TypeId} {ti : TypeInfo} {z : Value} {k : Sl → H → Prop} {o : Oper} {E : Value → H → Prop}
    (hu : P.underlying t = some (.slice e)) (hu' : P.underlying t' = some (.slice e2)) (hi : P.info? e = some ti) (hz : ti.zero = some z) (hby : ti.bytes ≠ 0)
    (ap : Apart L h) (hm : mApp e ti.size ti.bytes z.cells m new s k h) (hnew : Row (un L h) xa new) (hnl : xa.isSome = true → new.length = m * ti.size) (hpl : new.all plainVal = true)
    (nx : ∀ s' h', k s' h' → next (put ρ o.dst s'.val) L h') : awp P (Builtin.append_ #[t, t'] ty' #[s.val, .slice xa m xcap]) (un L h) false (fun v hf fl => upon P o ρ L h next C (.value v) hf fl) E := by
  have fin : ∀ (s' : Sl) (h' : H) (hf : H) (fl : Bool), hf = un L h' → (Apart L h → Apart L h') → k s' h' → upon P o ρ L h next C (.value s'.val) hf fl := fun s' h' hf fl e1 e2 kk => ⟨trivial, L, h', e1, e2, .refl _ _, nx s' h' kk⟩
  refine append_awp hu hu' hi hz hby hnew hnl hpl (fun hle => ?_) (fun hgt => ?_)
  · have := hm.1 hle
    cases ha : s.a with
    | none =>
      rw [ha] at this
      exact ⟨this.1, fin ⟨none, s.len + m, s.cap⟩ h _ _ rfl id this.2⟩
    | some a =>
      rw [ha] at this
      rcases this with ⟨rfl, kk⟩ | ⟨hsp, c, e', fz, hb, hl, hfz, kk⟩
      · exact .inl ⟨rfl, fin ⟨some a, s.len + m, s.cap⟩ h _ _ rfl id kk⟩
      obtain ⟨e1, e2⟩ := un_put (o' := .cells (lay c (a.add (s.len * ti.size)).off new) e' fz) ap hb
      exact .inr ⟨hsp, c, e', fz, un_at ap hb, hl, hfz, fin ⟨some a, s.len + m, s.cap⟩ _ _ _ e1 (fun _ => e2) kk⟩
  · obtain ⟨old, hold, hol, hroom, kk⟩ := hm.2 hgt
    refine ⟨old, Row_un ap hold, hol, hroom, fun b cap fl hb hcap => ?_⟩
    · obtain ⟨e1, _, e3⟩ := un_new (o := .cells (old.toArray ++ new.toArray ++ Builtin.zeroCells z.cells (cap - (s.len + m))) e (0, 0)) hb
      exact fin ⟨some ⟨b, 0, none⟩, s.len + m, cap⟩ _ _ _ e1 (fun ap => (e3 ap).1) (kk b cap (un_none.1 hb).2 hcap)
theorem exec_append {x y : Operand} {ts : List TypeId} {vx vy : Value} (hx : ev ρ x = vx) (hy : ev ρ y = vy) : execOp (ev ρ) ⟨d, .call ⟨.builtin .append, [x, y].toArray, ts.toArray⟩, ty, ps, af, gd⟩ = (do pure (.value (← Builtin.append_ ts.toArray ty #[vx, vy])) : Sem Next) := by
  subst hx; subst hy
  have e : ([x, y].toArray.map (ev ρ)) = #[ev ρ x, ev ρ y] := List.map_toArray ..
  rw [← e]
  rfl
/-- append of elements that are written out: they lie in a box of their own. -/
theorem v_push {x y : Operand} {s : Sl} {b m xcap : Nat} {new : List Value} {cs : Array Value} {t t' e e2 e3 : TypeId} {ti : TypeInfo} {z : Value} {k : Sl → H → Prop}
    (hu : P.underlying t = some (.slice e)) (hu' : P.underlying t' = some (.slice e2)) (hi : P.info? e = some ti) (hz : ti.zero = some z) (hby : Nat.beq ti.bytes 0 = false)
    (hx : ev ρ x = s.val) (hy : ev ρ y = .slice (some ⟨b, 0, none⟩) m xcap) (hk : L b = some (.cells cs e3 (0, 0))) (hg : grab cs 0 (m * ti.size) = some new)
    (hpl : new.all plainVal = true) (hm : mApp e ti.size ti.bytes z.cells m new s k h)
    (nx : ∀ s' h', k s' h' → next (put ρ d s'.val) L h') : aOp P ⟨d, .call ⟨.builtin .append, [x, y].toArray, [t, t'].toArray⟩, ty, ps, af, gd⟩ ρ L h next C := fun ap => by
  show awp P (execOp (ev ρ) ⟨d, .call ⟨.builtin .append, [x, y].toArray, [t, t'].toArray⟩, ty, ps, af, gd⟩) _ _ _ _
  rw [exec_append hx hy]
  refine (awp_bind _ _ _ _).2 ?_
  have hgb := hk
  have hl := grab_len hg
  refine app_awp (o := ⟨d, .call ⟨.builtin .append, [x, y].toArray, [t, t'].toArray⟩, ty, ps, af, gd⟩) hu hu' hi hz (fun e => by rw [e] at hby; cases hby) ap hm ?_ (fun _ => hl) hpl nx
  exact .inr ⟨rfl, cs, e3, (0, 0), un_left hgb, by rw [hl]; exact hg⟩
theorem v_append {x y : Operand} {s x' : Sl} {t t' e e2 : TypeId} {ti : TypeInfo} {z : Value} {k : Sl → H → Prop} (hu : P.underlying t = some (.slice e)) (hu' : P.underlying t' = some (.slice e2)) (hi : P.info? e = some ti) (hz : ti.zero = some z) (hby : Nat.beq ti.bytes 0 = false)
    (hx : ev ρ x = s.val) (hy : ev ρ y = x'.val) (hm : mAppend e ti.size ti.bytes z.cells s x' k h)
    (nx : ∀ s' h', k s' h' → next (put ρ d s'.val) L h') : aOp P ⟨d, .call ⟨.builtin .append, [x, y].toArray, [t, t'].toArray⟩, ty, ps, af, gd⟩ ρ L h next C := fun ap => by
  show awp P (execOp (ev ρ) ⟨d, .call ⟨.builtin .append, [x, y].toArray, [t, t'].toArray⟩, ty, ps, af, gd⟩) _ _ _ _
  rw [exec_append hx hy]
  refine (awp_bind _ _ _ _).2 ?_
  obtain ⟨new, hrow, hnl, hpl, hm⟩ := hm
  exact app_awp (o := ⟨d, .call ⟨.builtin .append, [x, y].toArray, [t, t'].toArray⟩, ty, ps, af, gd⟩) hu hu' hi hz (fun e => by rw [e] at hby; cases hby) ap hm (Row_un ap hrow) hnl hpl nx

/-! Equality. -/
theorem y_eqB {t u : TypeId} {x y : Operand} {a b : Bool} (hu : P.underlying t = some .bool) (hx : ev ρ x = .bool a) (hy : ev ρ y = .bool b) : YE P ⟨d, .binOp .eql t x y u, ty, ps, af, gd⟩ ρ (.bool (a == b)) := by
  refine YE.val rfl rfl ?_
  show QV P (do eqGuard .eql t x y (ev ρ x) (ev ρ y); binOp .eql t (ev ρ x) (ev ρ y)) _
  rw [hx, hy]
  refine QV.bind (a := ()) (QV.pure _) ?_
  refine QV.bind (a := (a == b)) ?_ (QV.pure _)
  show QV P (Op.equalIn Op.maxDepth t (.bool a) (.bool b)) _
  unfold Op.maxDepth Op.equalIn
  exact QV.bind (QV.underlying hu) (QV.pure _)
theorem y_neB {t u : TypeId} {x y : Operand} {a b : Bool} (hu : P.underlying t = some .bool) (hx : ev ρ x = .bool a) (hy : ev ρ y = .bool b) : YE P ⟨d, .binOp .neq t x y u, ty, ps, af, gd⟩ ρ (.bool (!(a == b))) := by
  refine YE.val rfl rfl ?_
  show QV P (do eqGuard .neq t x y (ev ρ x) (ev ρ y); binOp .neq t (ev ρ x) (ev ρ y)) _
  rw [hx, hy]
  refine QV.bind (a := ()) (QV.pure _) ?_
  refine QV.bind (a := (a == b)) ?_ (QV.pure _)
  show QV P (Op.equalIn Op.maxDepth t (.bool a) (.bool b)) _
  unfold Op.maxDepth Op.equalIn
  exact QV.bind (QV.underlying hu) (QV.pure _)
end more
end Go.Proofs.Ytlnlmideghepnaa.K
