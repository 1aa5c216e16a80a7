/- The rules for maps. -/
import Derived.Test.YtlnlmideghepnaaK10
namespace Go.Proofs.Ytlnlmideghepnaa.K
open Go

/-- A map's entries; how many it has had. -/
def MapAt (h : H) (r : Option Nat) (es : Array MapEntry) (cl : Nat) : Prop := match r with
  | none => es = #[] ∧ cl = 0
  | some b => h b = some (.map es cl)
/-- Where a key stands, by an equality. -/
def findR (eq : Value → Value → Option Bool) (key : Value) : List MapEntry → Nat → Option (Nat × Value)
  | [], _ => none
  | e :: r, i => match eq key e.key with
    | some true => some (i, e.val)
    | _ => findR eq key r (i + 1)
/-- Each key that is held can be compared. -/
def Keys (eq : Value → Value → Option Bool) (key : Value) (es : Array MapEntry) : Prop := ∀ e ∈ es.toList, ∃ b, eq key e.key = some b
def mMakeMap (k : Option Nat → H → Prop) : H → Prop := fun h => ∀ b, h b = none → k (some b) (upd h b (.map #[] 0))
def mLookup {X : Type} (eq : Value → Value → Option Bool) (vc : X → Value) (z : X) (m : Option Nat) (key : Value) (k : X × Bool → H → Prop) : H → Prop := fun h =>
  ∃ es cl, MapAt h m es cl ∧ Keys eq key es ∧ match findR eq key es.toList 0 with
    | none => k (z, false) h
    | some (_, v) => ∃ x, v = vc x ∧ k (x, true) h
def mMapSet (eq : Value → Value → Option Bool) (m : Option Nat) (key val : Value) (k : H → Prop) : H → Prop := fun h =>
  ∃ b es cl, m = some b ∧ h b = some (.map es cl) ∧ Keys eq key es ∧ match findR eq key es.toList 0 with
    | none => k (upd h b (.map (es.push { key, val, born := cl }) (cl + 1)))
    | some (i, _) => (es[i]?).map (·.key) = some key ∧ k (upd h b (.map (es.modify i fun e => { e with key, val := val }) cl))
def mMapDel (eq : Value → Value → Option Bool) (m : Option Nat) (key : Value) (k : H → Prop) : H → Prop := fun h => match m with
  | none => k h
  | some b => ∃ es cl, h b = some (.map es cl) ∧ Keys eq key es ∧ match findR eq key es.toList 0 with
    | none => k h
    | some (i, _) => k (upd h b (.map (es.eraseIdxIfInBounds i) cl))
def mMapLen (m : Option Nat) (k : Int → H → Prop) : H → Prop := fun h => ∃ es cl, MapAt h m es cl ∧ es.size ≤ 9223372036854775807 ∧ k (es.size : Nat) h
/-- A cut with a capacity. -/
def isCut3 (s : Sl) (lo hi mx : Int) (size : Nat) (x : Sl) : Prop := 0 ≤ lo ∧ lo ≤ hi ∧ hi ≤ mx ∧ mx ≤ s.cap ∧ x = ⟨if mx.toNat = lo.toNat then s.a else s.a.map (·.add (lo.toNat * size)), hi.toNat - lo.toNat, mx.toNat - lo.toNat⟩
def mCut3 (s : Sl) (lo hi mx : Int) (size : Nat) (k : Sl → H → Prop) : H → Prop := fun h => ∃ x, isCut3 s lo hi mx size x ∧ k x h
/-- clear of a slice. -/
def mClear (zero : Array Value) (s : Sl) (k : H → Prop) : H → Prop := fun h => (s.a = none ∨ s.len = 0) ∧ k h ∨ s.len ≠ 0 ∧ ∃ a, s.a = some a ∧ mStore a (Builtin.zeroCells zero s.len).toList k h
def mMapClear (m : Option Nat) (k : H → Prop) : H → Prop := fun h => match m with
  | none => k h
  | some b => ∃ es cl, h b = some (.map es cl) ∧ k (upd h b (.map #[] cl))
/-- A run over a map: its state lies in memory. -/
def mRange (m : Option Nat) (k : Addr → H → Prop) : H → Prop := fun h => ∃ es cl, MapAt h m es cl ∧ ∀ b, h b = none → k ⟨b, 0, none⟩ (upd h b (.mapIter m cl #[] cl))
/-- The next entry: any that has not been seen; the end only if none is left that the map held at the beginning. What follows the yes or no is the entry itself. -/
def mNext (a : Addr) (k : Bool × List Value → H → Prop) : H → Prop := fun h => a.off = 0 ∧ ∃ m since seen last, h a.block = some (.mapIter m since seen last) ∧ match m with
  | none => k (false, []) h
  | some b => ∃ es cl, h b = some (.map es cl) ∧ ((!seen.isEmpty && !es.isEmpty && es.all (·.born ≥ last)) = false) ∧
    (((es.filter fun e => !seen.contains e.born).filter (·.born < since)).isEmpty = true → k (false, []) h) ∧
    ∀ e ∈ es.toList, seen.contains e.born = false → k (true, [e.key, e.val]) (upd h a.block (.mapIter (some b) since (seen.push e.born) cl))
/-- The entry that the last step went to. -/
def mEntry {X Y : Type} (kc : X → Value) (vc : Y → Value) (a : Addr) (k : X × Y → H → Prop) : H → Prop := fun h => a.off = 0 ∧ ∃ m since seen stamp es cl e x y, h a.block = some (.mapIter (some m) since seen cl) ∧ seen.back? = some stamp ∧
  h m = some (.map es cl) ∧ es.find? (·.born == stamp) = some e ∧ e.key = kc x ∧ e.val = vc y ∧ k (x, y) h

section
variable {P : Program} {C : PPost} {next : Post} {ρ : Env} {L h : H} {v : Value}
variable {d : Option Tmp} {ty : TypeId} {ps : String} {af : Array Edge} {gd : Option (Nat × Bool)}
theorem q_use {α β : Type} {s : Sem α} {a : α} (x : QV P s a) {f : α → Sem β} {hf : H} {K : β → H → Prop} {E : Value → H → Prop} (k : qwp P (f a) hf K E) : qwp P (s >>= f) hf K E := (qwp_bind _ _ _).2 (x _ _ _ k)
theorem a_use {α β : Type} {s : Sem α} {a : α} (x : QV P s a) {f : α → Sem β} {hf : H} {K : β → H → Bool → Prop} {E : Value → H → Prop} (k : awp P (f a) hf false K E) : awp P (s >>= f) hf false K E :=
  (awp_bind _ _ _ _).2 (awp_mono (fun a' h' fl q => by obtain ⟨rfl, rfl, rfl⟩ := q; exact k) (fun _ _ q => q) _ _ _ (qwp_awp _ _ (x hf (fun a' h' => a' = a ∧ h' = hf) E ⟨rfl, rfl⟩)))
theorem a_get {α : Type} {b : Nat} {o : Obj} {f : Obj → Sem α} {hf : H} {fl : Bool} {K : α → H → Bool → Prop} {E : Value → H → Prop} (hb : hf b = some o) (hc : isCells o = false) (k : awp P (f o) hf fl K E) : awp P (getObj b >>= f) hf fl K E := (awp_bind _ _ _ _).2 ⟨_, hb, hc, k⟩
theorem v_makeMap {t : TypeId} {k : Option Nat → H → Prop} (hm : mMakeMap k h) (nx : ∀ r h', k r h' → next (put ρ d (.map r)) L h') : aOp P ⟨d, .makeMap t none, ty, ps, af, gd⟩ ρ L h next C := by
  refine aOp_q (K := fun v hf => ∃ b, un L h b = none ∧ v = .map (some b) ∧ hf = upd (un L h) b (.map #[] 0)) (s := Instr.makeMap t none) rfl rfl (fun _ => ?_) (fun v hf ⟨b, hb, e, eh⟩ => ?_)
  · exact fun b hb => ⟨b, hb, rfl, rfl⟩
  · obtain ⟨e1, _, e3⟩ := un_new (o := .map #[] 0) hb
    exact ⟨L, _, eh.trans e1, fun ap => (e3 ap).1, .refl _ _, by rw [e]; exact nx _ _ (hm b (un_none.1 hb).2)⟩
theorem v_lookup {X : Type} {eq : Value → Value → Option Bool} {vc : X → Value} {z : X} {m : Option Nat} {kv : Value} {k : X × Bool → H → Prop} {t kt et : TypeId} {x key : Operand} {ok : Bool} (hu : P.underlying t = some (.map kt et)) (hx : ev ρ x = .map m) (hk : ev ρ key = kv)
    (FK : ∀ es : Array MapEntry, Keys eq kv es → QV P (Instr.findKey kt kv es.toList) (findR eq kv es.toList 0)) (CK : ∀ em, QV P (Instr.checkKey em 10000 kt kv) ()) (hz : QV P (zeroValue et) (vc z)) (hm : mLookup eq vc z m kv k h)
    (nx : ∀ r, k r h → next (put ρ d (if ok then .tuple #[vc r.1, .bool r.2] else vc r.1)) L h) : aOp P ⟨d, .lookup t x key ok, ty, ps, af, gd⟩ ρ L h next C := by
  obtain ⟨es, cl, hat, hks, hr⟩ := hm
  refine aOp_q (K := fun v hf => (∃ r, k r h ∧ v = if ok then .tuple #[vc r.1, .bool r.2] else vc r.1) ∧ hf = un L h) (s := Instr.lookup t (ev ρ x) (ev ρ key) ok) rfl rfl (fun ap => ?_) (fun v hf ⟨⟨r, kr, e⟩, eh⟩ => ⟨L, h, eh, id, .refl _ _, by rw [e]; exact nx r kr⟩)
  rw [hx, hk]
  unfold Instr.lookup
  refine q_use (QV.underlying hu) ?_
  simp only []
  have tl : ∀ r : X × Bool, k r h → qwp P (pure (if ok = true then Value.tuple #[vc r.1, .bool r.2] else vc r.1) : Sem Value) (un L h) (fun v hf => (∃ r, k r h ∧ v = if ok then .tuple #[vc r.1, .bool r.2] else vc r.1) ∧ hf = un L h) (fun v hf => C [{ v, recovered := false }] hf) := fun r kr => ⟨⟨r, kr, rfl⟩, rfl⟩
  have pre : (m = none ∧ es = #[]) ∨ ∃ b, m = some b ∧ h b = some (.map es cl) := by
    cases m with
    | none => exact .inl ⟨rfl, hat.1⟩
    | some b => exact .inr ⟨b, rfl, hat⟩
  clear hat
  rcases pre with ⟨rfl, rfl⟩ | ⟨b, rfl, hb⟩
  · skip
    refine q_use (QV.pure _) ?_
    refine q_use (CK _) (q_use (FK _ hks) ?_)
    split at hr
    · rename_i e
      rw [e]
      refine q_use hz (q_use (QV.pure _) (tl (z, false) hr))
    · rename_i i w e
      obtain ⟨y, rfl, ky⟩ := hr
      rw [e]
      refine q_use (QV.pure _) (tl (y, true) ky)
  · refine (qwp_bind _ _ _).2 ⟨_, un_at ap hb, rfl, ?_⟩
    refine q_use (QV.pure _) ?_
    refine q_use (CK _) (q_use (FK _ hks) ?_)
    split at hr
    · rename_i e
      rw [e]
      refine q_use hz (q_use (QV.pure _) (tl (z, false) hr))
    · rename_i i w e
      obtain ⟨y, rfl, ky⟩ := hr
      rw [e]
      refine q_use (QV.pure _) (tl (y, true) ky)
theorem v_mapSet {eq : Value → Value → Option Bool} {m : Option Nat} {kv w : Value} {k : H → Prop} {t kt et : TypeId} {x key val : Operand} (hu : P.underlying t = some (.map kt et)) (hx : ev ρ x = .map m) (hk : ev ρ key = kv) (hv : ev ρ val = w)
    (FK : ∀ es : Array MapEntry, Keys eq kv es → QV P (Instr.findKey kt kv es.toList) (findR eq kv es.toList 0)) (CK : ∀ em, QV P (Instr.checkKey em 10000 kt kv) ()) (hs : Instr.sameBits 10000 kv kv = true) (hm : mMapSet eq m kv w k h)
    (nx : ∀ h', k h' → next (put ρ d undef) L h') : aOp P ⟨d, .mapUpdate t x key val, ty, ps, af, gd⟩ ρ L h next C := fun ap => by
  obtain ⟨b, es, cl, rfl, hb, hks, hr⟩ := hm
  show awp P (do Instr.mapUpdate t (ev ρ x) (ev ρ key) (ev ρ val); pure Next.skip) _ _ _ _
  rw [hx, hk, hv]
  refine (awp_bind _ _ _ _).2 ?_
  unfold Instr.mapUpdate
  refine a_use (QV.underlying hu) ?_
  simp only []
  refine (awp_bind _ _ _ _).2 ⟨_, un_at ap hb, rfl, ?_⟩
  refine a_use (CK _) (a_use (FK _ hks) ?_)
  have fin : ∀ o, k (upd h b o) → awp P (setObj b o) (un L h) false (fun _ h' fl' => awp P (pure Next.skip : Sem Next) h' fl' (upon P ⟨d, .mapUpdate t x key val, ty, ps, af, gd⟩ ρ L h next C) fun v hf => C [{ v, recovered := false }] hf) fun v hf => C [{ v, recovered := false }] hf := fun o ko => by
    obtain ⟨e1, e2⟩ := un_put (o' := o) ap hb
    refine ⟨_, un_at ap hb, rfl, ?_⟩
    rw [e1]
    exact ⟨trivial, L, _, rfl, fun _ => e2, .refl _ _, nx _ ko⟩
  split at hr
  · rename_i e
    rw [e]
    exact fin _ hr
  · rename_i i u e
    rw [e]
    obtain ⟨ek, hr⟩ := hr
    simp only [ek, Option.getD_some, Instr.keyThatStays, hs, if_true]
    refine a_use (QV.pure _) ?_
    exact fin _ hr
theorem exec_delete {x y : Operand} {ts : List TypeId} {vx vy : Value} (hx : ev ρ x = vx) (hy : ev ρ y = vy) : execOp (ev ρ) ⟨d, .call ⟨.builtin .delete, [x, y].toArray, ts.toArray⟩, ty, ps, af, gd⟩ = (do pure (.value (← Builtin.delete_ ts.toArray ty #[vx, vy])) : Sem Next) := by
  subst hx; subst hy
  have e : ([x, y].toArray.map (ev ρ)) = #[ev ρ x, ev ρ y] := List.map_toArray ..
  rw [← e]
  rfl
theorem v_mapDel {eq : Value → Value → Option Bool} {m : Option Nat} {kv : Value} {k : H → Prop} {t t' kt et : TypeId} {x key : Operand} (hu : P.underlying t = some (.map kt et)) (hx : ev ρ x = .map m) (hk : ev ρ key = kv)
    (FK : ∀ es : Array MapEntry, Keys eq kv es → QV P (Instr.findKey kt kv es.toList) (findR eq kv es.toList 0)) (CK : ∀ em, QV P (Instr.checkKey em 10000 kt kv) ()) (hm : mMapDel eq m kv k h)
    (nx : ∀ h', k h' → next (put ρ d (.tuple #[])) L h') : aOp P ⟨d, .call ⟨.builtin .delete, [x, key].toArray, [t, t'].toArray⟩, ty, ps, af, gd⟩ ρ L h next C := fun ap => by
  show awp P (execOp (ev ρ) ⟨d, .call ⟨.builtin .delete, [x, key].toArray, [t, t'].toArray⟩, ty, ps, af, gd⟩) _ _ _ _
  rw [exec_delete hx hk]
  refine (awp_bind _ _ _ _).2 ?_
  unfold Builtin.delete_
  simp only [List.getElem?_toArray, List.getElem?_cons_zero, List.getElem?_cons_succ]
  refine a_use (QV.underlying hu) ?_
  simp only []
  cases m with
  | none => exact a_use (CK _) (a_use (QV.pure _) ⟨trivial, L, h, rfl, id, .refl _ _, nx _ hm⟩)
  | some b =>
    obtain ⟨es, cl, hb, hks, hr⟩ := hm
    refine (awp_bind _ _ _ _).2 ⟨_, un_at ap hb, rfl, ?_⟩
    refine a_use (CK _) (a_use (FK _ hks) ?_)
    split at hr
    · rename_i e
      rw [e]
      obtain ⟨e1, e2⟩ := un_put (o' := .map es cl) ap hb
      refine (awp_bind _ _ _ _).2 ⟨_, un_at ap hb, rfl, ?_⟩
      rw [e1, upd_self hb]
      exact ⟨trivial, L, h, rfl, id, .refl _ _, nx _ hr⟩
    · rename_i i u e
      rw [e]
      obtain ⟨e1, e2⟩ := un_put (o' := .map (es.eraseIdxIfInBounds i) cl) ap hb
      refine (awp_bind _ _ _ _).2 ⟨_, un_at ap hb, rfl, ?_⟩
      rw [e1]
      exact ⟨trivial, L, _, rfl, fun _ => e2, .refl _ _, nx _ hr⟩
theorem v_mapLen {m : Option Nat} {k : Int → H → Prop} {t kt et : TypeId} {x : Operand} (hu : P.underlying t = some (.map kt et)) (hx : ev ρ x = .map m) (hm : mMapLen m k h)
    (nx : ∀ n, k n h → next (put ρ d (.int .i64 n)) L h) : aOp P ⟨d, .call ⟨.builtin .len, [x].toArray, [t].toArray⟩, ty, ps, af, gd⟩ ρ L h next C := by
  obtain ⟨es, cl, hat, hsz, hk⟩ := hm
  refine aOp_q (K := fun v hf => v = .int .i64 (es.size : Nat) ∧ hf = un L h) (s := Builtin.len_ #[t] ty #[.map m]) rfl ?_ (fun ap => ?_) (fun v hf ⟨e, eh⟩ => ⟨L, h, eh, id, .refl _ _, by rw [e]; exact nx _ hk⟩)
  · have e : ([x].toArray.map (ev ρ)) = #[ev ρ x] := List.map_toArray ..
    rw [← hx, ← e]; rfl
  · unfold Builtin.len_
    simp only [List.getElem?_toArray, List.getElem?_cons_zero]
    refine q_use (QV.underlying hu) ?_
    cases m with
    | none => obtain ⟨rfl, _⟩ := hat; exact ⟨rfl, rfl⟩
    | some b =>
      have hat : h b = some (.map es cl) := hat
      exact (qwp_bind _ _ _).2 ⟨_, un_at ap hat, rfl, rfl, rfl⟩
theorem v_range {m : Option Nat} {k : Addr → H → Prop} {t kt et : TypeId} {x : Operand} (hu : P.underlying t = some (.map kt et)) (hx : ev ρ x = .map m) (hm : mRange m k h)
    (nx : ∀ a h', k a h' → next (put ρ d (.pointer (some a))) L h') : aOp P ⟨d, .range t x, ty, ps, af, gd⟩ ρ L h next C := fun ap => by
  obtain ⟨es, cl, hat, hk⟩ := hm
  show awp P (do pure (.value (← Instr.range t (ev ρ x))) : Sem Next) _ _ _ _
  rw [hx]
  refine (awp_bind _ _ _ _).2 ?_
  unfold Instr.range
  refine a_use (QV.underlying hu) ?_
  have fin : awp P (do pure (.pointer (some ⟨← newObj (.mapIter m cl #[] cl), 0, none⟩)) : Sem Value) (un L h) false (fun v h' fl' => awp P (pure (Next.value v) : Sem Next) h' fl' (upon P ⟨d, .range t x, ty, ps, af, gd⟩ ρ L h next C) fun v hf => C [{ v, recovered := false }] hf) fun v hf => C [{ v, recovered := false }] hf := fun b hb => by
    obtain ⟨e1, _, e3⟩ := un_new (o := .mapIter m cl #[] cl) hb
    exact ⟨trivial, L, _, e1, fun ap => (e3 ap).1, .refl _ _, nx _ _ (hk b (un_none.1 hb).2)⟩
  cases m with
  | none => obtain ⟨rfl, rfl⟩ := hat; exact a_use (QV.pure _) fin
  | some b =>
    have hat : h b = some (.map es cl) := hat
    refine (awp_bind _ _ _ _).2 ⟨_, un_at ap hat, rfl, ?_⟩
    exact a_use (QV.pure _) fin
theorem v_entry {X Y : Type} {kc : X → Value} {vc : Y → Value} {a : Addr} {k : X × Y → H → Prop} {x : Operand} (hx : ev ρ x = .pointer (some a)) (hm : mEntry kc vc a k h)
    (nx : ∀ r, k r h → next (put ρ d (.tuple #[kc r.1, vc r.2])) L h) : aOp P ⟨d, .entry x, ty, ps, af, gd⟩ ρ L h next C := fun ap => by
  obtain ⟨ho, m, since, seen, stamp, es, cl, e, y, z, hi, hs, hb, hf, ek, ev_, hk⟩ := hm
  show awp P (do pure (.value (← Instr.entry (ev ρ x))) : Sem Next) _ _ _ _
  rw [hx]
  obtain ⟨r, off, sp⟩ := a
  have ho : off = 0 := ho
  subst ho
  refine (awp_bind _ _ _ _).2 ?_
  unfold Instr.entry
  refine a_get (un_at ap hi) rfl ?_
  dsimp only
  rw [hs]
  dsimp only
  refine a_get (un_at ap hb) rfl ?_
  dsimp only
  rw [if_neg (by simp)]
  refine a_use (QV.pure _) ?_
  rw [hf]
  dsimp only
  rw [ek, ev_]
  exact ⟨trivial, L, h, rfl, id, .refl _ _, nx _ hk⟩
theorem v_next {a : Addr} {k : Bool × List Value → H → Prop} {x : Operand} (hx : ev ρ x = .pointer (some a)) (hm : mNext a k h)
    (nx : ∀ r h', k r h' → next (put ρ d (.tuple ⟨.bool r.1 :: r.2⟩)) L h') : aOp P ⟨d, .next x false, ty, ps, af, gd⟩ ρ L h next C := fun ap => by
  obtain ⟨ho, m, since, seen, last, hi, hr⟩ := hm
  show awp P (do pure (.value (← Instr.next (ev ρ x) false ty)) : Sem Next) _ _ _ _
  rw [hx]
  obtain ⟨r, off, sp⟩ := a
  have ho : off = 0 := ho
  subst ho
  refine (awp_bind _ _ _ _).2 ?_
  unfold Instr.next
  refine a_get (un_at ap hi) rfl ?_
  cases m with
  | none => exact ⟨trivial, L, h, rfl, id, .refl _ _, nx (false, []) _ hr⟩
  | some b =>
    obtain ⟨es, cl, hb, hg, hov, hmore⟩ := hr
    dsimp only
    refine a_get (un_at ap hb) rfl ?_
    dsimp only
    rw [if_neg (by rw [hg]; exact Bool.false_ne_true)]
    generalize hleft : (es.filter fun e => !seen.contains e.born) = left at hov ⊢
    have mem : ∀ e ∈ left.toList, e ∈ es.toList ∧ seen.contains e.born = false := fun e he => by
      rw [← hleft] at he
      simpa using he
    have one : ∀ n, n < ((if (left.filter (·.born < since)).isEmpty then #[none] else #[]) ++ (left.filter (·.born < since) ++ left.filter (·.born ≥ since)).map some : Array (Option MapEntry)).size → awp P (match ((if (left.filter (·.born < since)).isEmpty then #[none] else #[]) ++ (left.filter (·.born < since) ++ left.filter (·.born ≥ since)).map some : Array (Option MapEntry))[n]? with
        | some (some e) => do
          setObj r (.mapIter (some b) since (seen.push e.born) cl)
          pure (.tuple #[.bool true, e.key, e.val])
        | some none => pure (.tuple #[.bool false])
        | none => stuck "Next: no such candidate" : Sem Value) (un L h) false (fun v h' fl' => awp P (pure (Next.value v) : Sem Next) h' fl' (upon P ⟨d, .next x false, ty, ps, af, gd⟩ ρ L h next C) fun v hf => C [{ v, recovered := false }] hf) fun v hf => C [{ v, recovered := false }] hf := fun n hn => by
      rw [Array.getElem?_eq_getElem hn]
      generalize hc : (((if (left.filter (·.born < since)).isEmpty then #[none] else #[]) ++ (left.filter (·.born < since) ++ left.filter (·.born ≥ since)).map some : Array (Option MapEntry))[n]) = c
      have hin : c ∈ (((if (left.filter (·.born < since)).isEmpty then #[none] else #[]) ++ (left.filter (·.born < since) ++ left.filter (·.born ≥ since)).map some : Array (Option MapEntry))) := hc ▸ Array.getElem_mem hn
      rw [Array.mem_append] at hin
      cases c with
      | none =>
        have he : (left.filter (·.born < since)).isEmpty = true := by
          rcases hin with q | q
          · split at q
            · assumption
            · simp at q
          · simp at q
        exact ⟨trivial, L, h, rfl, id, .refl _ _, nx (false, []) _ (hov he)⟩
      | some e =>
        have hl : e ∈ left.toList := by
          rcases hin with q | q
          · split at q <;> simp at q
          · simp at q
            rcases q with q | q <;> simpa using q.1
        obtain ⟨e1, e2⟩ := mem e hl
        obtain ⟨p1, p2⟩ := un_put (o' := .mapIter (some b) since (seen.push e.born) cl) ap hi
        refine (awp_bind _ _ _ _).2 ⟨_, un_at ap hi, rfl, ?_⟩
        rw [p1]
        exact ⟨trivial, L, _, rfl, fun _ => p2, .refl _ _, nx (true, [e.key, e.val]) _ (hmore e e1 e2)⟩
    refine a_use (QV.pure _) ?_
    show (if _ then _ else _)
    have pos : 0 < ((if (left.filter (·.born < since)).isEmpty then #[none] else #[]) ++ (left.filter (·.born < since) ++ left.filter (·.born ≥ since)).map some : Array (Option MapEntry)).size := by
      split
      · simp; omega
      · rename_i q
        have : (left.filter (·.born < since)).size ≠ 0 := fun z => q (by simpa [Array.isEmpty] using z)
        rw [Array.size_append, Array.size_map, Array.size_append]; omega
    generalize ((if (left.filter (·.born < since)).isEmpty then #[none] else #[]) ++ (left.filter (·.born < since) ++ left.filter (·.born ≥ since)).map some : Array (Option MapEntry)) = cands at one pos ⊢
    split
    · exact one 0 pos
    · exact fun n => one _ (Nat.mod_lt n pos)
theorem bound_qv {kd : IntKind} {i : Int} {y : Nat} {code : BoundsCode} (h0 : 0 ≤ i) (h1 : i ≤ y) : QV P (Instr.sliceBound (.int kd i) y code) i.toNat := by
  refine QV.bind (a := (kd, i)) (QV.pure _) ?_
  simp only []
  rw [if_pos ⟨h0, h1⟩]
  exact QV.pure _
theorem y_cut3 {t e : TypeId} {ti : TypeInfo} {x hi' mx' : Operand} {l : Option Operand} {s : Sl} {lo hi mx : Int} {kh km : IntKind} {s' : Sl} (hu : P.underlying t = some (.slice e)) (hti : P.info? e = some ti) (hx : ev ρ x = s.val) (hl : bnd ρ l 0 lo) (hr : ev ρ hi' = .int kh hi) (hm : ev ρ mx' = .int km mx) (hq : isCut3 s lo hi mx ti.size s') :
    YE P ⟨d, .slice t x l (some hi') (some mx'), ty, ps, af, gd⟩ ρ s'.val := by
  obtain ⟨h0, h1, h2, h3, rfl⟩ := hq
  refine YE.val rfl rfl ?_
  show QV P (Instr.sliceAt t (ev ρ x) (l.map (ev ρ)) (some (ev ρ hi')) (some (ev ρ mx'))) _
  rw [hx, hr, hm]
  unfold Instr.sliceAt
  refine QV.bind (QV.underlying hu) ?_
  simp only []
  unfold Instr.slice Sl.val
  refine QV.bind (QV.underlying hu) ?_
  simp only []
  refine QV.bind (a := (lo.toNat, hi.toNat, mx.toNat)) ?_ (QV.bind (QV.sizeOf hti) (QV.pure _))
  unfold Instr.sliceBounds
  refine QV.bind (a := mx.toNat) (bound_qv (by omega) h3) (QV.bind (a := hi.toNat) (bound_qv (by omega) (by omega)) ?_)
  cases l with
  | none =>
    have hl : lo = 0 := hl
    subst hl
    exact QV.bind (a := 0) (QV.pure _) (QV.pure _)
  | some y =>
    obtain ⟨kl, hl⟩ := hl
    simp only [Option.map_some, hl]
    exact QV.bind (a := lo.toNat) (bound_qv h0 (by omega)) (QV.pure _)
theorem exec_clear {x : Operand} {ts : List TypeId} {vx : Value} (hx : ev ρ x = vx) : execOp (ev ρ) ⟨d, .call ⟨.builtin .clear, [x].toArray, ts.toArray⟩, ty, ps, af, gd⟩ = (do pure (.value (← Builtin.clear_ ts.toArray ty #[vx])) : Sem Next) := by
  subst hx
  have e : ([x].toArray.map (ev ρ)) = #[ev ρ x] := List.map_toArray ..
  rw [← e]
  rfl
theorem zero_plain {z : Array Value} (hz : z.toList.all plainVal = true) (n : Nat) : (Builtin.zeroCells z n).toList.all plainVal = true := by
  rw [List.all_eq_true]
  intro v hv
  unfold Builtin.zeroCells at hv
  rw [Array.mem_toList_iff, Array.mem_map] at hv
  obtain ⟨i, hi, rfl⟩ := hv
  rw [Array.mem_range] at hi
  have hpos : 0 < z.size := by
    rcases Nat.eq_zero_or_pos z.size with q | q
    · rw [q, Nat.mul_zero] at hi; omega
    · exact q
  have hlt : i % z.size < z.size := Nat.mod_lt _ hpos
  rw [getElem!_pos z _ hlt]
  exact List.all_eq_true.1 hz _ (by simp)
theorem v_clear {s : Sl} {k : H → Prop} {t e : TypeId} {ti : TypeInfo} {z : Value} {x : Operand} (hu : P.underlying t = some (.slice e)) (hi : P.info? e = some ti) (hz : ti.zero = some z) (hp : z.cells.toList.all plainVal = true) (hx : ev ρ x = s.val) (hm : mClear z.cells s k h)
    (nx : ∀ h', k h' → next (put ρ d (.tuple #[])) L h') : aOp P ⟨d, .call ⟨.builtin .clear, [x].toArray, [t].toArray⟩, ty, ps, af, gd⟩ ρ L h next C := fun ap => by
  show awp P (execOp (ev ρ) ⟨d, .call ⟨.builtin .clear, [x].toArray, [t].toArray⟩, ty, ps, af, gd⟩) _ _ _ _
  rw [exec_clear hx]
  refine (awp_bind _ _ _ _).2 ?_
  unfold Builtin.clear_
  simp only [List.getElem?_toArray, List.getElem?_cons_zero]
  refine a_use (QV.underlying hu) ?_
  obtain ⟨sa, len, cap⟩ := s
  rcases hm with ⟨q, kk⟩ | ⟨hne, a, ha, hm⟩
  · have fin : awp P (do pure (); pure (.tuple #[]) : Sem Value) (un L h) false (fun v h' fl' => awp P (pure (Next.value v) : Sem Next) h' fl' (upon P ⟨d, .call ⟨.builtin .clear, [x].toArray, [t].toArray⟩, ty, ps, af, gd⟩ ρ L h next C) fun v hf => C [{ v, recovered := false }] hf) fun v hf => C [{ v, recovered := false }] hf := ⟨trivial, L, h, rfl, id, .refl _ _, nx _ kk⟩
    unfold Sl.val
    rcases q with q | q
    · have q : sa = none := q
      subst q; exact fin
    · have q : len = 0 := q
      subst q
      cases sa <;> exact fin
  · have ha : sa = some a := ha
    subst ha
    obtain ⟨n, rfl⟩ : ∃ n, len = n + 1 := ⟨len - 1, by have : len ≠ 0 := hne; omega⟩
    obtain ⟨hsp, c, e', fz, hb, hl, hfz, kk⟩ := hm
    obtain ⟨e1, e2⟩ := un_put (o' := .cells (lay c a.off (Builtin.zeroCells z.cells (n + 1)).toList) e' fz) ap hb
    refine a_use (QV.zero hi hz) ((awp_bind _ _ _ _).2 ?_)
    refine storeCells_run hsp _ 0 _ _ _ _ (zero_plain hp _) (un_at ap hb) (by rw [Nat.add_zero]; exact hl) (fun j hj => by rw [Nat.add_zero]; exact hfz j hj) ?_
    rw [Nat.add_zero, e1]
    exact ⟨trivial, L, _, rfl, fun _ => e2, .refl _ _, nx _ kk⟩
end
end Go.Proofs.Ytlnlmideghepnaa.K
