/- The printed functions' words (m..), and for each of the model's operations the rule that ties it to its word. -/
import Derived.Test.YtlnlmideghepnaaK4
namespace Go.Proofs.Ytlnlmideghepnaa.K
open Go

/-- A slice. -/
structure Sl where
  a : Option Addr
  len : Nat
  cap : Nat
def Sl.val (s : Sl) : Value := .slice s.a s.len s.cap
def Sl.nil : Sl := ⟨none, 0, 0⟩

def grab (c : Array Value) (off : Nat) : Nat → Option (List Value)
  | 0 => some []
  | n + 1 => match c[off]?, grab c (off + 1) n with
    | some v, some l => some (v :: l)
    | _, _ => none
def lay (c : Array Value) (off : Nat) : List Value → Array Value
  | [] => c
  | v :: r => lay (c.setIfInBounds off v) (off + 1) r

/-! The words. -/
def mIf (c : Bool) (A B : H → Prop) : H → Prop := fun h => (c = true → A h) ∧ (c = false → B h)
def mDeref (p : Option Addr) (k : Addr → H → Prop) : H → Prop := fun h => ∃ a, p = some a ∧ k a h
def isIdx (s : Sl) (i : Int) (size : Nat) (x : Addr) : Prop := ∃ a, s.a = some a ∧ 0 ≤ i ∧ i < s.len ∧ x = a.add (i.toNat * size)
def mIdx (s : Sl) (i : Int) (size : Nat) (k : Addr → H → Prop) : H → Prop := fun h => ∃ x, isIdx s i size x ∧ k x h
/-- What lies at an address. -/
def At (h : H) (a : Addr) (l : List Value) : Prop := a.spot = none ∧ ∃ c e fz, h a.block = some (.cells c e fz) ∧ grab c a.off l.length = some l
def cInt (k : IntKind) (n : Int) : List Value := [.int k n]
def cBool (b : Bool) : List Value := [.bool b]
def cStr (s : ByteArray) : List Value := [.string s]
def cSl (s : Sl) : List Value := [s.val]
def cPtr (p : Option Addr) : List Value := [.pointer p]
def cMap (p : Option Nat) : List Value := [.map p]
def cVal (v : Value) : List Value := [v]
def mLoad {T : Type} (cells : T → List Value) (a : Addr) (k : T → H → Prop) : H → Prop := fun h => ∃ x, At h a (cells x) ∧ k x h
def mStore (a : Addr) (l : List Value) (k : H → Prop) : H → Prop := fun h => a.spot = none ∧ ∃ c e fz, h a.block = some (.cells c e fz) ∧ a.off + l.length ≤ c.size ∧
  (∀ i, i < l.length → frozenIn (.cells c e fz) (a.off + i) = false) ∧ k (upd h a.block (.cells (lay c a.off l) e fz))
def mNew (t : TypeId) (c : Array Value) (k : Addr → H → Prop) : H → Prop := fun h => ∀ b, h b = none → k ⟨b, 0, none⟩ (upd h b (.cells c t (0, 0)))
def isCut (s : Sl) (lo hi : Int) (size : Nat) (x : Sl) : Prop := 0 ≤ lo ∧ lo ≤ hi ∧ hi ≤ s.cap ∧ x = ⟨if s.cap = lo.toNat then s.a else s.a.map (·.add (lo.toNat * size)), hi.toNat - lo.toNat, s.cap - lo.toNat⟩
def mCut (s : Sl) (lo hi : Int) (size : Nat) (k : Sl → H → Prop) : H → Prop := fun h => ∃ x, isCut s lo hi size x ∧ k x h
/-- A call of a function that turns no memory and hangs on none. -/
def mPure {R : Type} (m : (R → H → Prop) → H → Prop) (k : R → H → Prop) : H → Prop := fun h => ∃ r, (∀ (h' : H) (k' : R → H → Prop), k' r h' → m k' h') ∧ k r h

section rules
variable {P : Program} {C : PPost} {ops : Array Oper} {next : Post} {ρ : Env} {L h : H} {oi : Oper} {i fuel : Nat} {v : Value} {listed : Array Bool}
theorem sgy {rest : List Nat} (d : Option Tmp) (v : Value) (hi : ops.toList[i]? = some oi) (hd : oi.dst = d) (hw : Region.wanted oi (yld ops ρ) = true) (y : YE P oi ρ v) (x : aOps P ops next C rest (put ρ d v) L h) : aOps P ops next C (i :: rest) ρ L h := by
  subst hd; exact sg hi hw (y L h _ C x)
theorem sgr {rest : List Nat} (d : Option Tmp) (v : Value) (hi : ops.toList[i]? = some oi) (hd : oi.dst = d) (hw : Region.wanted oi (yld ops ρ) = true) (y : YR P oi ρ L v) (x : aOps P ops next C rest (put ρ d v) L h) : aOps P ops next C (i :: rest) ρ L h := by
  subst hd; exact sg hi hw (y L h _ C (.refl L) x)
theorem sgn {rest : List Nat} (d : Option Tmp) (hi : ops.toList[i]? = some oi) (hd : oi.dst = d) (hw : Region.wanted oi (yld ops ρ) = false) (x : aOps P ops next C rest (put ρ d undef) L h) : aOps P ops next C (i :: rest) ρ L h := by
  subst hd; exact sn hi hw x
theorem tnn (i : Nat) (d : Option Tmp) (hi : ops.toList[i]? = some oi) (hd : oi.dst = d) (hs : Region.noSelect ops = true) (hf : free P ops listed i 0 = true) (few : fewB listed (fuel + 1) = true) (hw : Region.wanted oi (yld ops ρ) = false)
    (x : bAny P ops next C fuel (listed.setIfInBounds i true) (put ρ d undef) L h) : bAny P ops next C (fuel + 1) listed ρ L h := by
  subst hd; exact tn i hi hs hf few hw x
theorem tyy (i : Nat) (d : Option Tmp) (v : Value) (hi : ops.toList[i]? = some oi) (hd : oi.dst = d) (hs : Region.noSelect ops = true) (hf : free P ops listed i 0 = true) (few : fewB listed (fuel + 1) = true) (hw : Region.wanted oi (yld ops ρ) = true)
    (y : YE P oi ρ v) (x : bAny P ops next C fuel (listed.setIfInBounds i true) (put ρ d v) L h) : bAny P ops next C (fuel + 1) listed ρ L h := by
  subst hd
  exact ty i v hi hs hf few hw (fun L' h' next k => y L' h' next C k) x
theorem trr (i : Nat) (d : Option Tmp) (v : Value) (hi : ops.toList[i]? = some oi) (hd : oi.dst = d) (hs : Region.noSelect ops = true) (hf : free P ops listed i 1 = true) (few : fewB listed (fuel + 1) = true) (hw : Region.wanted oi (yld ops ρ) = true)
    (y : YR P oi ρ L v) (x : bAny P ops next C fuel (listed.setIfInBounds i true) (put ρ d v) L h) : bAny P ops next C (fuel + 1) listed ρ L h := by
  subst hd
  exact tr i v hi hs hf few hw (fun L' h' next g k => y L' h' next C g k) x
/-! Own boxes. -/
variable {d : Option Tmp} {ty : TypeId} {ps : String} {af : Array Edge} {gd : Option (Nat × Bool)}
theorem load_scalar {t : TypeId} {td : TypeDesc} {a : Addr} {hf : H} {c : Array Value} {e : TypeId} {fz : Nat × Nat} {E : Value → H → Prop} {K : Value → H → Prop} (hu : P.underlying t = some td)
    (hs : aggB td = false) (hsp : a.spot = none) (hb : hf a.block = some (.cells c e fz)) (hv : c[a.off]? = some v) (k : K v hf) : qwp P (loadVar t a) hf K E := by
  refine (qwp_bind _ _ _).2 (QV.isAgg hu hf _ _ ?_)
  rw [hs]
  exact ⟨hsp, c, e, fz, v, hb, hv, k⟩
theorem loadFrom_run {a : Addr} {hf : H} {c : Array Value} {e : TypeId} {fz : Nat × Nat} {E : Value → H → Prop} (hsp : a.spot = none) (hb : hf a.block = some (.cells c e fz)) :
    ∀ (n i : Nat) (acc : Array Value) (l : List Value) (K : Array Value → H → Prop), grab c (a.off + i) n = some l → K (acc ++ l.toArray) hf → qwp P (loadCellsFrom a i n acc) hf K E := by
  intro n
  induction n with
  | zero => intro i acc l K hg k; simp only [grab, Option.some.injEq] at hg; subst hg; show K acc hf; simpa using k
  | succ n ih =>
    intro i acc l K hg k
    simp only [grab] at hg
    cases h1 : c[a.off + i]? with
    | none => rw [h1] at hg; simp at hg
    | some x =>
      cases h2 : grab c (a.off + i + 1) n with
      | none => rw [h1, h2] at hg; simp at hg
      | some r =>
        rw [h1, h2] at hg
        simp only [Option.some.injEq] at hg
        subst hg
        refine (qwp_bind _ _ _).2 ?_
        have ha : (a.add i).block = a.block ∧ (a.add i).off = a.off + i ∧ (a.add i).spot = none := by
          unfold Addr.add; split
          · subst_vars; exact ⟨rfl, rfl, hsp⟩
          · exact ⟨rfl, rfl, rfl⟩
        refine ⟨ha.2.2, c, e, fz, x, by rw [ha.1]; exact hb, by rw [ha.2.1]; exact h1, ih (i + 1) _ r K h2 ?_⟩
        simpa using k
theorem load_agg {t : TypeId} {td : TypeDesc} {ti : TypeInfo} {a : Addr} {hf : H} {c : Array Value} {e : TypeId} {fz : Nat × Nat} {l : List Value} {E : Value → H → Prop} {K : Value → H → Prop} (hu : P.underlying t = some td)
    (hs : aggB td = true) (hi : P.info? t = some ti) (hsp : a.spot = none) (hb : hf a.block = some (.cells c e fz)) (hv : grab c a.off ti.size = some l) (k : K (.agg l.toArray) hf) :
    qwp P (loadVar t a) hf K E := by
  refine (qwp_bind _ _ _).2 (QV.isAgg hu hf _ _ ?_)
  rw [hs]
  refine (qwp_bind _ _ _).2 (QV.sizeOf hi hf _ _ ?_)
  exact (qwp_bind _ _ _).2 (loadFrom_run hsp hb ti.size 0 #[] l _ hv (by show K (.agg (#[] ++ l.toArray)) hf; simpa using k))
theorem execOp_load {t : TypeId} {x : Operand} {a : Addr} (hx : ev ρ x = .pointer (some a)) : execOp (ev ρ) ⟨d, .load t x, ty, ps, af, gd⟩ = (do pure (.value (← loadVar t a)) : Sem Next) := by
  show (do pure (.value (← Instr.loadAt t (ev ρ x))) : Sem Next) = _
  rw [hx]; rfl
theorem r_load {t : TypeId} {td : TypeDesc} {x : Operand} {b off : Nat} {c : Array Value} {e : TypeId} {fz : Nat × Nat} (hx : ev ρ x = .pointer (some ⟨b, off, none⟩)) (hk : L b = some (.cells c e fz))
    (hu : P.underlying t = some td) (hs : aggB td = false) (hv : c[off]? = some v) : YR P ⟨d, .load t x, ty, ps, af, gd⟩ ρ L v := fun L' h' next C gr kk => by
  rw [aOp_quiet rfl, execOp_load hx]
  exact fun _ => (qwp_bind _ _ _).2 (load_scalar hu hs rfl (un_left (gr _ _ hk)) hv ⟨trivial, L', h', rfl, id, .refl _ _, kk⟩)
theorem r_loadA {t : TypeId} {td : TypeDesc} {ti : TypeInfo} {x : Operand} {b off : Nat} {c : Array Value} {e : TypeId} {fz : Nat × Nat} {l : List Value} (hx : ev ρ x = .pointer (some ⟨b, off, none⟩)) (hk : L b = some (.cells c e fz))
    (hu : P.underlying t = some td) (hs : aggB td = true) (hi : P.info? t = some ti) (hv : grab c off ti.size = some l) : YR P ⟨d, .load t x, ty, ps, af, gd⟩ ρ L (.agg l.toArray) := fun L' h' next C gr kk => by
  rw [aOp_quiet rfl, execOp_load hx]
  exact fun _ => (qwp_bind _ _ _).2 (load_agg hu hs hi rfl (un_left (gr _ _ hk)) hv ⟨trivial, L', h', rfl, id, .refl _ _, kk⟩)

/-! Memory that is known. -/
theorem aOp_q {o : Oper} {K : Value → H → Prop} {s : Sem Value} (hq : quietOp P o.op = true) (he : execOp (ev ρ) o = (do pure (.value (← s)) : Sem Next)) (x : Apart L h → qwp P s (un L h) K (fun v hf => C [{ v, recovered := false }] hf))
    (k : ∀ v hf, K v hf → ∃ L' h', hf = un L' h' ∧ (Apart L h → Apart L' h') ∧ Ag o.op L L' ∧ next (put ρ o.dst v) L' h') : aOp P o ρ L h next C := by
  rw [aOp_quiet hq, he]
  exact fun ap => (qwp_bind _ _ _).2 (qwp_mono (fun v hf kk => ⟨trivial, k v hf kk⟩) (fun _ _ k => k) _ _ (x ap))
theorem At_un {a : Addr} {l : List Value} (ap : Apart L h) (x : At h a l) : At (un L h) a l := by
  obtain ⟨hs, c, e, fz, hb, hg⟩ := x
  refine ⟨hs, c, e, fz, ?_, hg⟩
  rcases ap a.block with q | q
  · rw [un_right q]; exact hb
  · rw [q] at hb; cases hb
/-- Needs to know that memory lies beside the boxes: the walk's states do. -/
theorem grab_len : ∀ {n : Nat} {c : Array Value} {off : Nat} {l : List Value}, grab c off n = some l → l.length = n := by
  intro n
  induction n with
  | zero => intro c off l h; simp only [grab, Option.some.injEq] at h; subst h; rfl
  | succ n ih =>
    intro c off l h
    simp only [grab] at h
    cases h1 : c[off]? with
    | none => rw [h1] at h; simp at h
    | some x =>
      cases h2 : grab c (off + 1) n with
      | none => rw [h1, h2] at h; simp at h
      | some r => rw [h1, h2] at h; simp only [Option.some.injEq] at h; subst h; simp [ih h2]
theorem grab_one {c : Array Value} {off : Nat} {v : Value} (h : grab c off 1 = some [v]) : c[off]? = some v := by
  simp only [grab] at h
  cases h1 : c[off]? with
  | none => rw [h1] at h; simp at h
  | some x => rw [h1] at h; simp only [Option.some.injEq, List.cons.injEq, and_true] at h; rw [h]
theorem un_put {b : Nat} {o o' : Obj} (ap : Apart L h) (hb : h b = some o) : upd (un L h) b o' = un L (upd h b o') ∧ Apart L (upd h b o') := by
  have hL : L b = none := by
    rcases ap b with q | q
    · exact q
    · rw [q] at hb; cases hb
  constructor
  · funext x
    unfold upd un
    by_cases e : x = b
    · subst e; simp [hL]
    · simp [e]
  · intro x
    by_cases e : x = b
    · subst e; exact .inl hL
    · rw [upd_ne _ _ e]; exact ap x
theorem un_new {b : Nat} {o : Obj} (hb : un L h b = none) : upd (un L h) b o = un L (upd h b o) ∧ upd (un L h) b o = un (upd L b o) h ∧ (Apart L h → Apart L (upd h b o) ∧ Apart (upd L b o) h) := by
  obtain ⟨hL, hh⟩ := un_none.1 hb
  refine ⟨?_, ?_, fun ap => ⟨fun x => ?_, fun x => ?_⟩⟩
  · funext x
    unfold upd un
    by_cases e : x = b
    · subst e; simp [hL]
    · simp [e]
  · funext x
    unfold upd un
    by_cases e : x = b <;> simp [e]
  · by_cases e : x = b
    · subst e; exact .inl hL
    · rw [upd_ne _ _ e]; exact ap x
  · by_cases e : x = b
    · subst e; exact .inr hh
    · rw [upd_ne _ _ e]; exact ap x
theorem v_load {T : Type} {cells : T → List Value} {a : Addr} {k : T → H → Prop} {t : TypeId} {td : TypeDesc} {x : Operand} (hm : mLoad cells a k h) (hx : ev ρ x = .pointer (some a)) (hu : P.underlying t = some td) (hs : aggB td = false)
    (val : T → Value) (hv : ∀ y, cells y = [val y]) (nx : ∀ y, k y h → next (put ρ d (val y)) L h) : aOp P ⟨d, .load t x, ty, ps, af, gd⟩ ρ L h next C := by
  obtain ⟨y, hat, ky⟩ := hm
  rw [hv y] at hat
  refine aOp_q (K := fun v hf => v = val y ∧ hf = un L h) rfl (execOp_load hx) (fun ap => ?_) (fun v hf kk => ⟨L, h, kk.2, id, .refl _ _, by rw [kk.1]; exact nx y ky⟩)
  obtain ⟨hsp, c, e, fz, hb, hg⟩ := At_un ap hat
  exact load_scalar hu hs hsp hb (grab_one hg) ⟨rfl, rfl⟩
theorem v_loadA {T : Type} {cells : T → List Value} {a : Addr} {k : T → H → Prop} {t : TypeId} {td : TypeDesc} {ti : TypeInfo} {x : Operand} (hm : mLoad cells a k h) (hx : ev ρ x = .pointer (some a)) (hu : P.underlying t = some td) (hs : aggB td = true) (hi : P.info? t = some ti)
    (val : T → Value) (hv : ∀ y, val y = .agg (cells y).toArray ∧ (cells y).length = ti.size) (nx : ∀ y, k y h → next (put ρ d (val y)) L h) : aOp P ⟨d, .load t x, ty, ps, af, gd⟩ ρ L h next C := by
  obtain ⟨y, hat, ky⟩ := hm
  refine aOp_q (K := fun v hf => v = val y ∧ hf = un L h) rfl (execOp_load hx) (fun ap => ?_) (fun v hf kk => ⟨L, h, kk.2, id, .refl _ _, by rw [kk.1]; exact nx y ky⟩)
  obtain ⟨hsp, c, e, fz, hb, hg⟩ := At_un ap hat
  rw [(hv y).2] at hg
  exact load_agg hu hs hi hsp hb hg ⟨(hv y).1.symm, rfl⟩

theorem lay_size : ∀ (l : List Value) (c : Array Value) (off : Nat), (lay c off l).size = c.size := by
  intro l
  induction l with
  | nil => intro c off; rfl
  | cons v r ih => intro c off; simp only [lay]; rw [ih]; simp
theorem storeCells_run {a : Addr} {e : TypeId} {fz : Nat × Nat} (hsp : a.spot = none) {E : Value → H → Prop} : ∀ (l : List Value) (i : Nat) (hf : H) (c : Array Value) (fl : Bool) (K : Unit → H → Bool → Prop), l.all plainVal = true →
    hf a.block = some (.cells c e fz) → a.off + i + l.length ≤ c.size → (∀ j, j < l.length → frozenIn (.cells c e fz) (a.off + i + j) = false) → K () (upd hf a.block (.cells (lay c (a.off + i) l) e fz)) fl → awp P (storeCells a l i) hf fl K E := by
  intro l
  induction l with
  | nil => intro i hf c fl K _ hb _ _ k; rw [lay, upd_self hb] at k; exact k
  | cons v r ih =>
    intro i hf c fl K hp hb hsz hfz k
    simp only [List.all_cons, Bool.and_eq_true] at hp
    simp only [List.length_cons] at hsz hfz
    refine (awp_bind _ _ _ _).2 ?_
    have ha : (a.add i).block = a.block ∧ (a.add i).off = a.off + i ∧ (a.add i).spot = none := by
      unfold Addr.add; split
      · subst_vars; exact ⟨rfl, rfl, hsp⟩
      · exact ⟨rfl, rfl, rfl⟩
    refine ⟨ha.2.2, hp.1, c, e, fz, by rw [ha.1]; exact hb, by rw [ha.2.1]; omega, by rw [ha.2.1]; have := hfz 0 (by omega); simpa using this, ?_⟩
    show awp P (storeCells a r (i + 1)) _ _ _ _
    rw [ha.1, ha.2.1]
    refine ih (i + 1) _ (c.setIfInBounds (a.off + i) v) fl K hp.2 (upd_same _ _ _) (by simp; omega) (fun j hj => ?_) ?_
    · have := hfz (j + 1) (by omega)
      rw [show a.off + i + (j + 1) = a.off + (i + 1) + j from by omega] at this
      exact this
    · rw [upd_upd, show a.off + (i + 1) = a.off + i + 1 from by omega]
      exact k
theorem storeVar_run {t : TypeId} {ti : TypeInfo} {a : Addr} {e : TypeId} {fz : Nat × Nat} {w : Value} (hi : P.info? t = some ti) (hsz : w.cells.size = ti.size) (hsp : a.spot = none) {E : Value → H → Prop} {hf : H} {c : Array Value} {fl : Bool} {K : Unit → H → Bool → Prop} (hp : w.cells.toList.all plainVal = true)
    (hb : hf a.block = some (.cells c e fz)) (hl : a.off + w.cells.size ≤ c.size) (hfz : ∀ j, j < w.cells.size → frozenIn (.cells c e fz) (a.off + j) = false) (k : K () (upd hf a.block (.cells (lay c a.off w.cells.toList) e fz)) fl) : awp P (storeVar t a w) hf fl K E := by
  unfold storeVar
  refine (awp_bind _ _ _ _).2 ?_
  have q : awp P (sizeOf t) hf fl (fun n hf' fl' => n = ti.size ∧ hf' = hf ∧ fl' = fl) E := by
    show awp P (do pure (← typeInfo t).size) hf fl _ E
    refine (awp_bind _ _ _ _).2 ((awp_bind _ _ _ _).2 ?_)
    show awp P (match P.info? t with | some i => pure i | none => stuck "no such type") hf fl _ E
    rw [hi]
    exact ⟨rfl, rfl, rfl⟩
  refine awp_mono (fun n hf' fl' kk => ?_) (fun _ _ k => k) _ _ _ q
  obtain ⟨rfl, rfl, rfl⟩ := kk
  rw [if_neg (by rw [hsz]; exact fun h => h rfl)]
  exact storeCells_run hsp _ 0 hf' c _ K hp hb (by simpa using hl) (by simpa using hfz) k
theorem v_store {a : Addr} {w : Value} {l : List Value} {k : H → Prop} {t : TypeId} {ti : TypeInfo} {x y : Operand} (hm : mStore a l k h) (hx : ev ρ x = .pointer (some a)) (hy : ev ρ y = w) (hw : w.cells.toList = l) (hi : P.info? t = some ti) (hsz : l.length = ti.size) (hp : l.all plainVal = true)
    (nx : ∀ h', k h' → next (put ρ d undef) L h') : aOp P ⟨d, .store t x y, ty, ps, af, gd⟩ ρ L h next C := fun ap => by
  obtain ⟨hsp, c, e, fz, hb, hl, hfz, kk⟩ := hm
  show awp P (do Instr.storeAt t (ev ρ x) (ev ρ y); pure Next.skip) _ _ _ _
  rw [hx, hy]
  refine (awp_bind _ _ _ _).2 ?_
  have hb' : un L h a.block = some (.cells c e fz) := by
    rcases ap a.block with q | q
    · rw [un_right q]; exact hb
    · rw [q] at hb; cases hb
  obtain ⟨e1, e2⟩ := un_put (o' := .cells (lay c a.off l) e fz) ap hb
  have hn : w.cells.size = l.length := by rw [← hw, Array.length_toList]
  refine storeVar_run (w := w) hi (by rw [hn]; exact hsz) hsp (by rw [hw]; exact hp) hb' (by rw [hn]; exact hl) (by rw [hn]; exact hfz) ?_
  rw [hw, e1]
  exact ⟨trivial, L, _, rfl, fun _ => e2, .refl _ _, nx _ kk⟩
theorem b_store {b off : Nat} {w : Value} {t : TypeId} {ti : TypeInfo} {x y : Operand} {c : Array Value} {e : TypeId} (hx : ev ρ x = .pointer (some ⟨b, off, none⟩)) (hy : ev ρ y = w) (hk : L b = some (.cells c e (0, 0)))
    (hi : P.info? t = some ti) (hsz : w.cells.size = ti.size) (hp : w.cells.toList.all plainVal = true) (hl : off + w.cells.size ≤ c.size) (nx : next (put ρ d undef) (upd L b (.cells (lay c off w.cells.toList) e (0, 0))) h) :
    aOp P ⟨d, .store t x y, ty, ps, af, gd⟩ ρ L h next C := fun ap => by
  show awp P (do Instr.storeAt t (ev ρ x) (ev ρ y); pure Next.skip) _ _ _ _
  rw [hx, hy]
  refine (awp_bind _ _ _ _).2 ?_
  have hb : h b = none := by
    rcases ap b with q | q
    · rw [hk] at q; cases q
    · exact q
  have e1 : upd (un L h) b (.cells (lay c off w.cells.toList) e (0, 0)) = un (upd L b (.cells (lay c off w.cells.toList) e (0, 0))) h := by
    funext x
    unfold upd un
    by_cases e : x = b <;> simp [e]
  refine storeVar_run (w := w) (a := ⟨b, off, none⟩) hi hsz rfl hp (un_left hk) hl (fun j _ => by simp [frozenIn]) ?_
  rw [e1]
  refine ⟨trivial, _, h, rfl, fun _ z => ?_, ?_, nx⟩
  · by_cases e : z = b
    · subst e; exact .inr hb
    · rw [upd_ne _ _ e]; exact ap z
  · intro z hz
    unfold upd
    split
    · simp
    · exact hz
theorem newRow_q {t : TypeId} {c : Array Value} {hf : H} {K : Value → H → Prop} {E : Value → H → Prop} (k : ∀ b, hf b = none → K (.pointer (some ⟨b, 0, none⟩)) (upd hf b (.cells c t (0, 0)))) : qwp P (do pure (.pointer (some (← newRow t c))) : Sem Value) hf K E := fun b hb => k b hb
theorem v_box {k : Addr → H → Prop} {t : TypeId} {x : Operand} {c : Array Value} (hm : mNew t c k h) (hc : (ev ρ x).cells = c) (nx : ∀ a h', k a h' → next (put ρ d (.pointer (some a))) L h') : aOp P ⟨d, .box t x, ty, ps, af, gd⟩ ρ L h next C := by
  refine aOp_q (K := fun v hf => ∃ b, un L h b = none ∧ v = .pointer (some ⟨b, 0, none⟩) ∧ hf = upd (un L h) b (.cells c t (0, 0))) (s := Instr.box t (ev ρ x)) rfl rfl (fun _ => ?_) (fun v hf kk => ?_)
  · show qwp P (do pure (.pointer (some (← newRow t (ev ρ x).cells))) : Sem Value) _ _ _
    rw [hc]
    exact newRow_q fun b hb => ⟨b, hb, rfl, rfl⟩
  · obtain ⟨b, hb, rfl, rfl⟩ := kk
    obtain ⟨e1, _, e3⟩ := un_new (o := .cells c t (0, 0)) hb
    exact ⟨L, _, e1, fun ap => (e3 ap).1, .refl _ _, nx _ _ (hm b (un_none.1 hb).2)⟩
theorem b_box {t : TypeId} {x : Operand} {c : Array Value} (hc : (ev ρ x).cells = c) (nx : ∀ b, L b = none → next (put ρ d (.pointer (some ⟨b, 0, none⟩))) (upd L b (.cells c t (0, 0))) h) :
    aOp P ⟨d, .box t x, ty, ps, af, gd⟩ ρ L h next C := by
  refine aOp_q (K := fun v hf => ∃ b, un L h b = none ∧ v = .pointer (some ⟨b, 0, none⟩) ∧ hf = upd (un L h) b (.cells c t (0, 0))) (s := Instr.box t (ev ρ x)) rfl rfl (fun _ => ?_) (fun v hf kk => ?_)
  · show qwp P (do pure (.pointer (some (← newRow t (ev ρ x).cells))) : Sem Value) _ _ _
    rw [hc]
    exact newRow_q fun b hb => ⟨b, hb, rfl, rfl⟩
  · obtain ⟨b, hb, rfl, rfl⟩ := kk
    obtain ⟨_, e2, e3⟩ := un_new (o := .cells c t (0, 0)) hb
    refine ⟨_, h, e2, fun ap => (e3 ap).2, ?_, nx b (un_none.1 hb).1⟩
    intro z o hz
    rw [upd_ne _ _ (fun e => by rw [e, (un_none.1 hb).1] at hz; cases hz)]; exact hz
theorem alloc_qv {t : TypeId} {ti : TypeInfo} {z : Value} {c : Array Value} {hf : H} {K : Value → H → Prop} {E : Value → H → Prop} (hi : P.info? t = some ti) (hz : ti.zero = some z) (hc : z.cells = c) (k : ∀ b, hf b = none → K (.pointer (some ⟨b, 0, none⟩)) (upd hf b (.cells c t (0, 0)))) :
    qwp P (Instr.alloc t true (.tuple #[])) hf K E := by
  refine (qwp_bind _ _ _).2 (QV.zero hi hz hf _ _ ?_)
  show qwp P (do pure (.pointer (some (← newRow t z.cells))) : Sem Value) _ _ _
  rw [hc]
  exact newRow_q k
theorem v_alloc {k : Addr → H → Prop} {t : TypeId} {ti : TypeInfo} {z : Value} {c : Array Value} (hm : mNew t c k h) (hi : P.info? t = some ti) (hz : ti.zero = some z) (hc : z.cells = c) (nx : ∀ a h', k a h' → next (put ρ d (.pointer (some a))) L h') : aOp P ⟨d, .alloc t, ty, ps, af, gd⟩ ρ L h next C := by
  refine aOp_q (K := fun v hf => ∃ b, un L h b = none ∧ v = .pointer (some ⟨b, 0, none⟩) ∧ hf = upd (un L h) b (.cells c t (0, 0))) (s := Instr.alloc t true (.tuple #[])) rfl rfl (fun _ => alloc_qv hi hz hc fun b hb => ⟨b, hb, rfl, rfl⟩) (fun v hf kk => ?_)
  obtain ⟨b, hb, rfl, rfl⟩ := kk
  obtain ⟨e1, _, e3⟩ := un_new (o := .cells c t (0, 0)) hb
  exact ⟨L, _, e1, fun ap => (e3 ap).1, .refl _ _, nx _ _ (hm b (un_none.1 hb).2)⟩
theorem b_alloc {t : TypeId} {ti : TypeInfo} {z : Value} {c : Array Value} (hi : P.info? t = some ti) (hz : ti.zero = some z) (hc : z.cells = c)
    (nx : ∀ b, L b = none → next (put ρ d (.pointer (some ⟨b, 0, none⟩))) (upd L b (.cells c t (0, 0))) h) : aOp P ⟨d, .alloc t, ty, ps, af, gd⟩ ρ L h next C := by
  refine aOp_q (K := fun v hf => ∃ b, un L h b = none ∧ v = .pointer (some ⟨b, 0, none⟩) ∧ hf = upd (un L h) b (.cells c t (0, 0))) (s := Instr.alloc t true (.tuple #[])) rfl rfl (fun _ => alloc_qv hi hz hc fun b hb => ⟨b, hb, rfl, rfl⟩) (fun v hf kk => ?_)
  obtain ⟨b, hb, rfl, rfl⟩ := kk
  obtain ⟨_, e2, e3⟩ := un_new (o := .cells c t (0, 0)) hb
  refine ⟨_, h, e2, fun ap => (e3 ap).2, ?_, nx b (un_none.1 hb).1⟩
  intro z o hz
  rw [upd_ne _ _ (fun e => by rw [e, (un_none.1 hb).1] at hz; cases hz)]; exact hz
end rules
end Go.Proofs.Ytlnlmideghepnaa.K
