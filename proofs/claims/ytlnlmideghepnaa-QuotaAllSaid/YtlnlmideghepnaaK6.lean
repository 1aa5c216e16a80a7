/- The rules for the model's other operations: indexes, slices, strings, calls, results, building, appending. -/
import Derived.Test.YtlnlmideghepnaaK5
import Derived.Laws.Sem
namespace Go.Proofs.Ytlnlmideghepnaa.K
open Go

def isByte (s : ByteArray) (i x : Int) : Prop := ∃ b : UInt8, 0 ≤ i ∧ s[i.toNat]? = some b ∧ x = b.toNat
def mByte (s : ByteArray) (i : Int) (k : Int → H → Prop) : H → Prop := fun h => ∃ x, isByte s i x ∧ k x h
def isSub (s : ByteArray) (lo hi : Int) (x : ByteArray) : Prop := 0 ≤ lo ∧ lo ≤ hi ∧ hi ≤ s.size ∧ x = s.extract lo.toNat hi.toNat
def mSub (s : ByteArray) (lo hi : Int) (k : ByteArray → H → Prop) : H → Prop := fun h => ∃ x, isSub s lo hi x ∧ k x h
def isCat (s t x : ByteArray) : Prop := ((s.size + t.size : Nat) : Int) ≤ IntKind.i64.max ∧ x = s ++ t
def mCat (s t : ByteArray) (k : ByteArray → H → Prop) : H → Prop := fun h => ∃ x, isCat s t x ∧ k x h
def mNZ (b : Int) (k : H → Prop) : H → Prop := fun h => b ≠ 0 ∧ k h
def mNN (b : Int) (k : H → Prop) : H → Prop := fun h => 0 ≤ b ∧ k h
/-- A row of so many cells that a slice begins with. -/
def Row (h : H) (a : Option Addr) (l : List Value) : Prop := match a with | none => l = [] | some a => l = [] ∨ At h a l
/-- The text of a slice of bytes. -/
def mText (s : Sl) (k : ByteArray → H → Prop) : H → Prop := fun h => ∃ l : List UInt8, Row h s.a (l.map fun b => Value.int .u8 b.toNat) ∧ (s.a.isSome = true → l.length = s.len) ∧ k ⟨l.toArray⟩ h
/-- The bytes of a text. -/
def mBytes (elem : TypeId) (s : ByteArray) (k : Sl → H → Prop) : H → Prop := fun h => ∀ b cap, h b = none → s.size ≤ cap →
  k ⟨some ⟨b, 0, none⟩, s.size, cap⟩ (upd h b (.cells ((s.data.map fun b => Value.int .u8 b.toNat) ++ Array.replicate (cap - s.size) (.int .u8 0)) elem (s.size + (cap - s.size), s.size + (cap - s.size) + 1)))
/-- 'm' elements of 'sz' cells each, whose cells are 'new', appended to a slice. -/
def Room (by_ : Nat) (need cap : Nat) : Prop := Builtin.nextslicecap need cap * by_ ≤ 2 ^ 48
def mApp (elem : TypeId) (sz by_ : Nat) (zero : Array Value) (m : Nat) (new : List Value) (s : Sl) (k : Sl → H → Prop) : H → Prop := fun h =>
  (s.len + m ≤ s.cap → match s.a with
    | none => new = [] ∧ k ⟨none, s.len + m, s.cap⟩ h
    | some a => (new = [] ∧ k ⟨some a, s.len + m, s.cap⟩ h) ∨ (a.add (s.len * sz)).spot = none ∧ ∃ c e fz, h a.block = some (.cells c e fz) ∧ (a.add (s.len * sz)).off + new.length ≤ c.size ∧
        (∀ i, i < new.length → frozenIn (.cells c e fz) ((a.add (s.len * sz)).off + i) = false) ∧ k ⟨some a, s.len + m, s.cap⟩ (upd h a.block (.cells (lay c (a.add (s.len * sz)).off new) e fz))) ∧
  (¬ s.len + m ≤ s.cap → ∃ old, Row h s.a old ∧ (s.a.isSome = true → old.length = s.len * sz) ∧ Room by_ (s.len + m) s.cap ∧
      ∀ b cap, h b = none → s.len + m ≤ cap → k ⟨some ⟨b, 0, none⟩, s.len + m, cap⟩ (upd h b (.cells (old.toArray ++ new.toArray ++ Builtin.zeroCells zero (cap - (s.len + m))) elem (0, 0))))
/-- .. the elements of another slice. -/
def mAppend (elem : TypeId) (sz by_ : Nat) (zero : Array Value) (s x : Sl) (k : Sl → H → Prop) : H → Prop := fun h => ∃ new, Row h x.a new ∧ (x.a.isSome = true → new.length = x.len * sz) ∧ new.all plainVal = true ∧
  mApp elem sz by_ zero x.len new s k h

section rules
variable {P : Program} {C : PPost} {ops : Array Oper} {next : Post} {ρ : Env} {L h : H} {v : Value}
variable {d : Option Tmp} {ty : TypeId} {ps : String} {af : Array Edge} {gd : Option (Nat × Bool)}
theorem y_extract {x : Operand} {i : Nat} {vs : Array Value} (hx : ev ρ x = .tuple vs) (hv : vs[i]? = some v) : YE P ⟨d, .extract x i, ty, ps, af, gd⟩ ρ v := by
  refine YE.val rfl rfl ?_
  show QV P (Instr.extract (ev ρ x) i) v
  rw [hx]; unfold Instr.extract; simp only [hv]; exact QV.pure v
theorem y_field {t : TypeId} {x : Operand} {i : Nat} {cs : Array Value} {fs : Array Field} {f : Field} {td : TypeDesc} (hx : ev ρ x = .agg cs) (hu : P.underlying t = some (.struct fs)) (hf : fs[i]? = some f) (ht : P.underlying f.type = some td) (hs : aggB td = false) (hv : cs[f.offset]? = some v) :
    YE P ⟨d, .field t x i, ty, ps, af, gd⟩ ρ v := by
  refine YE.val rfl rfl ?_
  show QV P (Instr.field t (ev ρ x) i) v
  rw [hx]
  refine QV.bind (QV.underlying hu) ?_
  simp only [hf]
  refine QV.bind (QV.pure cs) (QV.bind (QV.isAgg ht) ?_)
  rw [hs]; simp only [hv]; exact QV.pure v
theorem y_fieldA {t : TypeId} {x : Operand} {i : Nat} {cs : Array Value} {fs : Array Field} {f : Field} {td : TypeDesc} {ti : TypeInfo} (hx : ev ρ x = .agg cs) (hu : P.underlying t = some (.struct fs)) (hf : fs[i]? = some f) (ht : P.underlying f.type = some td) (hs : aggB td = true)
    (hi : P.info? f.type = some ti) (hv : Value.agg (cs.extract f.offset (f.offset + ti.size)) = v) : YE P ⟨d, .field t x i, ty, ps, af, gd⟩ ρ v := by
  refine YE.val rfl rfl ?_
  show QV P (Instr.field t (ev ρ x) i) v
  rw [hx]
  refine QV.bind (QV.underlying hu) ?_
  simp only [hf]
  refine QV.bind (QV.pure cs) (QV.bind (QV.isAgg ht) ?_)
  rw [hs, ← hv]
  exact QV.bind (QV.sizeOf hi) (QV.pure _)
theorem y_fieldAddr {t : TypeId} {x : Operand} {i : Nat} {a : Addr} {fs : Array Field} {f : Field} {ti : TypeInfo} (hx : ev ρ x = .pointer (some a)) (hu : P.underlying t = some (.struct fs)) (hf : fs[i]? = some f) (hi : P.info? f.type = some ti) (hs : Nat.beq ti.size 0 = false) :
    YE P ⟨d, .fieldAddr t x i, ty, ps, af, gd⟩ ρ (.pointer (some (a.add f.offset))) := by
  refine YE.val rfl rfl ?_
  show QV P (Instr.fieldAt t (ev ρ x) i) _
  rw [hx]
  refine QV.bind (QV.underlying hu) ?_
  simp only [hf]
  refine QV.bind (QV.pure a) (QV.bind (a := a.add f.offset) (QV.bind (QV.sizeOf hi) ?_) (QV.pure _))
  rw [if_neg (fun e => by rw [e] at hs; cases hs)]
  exact QV.pure _
theorem y_idx {t : TypeId} {x j : Operand} {s : Sl} {k : IntKind} {i : Int} {e : TypeId} {ti : TypeInfo} {a' : Addr} (hu : P.underlying t = some (.slice e)) (hi : P.info? e = some ti) (hx : ev ρ x = s.val) (hj : ev ρ j = .int k i) (hq : isIdx s i ti.size a') :
    YE P ⟨d, .indexAddr t x j, ty, ps, af, gd⟩ ρ (.pointer (some a')) := by
  obtain ⟨a, ha, h0, h1, rfl⟩ := hq
  refine YE.val rfl rfl ?_
  show QV P (Instr.indexAt t (ev ρ x) (ev ρ j)) _
  rw [hx, hj]
  unfold Instr.indexAt Sl.val
  refine QV.bind (a := (k, i)) (QV.pure _) (QV.bind (QV.underlying hu) ?_)
  refine QV.bind (a := (s.a, s.len, e)) (QV.pure _) (QV.bind (QV.underlying hu) ?_)
  simp only [ha]
  rw [if_pos ⟨h0, h1⟩]
  exact QV.bind (QV.sizeOf hi) (QV.pure _)
/-- .. of an array. -/
theorem y_idxA {t : TypeId} {x j : Operand} {a : Addr} {n : Nat} {k : IntKind} {i : Int} {e : TypeId} {ti : TypeInfo} {a' : Addr} (hu : P.underlying t = some (.array n e)) (hi : P.info? e = some ti) (hx : ev ρ x = .pointer (some a)) (hj : ev ρ j = .int k i) (hq : isIdx ⟨some a, n, n⟩ i ti.size a') :
    YE P ⟨d, .indexAddr t x j, ty, ps, af, gd⟩ ρ (.pointer (some a')) := by
  obtain ⟨a0, ha, h0, h1, rfl⟩ := hq
  cases ha
  refine YE.val rfl rfl ?_
  show QV P (Instr.indexAt t (ev ρ x) (ev ρ j)) _
  rw [hx, hj]
  unfold Instr.indexAt
  refine QV.bind (a := (k, i)) (QV.pure _) (QV.bind (QV.underlying hu) ?_)
  refine QV.bind (a := (some a, n, e)) (QV.pure _) (QV.bind (QV.underlying hu) ?_)
  simp only []
  rw [if_pos ⟨h0, h1⟩]
  exact QV.bind (QV.sizeOf hi) (QV.pure _)
theorem y_idxS {t : TypeId} {x j : Operand} {s : ByteArray} {k : IntKind} {i x' : Int} (hu : P.underlying t = some .string) (hx : ev ρ x = .string s) (hj : ev ρ j = .int k i) (hq : isByte s i x') :
    YE P ⟨d, .index t x j, ty, ps, af, gd⟩ ρ (.int .u8 x') := by
  obtain ⟨b, h0, h1, rfl⟩ := hq
  refine YE.val rfl rfl ?_
  show QV P (Instr.index t (ev ρ x) (ev ρ j)) _
  rw [hx, hj]
  unfold Instr.index
  refine QV.bind (a := (k, i)) (QV.pure _) (QV.bind (QV.underlying hu) ?_)
  simp only []
  rw [if_pos h0, h1]
  exact QV.pure _
theorem exec_builtin {b : Builtin} {xs : Array Operand} {ts : Array TypeId} : execOp (ev ρ) ⟨d, .call ⟨.builtin b, xs, ts⟩, ty, ps, af, gd⟩ = builtin b ts ty (xs.map fun | .const _ => true | _ => false) (xs.map (ev ρ)) := rfl
theorem YE.bi {b : Builtin} {xs : Array Operand} {ts : Array TypeId} {vs : Array Value} {s : Sem Value} (hq : quietOp P (.call ⟨.builtin b, xs, ts⟩) = true) (hv : xs.map (ev ρ) = vs) (hb : ∀ cs, builtin b ts ty cs vs = (do pure (.value (← s)) : Sem Next)) (x : QV P s v) :
    YE P ⟨d, .call ⟨.builtin b, xs, ts⟩, ty, ps, af, gd⟩ ρ v := by
  refine YE.of hq ?_
  rw [exec_builtin, hv, hb]
  exact QV.bind x (QV.pure _)
theorem y_lenS {t : TypeId} {x : Operand} {ts : Array TypeId} {s : ByteArray} (hx : ev ρ x = .string s) (ht : ts[0]? = some t) (hu : P.underlying t = some .string) : YE P ⟨d, .call ⟨.builtin .len, #[x], ts⟩, ty, ps, af, gd⟩ ρ (.int .i64 s.size) := by
  refine YE.bi (s := Builtin.len_ ts ty #[.string s]) rfl (by simp [hx]) (fun _ => rfl) ?_
  unfold Builtin.len_
  simp only [ht]
  exact QV.bind (QV.underlying hu) (QV.pure _)
theorem y_len {t e : TypeId} {x : Operand} {ts : Array TypeId} {s : Sl} (hx : ev ρ x = s.val) (ht : ts[0]? = some t) (hu : P.underlying t = some (.slice e)) : YE P ⟨d, .call ⟨.builtin .len, #[x], ts⟩, ty, ps, af, gd⟩ ρ (.int .i64 s.len) := by
  refine YE.bi (s := Builtin.len_ ts ty #[s.val]) rfl (by simp [hx]) (fun _ => rfl) ?_
  unfold Builtin.len_
  simp only [ht]
  exact QV.bind (QV.underlying hu) (QV.pure _)
theorem y_min {x y : Operand} {ts : Array TypeId} {k : IntKind} {a b : Int} (hx : ev ρ x = .int k a) (hy : ev ρ y = .int k b) : YE P ⟨d, .call ⟨.builtin .min, #[x, y], ts⟩, ty, ps, af, gd⟩ ρ (.int k (iMin a b)) := by
  refine YE.bi (s := Builtin.min_ ts ty #[.int k a, .int k b]) rfl (by simp [hx, hy]) (fun _ => rfl) ?_
  exact QV.pure _
theorem y_max {x y : Operand} {ts : Array TypeId} {k : IntKind} {a b : Int} (hx : ev ρ x = .int k a) (hy : ev ρ y = .int k b) : YE P ⟨d, .call ⟨.builtin .max, #[x, y], ts⟩, ty, ps, af, gd⟩ ρ (.int k (iMax a b)) := by
  refine YE.bi (s := Builtin.max_ ts ty #[.int k a, .int k b]) rfl (by simp [hx, hy]) (fun _ => rfl) ?_
  exact QV.pure _
theorem y_shl {t u : TypeId} {x y : Operand} {k j : IntKind} {a b : Int} (hx : ev ρ x = .int k a) (hy : ev ρ y = .int j b) (hb : 0 ≤ b) : YE P ⟨d, .binOp .shl t x y u, ty, ps, af, gd⟩ ρ (.int k (iShl k a b)) := by
  refine YE.val rfl rfl ?_
  show QV P (do eqGuard .shl t x y (ev ρ x) (ev ρ y); binOp .shl t (ev ρ x) (ev ρ y)) _
  rw [hx, hy]
  refine QV.bind eqGuard_int ?_
  show QV P (Op.shift .shl k a j b) _
  unfold Op.shift
  rw [if_neg (by omega)]
  exact QV.pure _
theorem y_shr {t u : TypeId} {x y : Operand} {k j : IntKind} {a b : Int} (hx : ev ρ x = .int k a) (hy : ev ρ y = .int j b) (hb : 0 ≤ b) : YE P ⟨d, .binOp .shr t x y u, ty, ps, af, gd⟩ ρ (.int k (iShr k a b)) := by
  refine YE.val rfl rfl ?_
  show QV P (do eqGuard .shr t x y (ev ρ x) (ev ρ y); binOp .shr t (ev ρ x) (ev ρ y)) _
  rw [hx, hy]
  refine QV.bind eqGuard_int ?_
  show QV P (Op.shift .shr k a j b) _
  unfold Op.shift
  rw [if_neg (by omega)]
  exact QV.pure _
theorem y_quo {t u : TypeId} {x y : Operand} {k : IntKind} {a b : Int} (hx : ev ρ x = .int k a) (hy : ev ρ y = .int k b) (hb : b ≠ 0) : YE P ⟨d, .binOp .quo t x y u, ty, ps, af, gd⟩ ρ (.int k (iQuo k a b)) := by
  refine YE.val rfl rfl ?_
  show QV P (do eqGuard .quo t x y (ev ρ x) (ev ρ y); binOp .quo t (ev ρ x) (ev ρ y)) _
  rw [hx, hy]
  refine QV.bind eqGuard_int ?_
  unfold binOp
  simp only [ne_eq, not_true_eq_false, if_false]
  unfold Op.intDiv
  rw [if_neg hb]
  exact QV.pure _
theorem y_rem {t u : TypeId} {x y : Operand} {k : IntKind} {a b : Int} (hx : ev ρ x = .int k a) (hy : ev ρ y = .int k b) (hb : b ≠ 0) : YE P ⟨d, .binOp .rem t x y u, ty, ps, af, gd⟩ ρ (.int k (iRem k a b)) := by
  refine YE.val rfl rfl ?_
  show QV P (do eqGuard .rem t x y (ev ρ x) (ev ρ y); binOp .rem t (ev ρ x) (ev ρ y)) _
  rw [hx, hy]
  refine QV.bind eqGuard_int ?_
  unfold binOp
  simp only [ne_eq, not_true_eq_false, if_false]
  unfold Op.intDiv
  rw [if_neg hb]
  exact QV.pure _
/-- Texts: comparisons. -/
def binS (op : BinOp) (a b : ByteArray) : Option Value :=
  match op with
  | .eql => some (.bool (a.toList == b.toList))
  | .neq => some (.bool !(a.toList == b.toList))
  | .lss => some (.bool (Op.bytesLess a.toList b.toList))
  | .leq => some (.bool (Op.bytesLess a.toList b.toList || a.toList == b.toList))
  | .gtr => some (.bool !(Op.bytesLess a.toList b.toList || a.toList == b.toList))
  | .geq => some (.bool !(Op.bytesLess a.toList b.toList))
  | _ => none
theorem eqGuard_str {op : BinOp} {t : TypeId} {x y : Operand} {a : ByteArray} {v : Value} : QV P (eqGuard op t x y (.string a) v) () := by
  cases op <;> cases v <;> exact QV.pure _
theorem y_binS {op : BinOp} {t u : TypeId} {x y : Operand} {a b : ByteArray} (hx : ev ρ x = .string a) (hy : ev ρ y = .string b) (hv : binS op a b = some v) : YE P ⟨d, .binOp op t x y u, ty, ps, af, gd⟩ ρ v := by
  refine YE.val rfl rfl ?_
  show QV P (do eqGuard op t x y (ev ρ x) (ev ρ y); binOp op t (ev ρ x) (ev ρ y)) v
  rw [hx, hy]
  refine QV.bind eqGuard_str ?_
  unfold binS at hv
  cases op <;> cases hv <;> exact QV.pure _
theorem y_cat {t u : TypeId} {x y : Operand} {a b r : ByteArray} (hx : ev ρ x = .string a) (hy : ev ρ y = .string b) (hq : isCat a b r) : YE P ⟨d, .binOp .add t x y u, ty, ps, af, gd⟩ ρ (.string r) := by
  obtain ⟨hl, rfl⟩ := hq
  refine YE.val rfl rfl ?_
  show QV P (do eqGuard .add t x y (ev ρ x) (ev ρ y); binOp .add t (ev ρ x) (ev ρ y)) _
  rw [hx, hy]
  refine QV.bind eqGuard_str ?_
  show QV P (Op.stringOp .add a b) _
  unfold Op.stringOp
  simp only []
  rw [if_neg (by omega)]
  exact QV.pure _
theorem y_conv {s t : TypeId} {sd : TypeDesc} {x : Operand} {k j : IntKind} {a : Int} (hx : ev ρ x = .int j a) (hu : P.underlying s = some sd) (ht : P.underlying t = some (.int k)) : YE P ⟨d, .convert s t x, ty, ps, af, gd⟩ ρ (.int k (k.wrap a)) := by
  refine YE.val (by simp only [quietOp, ht]) rfl ?_
  show QV P (convert s t (ev ρ x)) _
  rw [hx]
  unfold convert
  refine QV.bind (QV.underlying hu) (QV.bind (QV.underlying ht) ?_)
  cases sd <;> exact QV.pure _
theorem sub_bounds {s : Nat} {lo hi : Int} {kl kh : IntKind} (h0 : 0 ≤ lo) (h1 : lo ≤ hi) (h2 : hi ≤ s) (isS : Bool) (len : Nat) (l r : Option Value) (hl : l = none ∧ lo = 0 ∨ l = some (.int kl lo)) (hr : r = none ∧ hi = len ∨ r = some (.int kh hi)) :
    QV P (Instr.sliceBounds isS len s l r none) (lo.toNat, hi.toNat, s) := by
  have fin : ∀ (h : Nat), h = hi.toNat → QV P (do
      let l ← match l with
        | some v => Instr.sliceBound v h .sliceB
        | none => pure 0
      pure (l, h, s)) (lo.toNat, hi.toNat, s) := fun h e => by
    subst e
    rcases hl with ⟨rfl, rfl⟩ | rfl
    · exact QV.pure _
    · refine QV.bind (a := lo.toNat) (QV.bind (a := (kl, lo)) (QV.pure _) ?_) (QV.pure _)
      simp only []
      rw [if_pos ⟨by omega, by omega⟩]
      exact QV.pure _
  unfold Instr.sliceBounds
  refine QV.bind (a := s) (QV.pure s) ?_
  rcases hr with ⟨rfl, rfl⟩ | rfl
  · refine QV.bind (a := len) (QV.pure len) ?_
    exact fin len (by simp)
  · refine QV.bind (a := hi.toNat) (QV.bind (a := (kh, hi)) (QV.pure _) ?_) (fin _ rfl)
    simp only []
    rw [if_pos ⟨by omega, by omega⟩]
    exact QV.pure _
/-- How a bound is read: left out, or a number. -/
def bnd (ρ : Env) (o : Option Operand) (dflt : Int) (x : Int) : Prop := match o with | none => x = dflt | some y => ∃ k, ev ρ y = .int k x
theorem y_cut {t e : TypeId} {ti : TypeInfo} {x : Operand} {l r : Option Operand} {s : Sl} {lo hi : Int} {s' : Sl} (hu : P.underlying t = some (.slice e)) (hi' : P.info? e = some ti) (hx : ev ρ x = s.val) (hl : bnd ρ l 0 lo) (hr : bnd ρ r s.len hi) (hq : isCut s lo hi ti.size s') :
    YE P ⟨d, .slice t x l r none, ty, ps, af, gd⟩ ρ s'.val := by
  obtain ⟨h0, h1, h2, rfl⟩ := hq
  refine YE.val rfl rfl ?_
  show QV P (Instr.sliceAt t (ev ρ x) (l.map (ev ρ)) (r.map (ev ρ)) none) _
  rw [hx]
  unfold Instr.sliceAt
  refine QV.bind (QV.underlying hu) ?_
  simp only []
  unfold Instr.slice Sl.val
  refine QV.bind (QV.underlying hu) ?_
  simp only []
  obtain ⟨kl, hl⟩ : ∃ k, (l.map (ev ρ) = none ∧ lo = 0 ∨ l.map (ev ρ) = some (.int k lo)) := by
    cases l with
    | none => exact ⟨.i64, .inl ⟨rfl, hl⟩⟩
    | some y => obtain ⟨k, hk⟩ := hl; exact ⟨k, .inr (by rw [Option.map_some, hk])⟩
  obtain ⟨kr, hr⟩ : ∃ k, (r.map (ev ρ) = none ∧ hi = s.len ∨ r.map (ev ρ) = some (.int k hi)) := by
    cases r with
    | none => exact ⟨.i64, .inl ⟨rfl, hr⟩⟩
    | some y => obtain ⟨k, hk⟩ := hr; exact ⟨k, .inr (by rw [Option.map_some, hk])⟩
  refine QV.bind (sub_bounds h0 h1 h2 true s.len _ _ hl hr) (QV.bind (QV.sizeOf hi') ?_)
  exact QV.pure _
/-- .. of an array. -/
theorem y_cutA {t e : TypeId} {ti : TypeInfo} {x : Operand} {l r : Option Operand} {a : Addr} {n : Nat} {lo hi : Int} {s' : Sl} (hu : P.underlying t = some (.array n e)) (hi' : P.info? e = some ti) (hx : ev ρ x = .pointer (some a)) (hl : bnd ρ l 0 lo) (hr : bnd ρ r n hi) (hq : isCut ⟨some a, n, n⟩ lo hi ti.size s') :
    YE P ⟨d, .slice t x l r none, ty, ps, af, gd⟩ ρ s'.val := by
  obtain ⟨h0, h1, h2, rfl⟩ := hq
  refine YE.val rfl rfl ?_
  show QV P (Instr.sliceAt t (ev ρ x) (l.map (ev ρ)) (r.map (ev ρ)) none) _
  rw [hx]
  unfold Instr.sliceAt
  refine QV.bind (QV.underlying hu) ?_
  simp only []
  obtain ⟨kl, hl⟩ : ∃ k, (l.map (ev ρ) = none ∧ lo = 0 ∨ l.map (ev ρ) = some (.int k lo)) := by
    cases l with
    | none => exact ⟨.i64, .inl ⟨rfl, hl⟩⟩
    | some y => obtain ⟨k, hk⟩ := hl; exact ⟨k, .inr (by rw [Option.map_some, hk])⟩
  obtain ⟨kr, hr⟩ : ∃ k, (r.map (ev ρ) = none ∧ hi = n ∨ r.map (ev ρ) = some (.int k hi)) := by
    cases r with
    | none => exact ⟨.i64, .inl ⟨rfl, hr⟩⟩
    | some y => obtain ⟨k, hk⟩ := hr; exact ⟨k, .inr (by rw [Option.map_some, hk])⟩
  refine QV.bind (a := a) (QV.pure a) (QV.bind (sub_bounds h0 h1 h2 false n _ _ hl hr) (QV.bind (QV.sizeOf hi') ?_))
  unfold Sl.val
  show QV P _ (Value.slice (if n = lo.toNat then some a else (some a).map (·.add (lo.toNat * ti.size))) _ _)
  by_cases q : n = lo.toNat
  · rw [if_pos q]; simp only [if_pos q]; exact QV.pure _
  · rw [if_neg q]; simp only [if_neg q]; exact QV.pure _
theorem y_sub {t : TypeId} {x : Operand} {l r : Option Operand} {s : ByteArray} {lo hi : Int} {s' : ByteArray} (hu : P.underlying t = some .string) (hx : ev ρ x = .string s) (hl : bnd ρ l 0 lo) (hr : bnd ρ r s.size hi) (hq : isSub s lo hi s') :
    YE P ⟨d, .slice t x l r none, ty, ps, af, gd⟩ ρ (.string s') := by
  obtain ⟨h0, h1, h2, rfl⟩ := hq
  refine YE.val rfl rfl ?_
  show QV P (Instr.sliceAt t (ev ρ x) (l.map (ev ρ)) (r.map (ev ρ)) none) _
  rw [hx]
  unfold Instr.sliceAt
  refine QV.bind (QV.underlying hu) ?_
  simp only []
  unfold Instr.slice
  refine QV.bind (QV.underlying hu) ?_
  simp only [Option.isSome_none, Bool.false_eq_true, if_false]
  obtain ⟨kl, hl⟩ : ∃ k, (l.map (ev ρ) = none ∧ lo = 0 ∨ l.map (ev ρ) = some (.int k lo)) := by
    cases l with
    | none => exact ⟨.i64, .inl ⟨rfl, hl⟩⟩
    | some y => obtain ⟨k, hk⟩ := hl; exact ⟨k, .inr (by rw [Option.map_some, hk])⟩
  obtain ⟨kr, hr⟩ : ∃ k, (r.map (ev ρ) = none ∧ hi = s.size ∨ r.map (ev ρ) = some (.int k hi)) := by
    cases r with
    | none => exact ⟨.i64, .inl ⟨rfl, hr⟩⟩
    | some y => obtain ⟨k, hk⟩ := hr; exact ⟨k, .inr (by rw [Option.map_some, hk])⟩
  exact QV.bind (sub_bounds h0 h1 h2 false s.size _ _ hl hr) (QV.pure _)
end rules
end Go.Proofs.Ytlnlmideghepnaa.K
