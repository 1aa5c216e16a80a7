/- Equality: against nil, of structs. -/
import Derived.Test.YtlnlmideghepnaaK8
namespace Go.Proofs.Ytlnlmideghepnaa.K
open Go

section eq
variable {P : Program} {ρ : Env}
variable {d : Option Tmp} {ty : TypeId} {ps : String} {af : Array Edge} {gd : Option (Nat × Bool)}
theorem y_eqOf {t u : TypeId} {x y : Operand} {vx vy : Value} {b : Bool} (hx : ev ρ x = vx) (hy : ev ρ y = vy) (hg : QV P (eqGuard .eql t x y vx vy) ()) (hb : binOp .eql t vx vy = (do pure (.bool (← Op.equal t vx vy)) : Sem Value)) (he : QV P (Op.equal t vx vy) b) :
    YE P ⟨d, .binOp .eql t x y u, ty, ps, af, gd⟩ ρ (.bool b) := by
  refine YE.val rfl rfl ?_
  show QV P (do eqGuard .eql t x y (ev ρ x) (ev ρ y); binOp .eql t (ev ρ x) (ev ρ y)) _
  rw [hx, hy]
  refine QV.bind hg ?_
  rw [hb]
  exact QV.bind he (QV.pure _)
theorem y_neOf {t u : TypeId} {x y : Operand} {vx vy : Value} {b : Bool} (hx : ev ρ x = vx) (hy : ev ρ y = vy) (hg : QV P (eqGuard .neq t x y vx vy) ()) (hb : binOp .neq t vx vy = (do pure (.bool (!(← Op.equal t vx vy))) : Sem Value)) (he : QV P (Op.equal t vx vy) b) :
    YE P ⟨d, .binOp .neq t x y u, ty, ps, af, gd⟩ ρ (.bool !b) := by
  refine YE.val rfl rfl ?_
  show QV P (do eqGuard .neq t x y (ev ρ x) (ev ρ y); binOp .neq t (ev ρ x) (ev ρ y)) _
  rw [hx, hy]
  refine QV.bind hg ?_
  rw [hb]
  exact QV.bind he (QV.pure _)
theorem eq_nilP {t e : TypeId} {p : Option Addr} (hu : P.underlying t = some (.pointer e)) : QV P (Op.equal t (.pointer p) (.pointer none)) p.isNone := by
  show QV P (Op.equalIn Op.maxDepth t _ _) _
  unfold Op.maxDepth Op.equalIn
  refine QV.bind (QV.underlying hu) ?_
  cases p <;> exact QV.pure _
theorem eq_nilS {t e : TypeId} {s : Sl} {n c : Nat} (hu : P.underlying t = some (.slice e)) : QV P (Op.equal t s.val (.slice none n c)) s.a.isNone := by
  show QV P (Op.equalIn Op.maxDepth t _ _) _
  unfold Op.maxDepth Op.equalIn Sl.val
  refine QV.bind (QV.underlying hu) ?_
  cases s.a <;> exact QV.pure _
theorem eq_nilM {t k e : TypeId} {p : Option Nat} (hu : P.underlying t = some (.map k e)) : QV P (Op.equal t (.map p) (.map none)) p.isNone := by
  show QV P (Op.equalIn Op.maxDepth t _ _) _
  unfold Op.maxDepth Op.equalIn
  refine QV.bind (QV.underlying hu) ?_
  cases p <;> exact QV.pure _
theorem y_eqP {t e u : TypeId} {x y : Operand} {p : Option Addr} (hu : P.underlying t = some (.pointer e)) (hx : ev ρ x = .pointer p) (hy : ev ρ y = .pointer none) : YE P ⟨d, .binOp .eql t x y u, ty, ps, af, gd⟩ ρ (.bool p.isNone) := y_eqOf hx hy (QV.pure _) rfl (eq_nilP hu)
theorem y_neP {t e u : TypeId} {x y : Operand} {p : Option Addr} (hu : P.underlying t = some (.pointer e)) (hx : ev ρ x = .pointer p) (hy : ev ρ y = .pointer none) : YE P ⟨d, .binOp .neq t x y u, ty, ps, af, gd⟩ ρ (.bool !p.isNone) := y_neOf hx hy (QV.pure _) rfl (eq_nilP hu)
theorem y_eqSl {t e u : TypeId} {x y : Operand} {s : Sl} {n c : Nat} (hu : P.underlying t = some (.slice e)) (hx : ev ρ x = s.val) (hy : ev ρ y = .slice none n c) : YE P ⟨d, .binOp .eql t x y u, ty, ps, af, gd⟩ ρ (.bool s.a.isNone) := y_eqOf hx hy (QV.pure _) rfl (eq_nilS hu)
theorem y_neSl {t e u : TypeId} {x y : Operand} {s : Sl} {n c : Nat} (hu : P.underlying t = some (.slice e)) (hx : ev ρ x = s.val) (hy : ev ρ y = .slice none n c) : YE P ⟨d, .binOp .neq t x y u, ty, ps, af, gd⟩ ρ (.bool !s.a.isNone) := y_neOf hx hy (QV.pure _) rfl (eq_nilS hu)
theorem y_eqM {t k e u : TypeId} {x y : Operand} {p : Option Nat} (hu : P.underlying t = some (.map k e)) (hx : ev ρ x = .map p) (hy : ev ρ y = .map none) : YE P ⟨d, .binOp .eql t x y u, ty, ps, af, gd⟩ ρ (.bool p.isNone) := y_eqOf hx hy (QV.pure _) rfl (eq_nilM hu)
theorem y_neM {t k e u : TypeId} {x y : Operand} {p : Option Nat} (hu : P.underlying t = some (.map k e)) (hx : ev ρ x = .map p) (hy : ev ρ y = .map none) : YE P ⟨d, .binOp .neq t x y u, ty, ps, af, gd⟩ ρ (.bool !p.isNone) := y_neOf hx hy (QV.pure _) rfl (eq_nilM hu)

/-- Two values of a type are equal just if 'b', where no more than 'n' levels lie in one another. -/
def EQ (P : Program) (n : Nat) (t : TypeId) (x y : Value) (b : Bool) : Prop := ∀ k, n ≤ k → QV P (Op.equalIn k t x y) b
theorem eq_int {t : TypeId} {j k : IntKind} {a b : Int} (hu : P.underlying t = some (.int j)) : EQ P 1 t (.int k a) (.int k b) (decide (a = b)) := fun m hm => by
  obtain ⟨m, rfl⟩ : ∃ q, m = q + 1 := ⟨m - 1, by omega⟩
  unfold Op.equalIn
  refine QV.bind (QV.underlying hu) ?_
  simp only [if_true]
  exact QV.pure _
theorem eq_bool {t : TypeId} {a b : Bool} (hu : P.underlying t = some .bool) : EQ P 1 t (.bool a) (.bool b) (a == b) := fun m hm => by
  obtain ⟨m, rfl⟩ : ∃ q, m = q + 1 := ⟨m - 1, by omega⟩
  unfold Op.equalIn
  exact QV.bind (QV.underlying hu) (QV.pure _)
theorem eq_str {t : TypeId} {a b : ByteArray} (hu : P.underlying t = some .string) : EQ P 1 t (.string a) (.string b) (a == b) := fun m hm => by
  obtain ⟨m, rfl⟩ : ∃ q, m = q + 1 := ⟨m - 1, by omega⟩
  unfold Op.equalIn
  exact QV.bind (QV.underlying hu) (QV.pure _)
def PartOk (P : Program) (f : Field) (cs : Array Value) (v : Value) : Prop := QV P (part f.type cs f.offset) v
theorem part_one {f : Field} {cs : Array Value} {v : Value} {td : TypeDesc} (hu : P.underlying f.type = some td) (hs : aggB td = false) (hv : cs[f.offset]? = some v) : PartOk P f cs v := by
  unfold PartOk part
  refine QV.bind (QV.isAgg hu) ?_
  rw [hs]
  simp only [Bool.false_eq_true, if_false, hv]
  exact QV.pure _
theorem part_agg {f : Field} {cs : Array Value} {v : Value} {td : TypeDesc} {ti : TypeInfo} (hu : P.underlying f.type = some td) (hs : aggB td = true) (hi : P.info? f.type = some ti) (hv : Value.agg (cs.extract f.offset (f.offset + ti.size)) = v) : PartOk P f cs v := by
  unfold PartOk part
  refine QV.bind (QV.isAgg hu) ?_
  rw [hs, ← hv]
  simp only [if_true]
  exact QV.bind (QV.sizeOf hi) (QV.pure _)
def EFs (P : Program) (n : Nat) : List Field → Array Value → Array Value → Bool → Prop
  | [], _, _, b => b = true
  | f :: r, xs, ys, b => (f.name == "_") = false ∧ ∃ x y b1 b2, PartOk P f xs x ∧ PartOk P f ys y ∧ EQ P n f.type x y b1 ∧ EFs P n r xs ys b2 ∧ b = (b1 && b2)
theorem efs_nil {n : Nat} {xs ys : Array Value} : EFs P n [] xs ys true := rfl
theorem efs_cons {n n1 : Nat} {f : Field} {r : List Field} {xs ys : Array Value} {x y : Value} {b1 b2 : Bool} (hn : (f.name == "_") = false) (px : PartOk P f xs x) (py : PartOk P f ys y) (e : EQ P n1 f.type x y b1) (hle : Nat.ble n1 n = true) (h : EFs P n r xs ys b2) : EFs P n (f :: r) xs ys (b1 && b2) :=
  ⟨hn, x, y, b1, b2, px, py, fun k hk => e k (Nat.le_trans (Nat.le_of_ble_eq_true hle) hk), h, rfl⟩
theorem efs_run {n k : Nat} (hk : n ≤ k) {xs ys : Array Value} : ∀ {fl : List Field} {b : Bool}, EFs P n fl xs ys b → QV P (do
      for f in fl do
        if f.name ≠ "_" then
          if !(← Op.equalIn k f.type (← part f.type xs f.offset) (← part f.type ys f.offset)) then return false
      pure true : Sem Bool) b := by
  intro fl
  induction fl with
  | nil => intro b h; subst h; exact QV.pure _
  | cons f r ih =>
    intro b h
    obtain ⟨hn, x, y, b1, b2, px, py, e, h, rfl⟩ := h
    have hne : f.name ≠ "_" := by intro q; rw [q] at hn; simp at hn
    have q1 := ih h
    cases b1 with
    | true =>
      rw [Bool.true_and]
      simp only [List.forIn_cons, hne, ne_eq, not_false_eq_true, if_true, bind_assoc] at q1 ⊢
      refine QV.bind px (QV.bind py (QV.bind (e k hk) ?_))
      simpa using q1
    | false =>
      rw [Bool.false_and]
      simp only [List.forIn_cons, hne, ne_eq, not_false_eq_true, if_true, bind_assoc]
      refine QV.bind px (QV.bind py (QV.bind (e k hk) ?_))
      exact QV.pure _
theorem eq_struct {t : TypeId} {fl : List Field} {xs ys : Array Value} {n : Nat} {b : Bool} (hu : P.underlying t = some (.struct fl.toArray)) (hs : P.stoodInHeld t = false) (h : EFs P n fl xs ys b) : EQ P (n + 1) t (.agg xs) (.agg ys) b := fun m hm => by
  obtain ⟨m, rfl⟩ : ∃ q, m = q + 1 := ⟨m - 1, by omega⟩
  unfold Op.equalIn
  refine QV.bind (QV.underlying hu) ?_
  simp only []
  refine QV.bind (a := P) (QV.program) ?_
  rw [hs]
  have := efs_run (k := m) (by omega) h
  simpa using this
theorem y_eqA {t u : TypeId} {x y : Operand} {xs ys : Array Value} {n : Nat} {b : Bool} (hq : P.eqGuardType P.depth t = false) (hx : ev ρ x = .agg xs) (hy : ev ρ y = .agg ys) (e : EQ P n t (.agg xs) (.agg ys) b) (hn : Nat.ble n 100 = true) : YE P ⟨d, .binOp .eql t x y u, ty, ps, af, gd⟩ ρ (.bool b) := by
  refine y_eqOf hx hy ?_ rfl (e _ (by have := Nat.le_of_ble_eq_true hn; unfold Op.maxDepth; omega))
  unfold eqGuard
  simp only [Bool.not_true, Bool.false_eq_true, if_false]
  refine QV.bind QV.program (QV.bind QV.program ?_)
  rw [hq]
  exact QV.pure _
theorem y_neA {t u : TypeId} {x y : Operand} {xs ys : Array Value} {n : Nat} {b : Bool} (hq : P.eqGuardType P.depth t = false) (hx : ev ρ x = .agg xs) (hy : ev ρ y = .agg ys) (e : EQ P n t (.agg xs) (.agg ys) b) (hn : Nat.ble n 100 = true) : YE P ⟨d, .binOp .neq t x y u, ty, ps, af, gd⟩ ρ (.bool !b) := by
  refine y_neOf hx hy ?_ rfl (e _ (by have := Nat.le_of_ble_eq_true hn; unfold Op.maxDepth; omega))
  unfold eqGuard
  simp only [Bool.not_true, Bool.false_eq_true, if_false]
  refine QV.bind QV.program (QV.bind QV.program ?_)
  rw [hq]
  exact QV.pure _
end eq
end Go.Proofs.Ytlnlmideghepnaa.K
