/- The rules for functions as values, for made slices, for texts and bytes. -/
import Derived.Test.YtlnlmideghepnaaK9
namespace Go.Proofs.Ytlnlmideghepnaa.K
open Go

section
variable {P : Program} {C : PPost} {next : Post} {ρ : Env} {L h : H} {v : Value}
variable {d : Option Tmp} {ty : TypeId} {ps : String} {af : Array Edge} {gd : Option (Nat × Bool)}
theorem y_makeFunc {f : FuncId} {fl l : List Operand} {fvl vl : List Value} (hf : fl.map (ev ρ) = fvl) (hv : l.map (ev ρ) = vl) : YE P ⟨d, .makeFunc (.func f) fl.toArray l.toArray, ty, ps, af, gd⟩ ρ (.func (.func f) fvl.toArray vl.toArray) := by
  refine YE.val rfl rfl ?_
  subst hf; subst hv
  show QV P (Instr.makeFunc (.func f) (fl.toArray.map (ev ρ)) (l.toArray.map (ev ρ))) _
  rw [List.map_toArray (l := l), List.map_toArray (l := fl)]
  unfold Instr.makeFunc
  exact QV.pure _
/-- A call of a function that came as a value. -/
def mCallV {T : Type} (P : Program) (enc : T → Value) (fv : Value) (args : List Value) (k : T → H → Prop) : H → Prop := fun h =>
  ∃ f fn first cap, fv = .func (.func f) first cap ∧ Callee P f fn ∧ ACall P f (first ++ args.toArray ++ cap) h (fun v h' => ∃ r, v = enc r ∧ k r h') noP
theorem v_callV {T : Type} {enc : T → Value} {x : Operand} {fv : Value} {l : List Operand} {vl : List Value} {ts : Array TypeId} {k : T → H → Prop} (hx : ev ρ x = fv) (hv : l.map (ev ρ) = vl) (hm : mCallV P enc fv vl k h)
    (nx : ∀ r h', k r h' → next (put ρ d (enc r)) L h') : aOp P ⟨d, .call ⟨.value x, l.toArray, ts⟩, ty, ps, af, gd⟩ ρ L h next C := fun _ => by
  obtain ⟨f, fn, first, cap, rfl, c, hc⟩ := hm
  show awp P (execOp (ev ρ) ⟨d, .call ⟨.value x, l.toArray, ts⟩, ty, ps, af, gd⟩) _ _ _ _
  have e : execOp (ev ρ) ⟨d, .call ⟨.value x, l.toArray, ts⟩, ty, ps, af, gd⟩ = callFunc f ((first ++ l.toArray.map (ev ρ)) ++ cap) := by
    show (do let d ← Deferred.ofValue (ev ρ x) (l.toArray.map (ev ρ)); invoke d.target d.args : Sem Next) = _
    rw [hx]; rfl
  rw [e, List.map_toArray, hv]
  exact callFunc_awp c ⟨trivial, L, h, rfl, id, .refl _ _, hc.mono (fun v h'' ⟨r, e, k⟩ _ => by subst e; exact nx r h'' k) fun _ _ k => k.elim⟩

/-- make([]T, n, c). -/
def mMake (elem : TypeId) (by_ : Nat) (zero : Array Value) (n c : Int) (k : Sl → H → Prop) : H → Prop := fun h =>
  0 ≤ n ∧ n ≤ c ∧ c ≤ 9223372036854775807 ∧ (by_ : Int) * c ≤ 2 ^ 48 ∧ ∀ b, h b = none → k ⟨some ⟨b, 0, none⟩, n.toNat, c.toNat⟩ (upd h b (.cells (Builtin.zeroCells zero c.toNat) elem (0, 0)))
theorem wrap_id {n : Int} (h0 : 0 ≤ n) (h1 : n ≤ 9223372036854775807) : IntKind.i64.wrap n = n := by
  have e : n % 2 ^ 64 = n := Int.emod_eq_of_lt h0 (by omega)
  unfold IntKind.wrap
  simp only [IntKind.signed, IntKind.bits, e]
  rw [if_neg]
  simp
  omega
theorem v_make {t e : TypeId} {ti : TypeInfo} {z : Value} {x y : Operand} {k1 k2 : IntKind} {n c : Int} {k : Sl → H → Prop} (hu : P.underlying t = some (.slice e)) (hi : P.info? e = some ti) (hz : ti.zero = some z) (hsz : z.cells.size = ti.size)
    (hx : ev ρ x = .int k1 n) (hy : ev ρ y = .int k2 c) (hm : mMake e ti.bytes z.cells n c k h) (nx : ∀ s h', k s h' → next (put ρ d s.val) L h') : aOp P ⟨d, .makeSlice t x y, ty, ps, af, gd⟩ ρ L h next C := fun ap => by
  obtain ⟨h0, h1, h2, h3, hk⟩ := hm
  show awp P (do pure (.value (← Instr.makeSlice t (ev ρ x) (ev ρ y))) : Sem Next) _ _ _ _
  rw [hx, hy]
  refine (awp_bind _ _ _ _).2 ?_
  unfold Instr.makeSlice
  refine AV.use (AV.underlying hu) ?_
  simp only []
  refine AV.use (a := n) (AV.pure n) (AV.use (a := c) (AV.pure c) (AV.use (AV.typeInfo hi) ?_))
  rw [wrap_id h0 (by omega), wrap_id (by omega) h2]
  have hb : (ti.bytes : Int) * n ≤ (ti.bytes : Int) * c := Int.mul_le_mul_of_nonneg_left h1 (by omega)
  rw [if_neg (by simp only [Bool.or_eq_true, decide_eq_true_eq, not_or]; omega)]
  refine (awp_bind _ _ _ _).2 (room_av fun fl => ?_)
  refine AV.use (AV.sizeOf hi) ?_
  have fin : ∀ (zs : Array Value), (Array.range (c.toNat * ti.size)).map (fun i => zs[i % zs.size]!) = Builtin.zeroCells z.cells c.toNat → awp P (do
      let a ← newRow e ((Array.range (c.toNat * ti.size)).map (fun i => zs[i % zs.size]!))
      pure (Value.slice (some a) n.toNat c.toNat)) (un L h) fl (fun a h' fl' => awp P (pure (Next.value a) : Sem Next) h' fl' (upon P ⟨d, .makeSlice t x y, ty, ps, af, gd⟩ ρ L h next C) fun v hf => C [{ v, recovered := false }] hf) fun v hf => C [{ v, recovered := false }] hf := fun zs e1 => by
    rw [e1]
    intro b hb
    obtain ⟨e1, _, e3⟩ := un_new (o := .cells (Builtin.zeroCells z.cells c.toNat) e (0, 0)) hb
    exact ⟨trivial, L, _, e1, fun ap => (e3 ap).1, .refl _ _, nx _ _ (hk b (un_none.1 hb).2)⟩
  split
  · rename_i hn
    refine AV.use (a := #[]) (AV.pure _) (fin #[] ?_)
    have : c.toNat * ti.size = 0 := hn
    unfold Builtin.zeroCells
    rw [hsz, this]
    simp
  · refine AV.use (AV.zero hi hz) ?_
    refine AV.use (AV.pure z.cells) ?_
    refine fin z.cells ?_
    unfold Builtin.zeroCells
    rw [hsz]

/-! Texts and bytes. -/
theorem grab_prefix : ∀ {l : List Value} {c : Array Value} {off : Nat} {n : Nat}, grab c off n = some l → l.length = n := grab_len
def u8s (l : List UInt8) : List Value := l.map fun b => Value.int .u8 b.toNat
theorem push_bytes : ∀ (l : List UInt8) (s : ByteArray), QV P (forIn (m := Sem) (u8s l).toArray s (fun (c : Value) (s : ByteArray) => (match c with
      | .int .u8 n => pure (ForInStep.yield (s.push (UInt8.ofNat n.toNat)))
      | _ => stuck "bytesToString: byte expected" : Sem (ForInStep ByteArray)))) ⟨s.data ++ l.toArray⟩ := by
  intro l
  induction l with
  | nil => intro s; simp [u8s]; exact QV.pure s
  | cons b r ih =>
    intro s
    have e : (u8s (b :: r)).toArray.toList = Value.int .u8 b.toNat :: u8s r := rfl
    rw [← Array.forIn_toList, e, List.forIn_cons]
    refine QV.bind (QV.pure _) ?_
    have := ih (s.push (UInt8.ofNat (b.toNat : Int).toNat))
    rw [← Array.forIn_toList] at this
    have e2 : (⟨(s.push (UInt8.ofNat (b.toNat : Int).toNat)).data ++ r.toArray⟩ : ByteArray) = ⟨s.data ++ (b :: r).toArray⟩ := by
      congr 1
      show s.data.push _ ++ r.toArray = _
      rw [Int.toNat_natCast, UInt8.ofNat_toNat]
      simp
    rw [e2] at this
    exact this

/-- string(bytes). -/
theorem v_text {src dst e : TypeId} {x : Operand} {s : Sl} {k : ByteArray → H → Prop} (hus : P.underlying src = some (.slice e)) (hud : P.underlying dst = some .string) (hue : P.underlying e = some (.int .u8)) (hx : ev ρ x = s.val) (hm : mText s k h)
    (nx : ∀ t, k t h → next (put ρ d (.string t)) L h) : aOp P ⟨d, .convert src dst x, ty, ps, af, gd⟩ ρ L h next C := by
  obtain ⟨l, hrow, hlen, hk⟩ := hm
  refine aOp_q (K := fun v hf => v = .string ⟨l.toArray⟩ ∧ hf = un L h) (by simp only [quietOp, hud]) rfl (fun ap => ?_) (fun v hf kk => ⟨L, h, kk.2, id, .refl _ _, by rw [kk.1]; exact nx _ hk⟩)
  show qwp P (convert src dst (ev ρ x)) _ _ _
  rw [hx]
  unfold convert Sl.val
  refine (qwp_bind _ _ _).2 (QV.underlying hus _ _ _ ((qwp_bind _ _ _).2 (QV.underlying hud _ _ _ ?_)))
  simp only []
  refine (qwp_bind _ _ _).2 (QV.underlying hue _ _ _ ?_)
  simp only []
  unfold Conv.bytesToString
  cases ha : s.a with
  | none =>
    rw [ha] at hrow
    have : l = [] := List.map_eq_nil_iff.1 hrow
    subst this
    exact ⟨rfl, rfl⟩
  | some a =>
    rw [ha] at hrow
    refine (qwp_bind _ _ _).2 ?_
    have hl := hlen (by rw [ha]; rfl)
    have fin : qwp P (forIn (m := Sem) (u8s l).toArray ByteArray.empty (fun (c : Value) (s : ByteArray) => (match c with
      | .int .u8 n => pure (ForInStep.yield (s.push (UInt8.ofNat n.toNat)))
      | _ => stuck "bytesToString: byte expected" : Sem (ForInStep ByteArray))) >>= fun s => pure (Value.string s)) (un L h) (fun v hf => v = Value.string ⟨l.toArray⟩ ∧ hf = un L h) (fun v hf => C [{ v, recovered := false }] hf) := by
      refine (qwp_bind _ _ _).2 (push_bytes l _ _ _ _ ?_)
      exact ⟨by show Value.string ⟨#[] ++ l.toArray⟩ = _; rw [Array.empty_append], rfl⟩
    rcases hrow with hrow | hat
    · have : l = [] := List.map_eq_nil_iff.1 hrow
      subst this
      rw [← hl]
      exact fin
    · obtain ⟨hsp, c, e, fz, hb, hg⟩ := At_un ap hat
      show qwp P (loadCellsFrom a 0 s.len #[]) _ _ _
      rw [List.length_map, hl] at hg
      exact loadFrom_run hsp hb s.len 0 #[] (u8s l) _ hg (by rw [Array.empty_append]; exact fin)
/-- []byte(text). -/
theorem v_bytes {src dst e : TypeId} {x : Operand} {s : ByteArray} {k : Sl → H → Prop} (hus : P.underlying src = some .string) (hud : P.underlying dst = some (.slice e)) (hue : P.underlying e = some (.int .u8)) (hx : ev ρ x = .string s) (hm : mBytes e s k h)
    (nx : ∀ s' h', k s' h' → next (put ρ d s'.val) L h') : aOp P ⟨d, .convert src dst x, ty, ps, af, gd⟩ ρ L h next C := fun ap => by
  rw [show quietOp P (Op.convert src dst x) = false by simp only [quietOp, hud]]
  show awp P (do pure (.value (← convert src dst (ev ρ x))) : Sem Next) _ _ _ _
  rw [hx]
  refine (awp_bind _ _ _ _).2 ?_
  unfold convert
  refine AV.use (AV.underlying hus) (AV.use (AV.underlying hud) ?_)
  simp only []
  refine AV.use (AV.underlying hue) ?_
  simp only []
  unfold Conv.stringToBytes
  refine (awp_bind _ _ _ _).2 ?_
  intro q
  have hcap : s.size ≤ (Question.appendCap s.size 0 e).cut q := by simp only [Question.cut]; omega
  generalize (Question.appendCap s.size 0 e).cut q = cap at hcap
  intro b hb
  have e0 := un_new (o := .cells ((s.data.map fun b => Value.int .u8 b.toNat) ++ Array.replicate (cap - s.size) (.int .u8 0)) e (0, 0)) hb
  have hsz : ((s.data.map fun b : UInt8 => Value.int .u8 b.toNat) ++ Array.replicate (cap - s.size) (Value.int .u8 0)).size = s.size + (cap - s.size) := by rw [Array.size_append, Array.size_map, Array.size_replicate]; rfl
  refine ⟨_, upd_same _ _ _, ?_⟩
  show awp P _ _ _ _ _
  refine ⟨_, upd_same _ _ _, rfl, Nat.one_ne_zero, ?_⟩
  rw [upd_upd]
  obtain ⟨e1, _, e3⟩ := un_new (o := .cells ((s.data.map fun b => Value.int .u8 b.toNat) ++ Array.replicate (cap - s.size) (.int .u8 0)) e (s.size + (cap - s.size), s.size + (cap - s.size) + 1)) hb
  refine ⟨trivial, L, _, ?_, fun ap => (e3 ap).1, .refl _ _, nx _ _ (hm b cap (un_none.1 hb).2 hcap)⟩
  rw [← e1]
  congr 1
  simp only [freezeIn, hsz, beq_self_eq_true, if_true]
end
end Go.Proofs.Ytlnlmideghepnaa.K
