/- What the effects of operations say is what the model's operations do: the rest. -/
import Derived.Test.YtlnlmideghepnaaQ2
namespace Go.Proofs.Ytlnlmideghepnaa.K
open Go

section oks
variable {P : Program} {X : Cx P} {β : Nat → Nat} {st : St} {ρ : Env} {L : H}
variable {d : Option Tmp} {ty : TypeId} {ps : String} {af : Array Edge} {gd : Option (Nat × Bool)}
theorem oFieldAddr (k : Ok β st ρ L) {t : TypeId} {x : Operand} {i : Nat} : EffOk P ⟨d, .fieldAddr t x i, ty, ps, af, gd⟩ β st ρ L (eFieldAddr P st t x i) := by
  unfold eFieldAddr
  split
  · rename_i fs hu
    split
    · rename_i f hf
      rw [Array.getElem?_toList] at hf
      split
      · rename_i ti hi
        split
        · rename_i hs
          split
          · rename_i a hx
            exact ⟨_, rfl, y_fieldAddr (k.adr hx) hu hf hi hs⟩
          · rename_i j off hx
            split
            · rename_i e he
              have := y_fieldAddr (P := P) (d := d) (ty := ty) (ps := ps) (af := af) (gd := gd) (k.box hx he) hu hf hi hs
              rw [addr_add] at this
              exact ⟨_, fun _ => rfl, this⟩
            · trivial
          · trivial
        · trivial
      · trivial
    · trivial
  · trivial
theorem extract_list (cs : Array Value) (o n : Nat) : cs.extract o (o + n) = ((cs.toList.drop o).take n).toArray := by
  apply Array.toList_inj.1
  rw [Array.toList_extract]
  unfold List.extract
  rw [Nat.add_sub_cancel_left]
theorem oField (k : Ok β st ρ L) {t : TypeId} {x : Operand} {i : Nat} : EffOk P ⟨d, .field t x i, ty, ps, af, gd⟩ β st ρ L (eField P st t x i) := by
  unfold eField
  split
  · rename_i fs cs hu hx
    split
    · rename_i f hf
      rw [Array.getElem?_toList] at hf
      split
      · rename_i td ti ht hi
        split
        · rename_i ha
          refine ⟨_, rfl, y_fieldA (k.v hx) hu hf ht ha hi ?_⟩
          rw [extract_list]
        · rename_i ha
          split
          · rename_i v hv
            rw [Array.getElem?_toList] at hv
            exact ⟨_, rfl, y_field (k.v hx) hu hf ht ha hv⟩
          · trivial
      · trivial
    · trivial
  · trivial
theorem oExtract (k : Ok β st ρ L) {x : Operand} {i : Nat} : EffOk P ⟨d, .extract x i, ty, ps, af, gd⟩ β st ρ L (eExtract st x i) := by
  unfold eExtract
  split
  · rename_i vs hx
    split
    · rename_i v hv
      rw [Array.getElem?_toList] at hv
      exact ⟨_, rfl, y_extract (k.v hx) hv⟩
    · trivial
  · trivial
theorem oUn (k : Ok β st ρ L) {op : UnOp} {t : TypeId} {x : Operand} : EffOk P ⟨d, .unOp op t x, ty, ps, af, gd⟩ β st ρ L (eUn st op x) := by
  unfold eUn
  split
  · rename_i b hx; exact ⟨_, rfl, y_not (k.v hx)⟩
  · rename_i kk a hx; exact ⟨_, rfl, y_neg (k.v hx)⟩
  · rename_i kk a hx; exact ⟨_, rfl, y_xor1 (k.v hx)⟩
  · trivial
theorem oConv (k : Ok β st ρ L) {s t : TypeId} {x : Operand} : EffOk P ⟨d, .convert s t x, ty, ps, af, gd⟩ β st ρ L (eConv P st s t x) := by
  unfold eConv
  split
  · rename_i sd kk kj a h1 h2 hx; exact ⟨_, rfl, y_conv (k.v hx) h1 h2⟩
  · rename_i e a l c h1 h2 hx
    split
    · rename_i h3
      exact fun q h next hm hn => v_text h1 h2 h3 (s := ⟨a, l, c⟩) (k.v hx) hm fun t kt => hn t _ _ kt (.inr rfl)
    · trivial
  · rename_i e b h1 h2 hx
    split
    · rename_i h3
      exact fun q h next hm hn => v_bytes h1 h2 h3 (k.v hx) hm fun t h' kt => hn t _ _ kt (.inr rfl)
    · trivial
  · trivial
theorem EQ.mono {n m : Nat} {t : TypeId} {x y : Value} {b : Bool} (h : EQ P n t x y b) (hle : n ≤ m) : EQ P m t x y b := fun k hk => h k (Nat.le_trans hle hk)
theorem partV_ok {f : Field} {cs : Array Value} {v : Value} (h : partV P f cs = some v) : PartOk P f cs v := by
  unfold partV at h
  split at h
  · rename_i td ti h1 h2
    split at h
    · rename_i ha; cases h; exact part_agg h1 ha h2 rfl
    · rename_i ha; rw [Array.getElem?_toList] at h; exact part_one h1 ha h
  · cases h
theorem eqFs_ok {n : Nat} {eq : TypeId → Value → Value → Option Bool} (heq : ∀ t x y b, eq t x y = some b → EQ P n t x y b) : ∀ {fl : List Field} {xs ys : Array Value} {b : Bool}, eqFs P eq fl xs ys = some b → EFs P n fl xs ys b := by
  intro fl
  induction fl with
  | nil => intro xs ys b h; cases h; exact efs_nil
  | cons f r ih =>
    intro xs ys b h
    simp only [eqFs] at h
    split at h
    · rename_i x y hn hx hy
      split at h
      · rename_i p q hp hq
        cases h
        exact efs_cons hn (partV_ok hx) (partV_ok hy) (heq _ _ _ _ hp) (Nat.ble_eq_true_of_le (Nat.le_refl n)) (ih hq)
      · cases h
    · cases h
theorem eqV_ok : ∀ (n : Nat) (t : TypeId) (x y : Value) (b : Bool), eqV P n t x y = some b → EQ P n t x y b := by
  intro n
  induction n with
  | zero => intro t x y b h; cases h
  | succ n ih =>
    intro t x y b h
    simp only [eqV] at h
    split at h
    · rename_i kk hu
      split at h
      · rename_i j a k' b' 
        split at h
        · rename_i hd
          have := of_decide_eq_true hd
          subst this
          cases h
          exact (eq_int hu).mono (by omega)
        · cases h
      · cases h
    · rename_i hu
      split at h
      · cases h; exact (eq_bool hu).mono (by omega)
      · cases h
    · rename_i hu
      split at h
      · cases h; exact (eq_str hu).mono (by omega)
      · cases h
    · rename_i fs hu
      split at h
      · rename_i xs ys hs
        exact eq_struct (fl := fs.toList) hu hs (eqFs_ok ih h)
      · cases h
    · cases h
theorem ask_unit {o : Oper} {p : Prop} {w : (Unit → HP) → HP} {v : Value} (hw : ∀ q h, w q h → p ∧ q () h) (y : p → YE P o ρ v) : EffOk P o β st ρ L (.ask Unit w (fun _ => .v v)) := fun q h hq => by
  obtain ⟨h1, h2⟩ := hw q h hq
  exact ⟨(), v, rfl, y h1, h2⟩
theorem isNil_ok {y : Operand} (h : isNilConst y = true) : (y = .const (.pointer none)) ∨ (y = .const (.map none)) ∨ ∃ n c, y = .const (.slice none n c) := by
  unfold isNilConst at h
  split at h
  · exact .inl rfl
  · exact .inr (.inl rfl)
  · exact .inr (.inr ⟨_, _, rfl⟩)
  · cases h
theorem oBin (k : Ok β st ρ L) {op : BinOp} {t u : TypeId} {x y : Operand} : EffOk P ⟨d, .binOp op t x y u, ty, ps, af, gd⟩ β st ρ L (eBin P st op t x y) := by
  unfold eBin
  split
  · rename_i kk a j b hx hy
    have vx := k.v hx
    have vy := k.v hy
    split
    · split
      · rename_i n
        have e : Value.int _ n = Value.int j b := vy
        cases e
        split
        · rename_i hd; exact ⟨_, rfl, y_shl vx vy (of_decide_eq_true hd)⟩
        · trivial
      · exact ask_unit (fun q h w => w) fun hb => y_shl vx vy hb
    · split
      · rename_i n
        have e : Value.int _ n = Value.int j b := vy
        cases e
        split
        · rename_i hd; exact ⟨_, rfl, y_shr vx vy (of_decide_eq_true hd)⟩
        · trivial
      · exact ask_unit (fun q h w => w) fun hb => y_shr vx vy hb
    · split
      · rename_i hk
        have := of_decide_eq_true hk
        subst this
        split
        · rename_i n
          have e : Value.int _ n = Value.int kk b := vy
          cases e
          split
          · rename_i hd; exact ⟨_, rfl, y_quo vx vy (of_decide_eq_false hd)⟩
          · trivial
        · exact ask_unit (fun q h w => w) fun hb => y_quo vx vy hb
      · trivial
    · split
      · rename_i hk
        have := of_decide_eq_true hk
        subst this
        split
        · rename_i n
          have e : Value.int _ n = Value.int kk b := vy
          cases e
          split
          · rename_i hd; exact ⟨_, rfl, y_rem vx vy (of_decide_eq_false hd)⟩
          · trivial
        · exact ask_unit (fun q h w => w) fun hb => y_rem vx vy hb
      · trivial
    · split
      · rename_i hk
        have := of_decide_eq_true hk
        subst this
        split
        · rename_i v hv; exact ⟨_, rfl, y_bin vx vy hv⟩
        · trivial
      · trivial
  · rename_i a b hx hy
    have vx := k.v hx
    have vy := k.v hy
    split
    · rintro q h ⟨z, hz, kz⟩
      exact ⟨z, _, rfl, y_cat vx vy hz, kz⟩
    · split
      · rename_i v hv; exact ⟨_, rfl, y_binS vx vy hv⟩
      · trivial
  · rename_i a b hx hy
    split
    · rename_i hu; exact ⟨_, rfl, y_eqB hu (k.v hx) (k.v hy)⟩
    · rename_i hu; exact ⟨_, rfl, y_neB hu (k.v hx) (k.v hy)⟩
    · trivial
  · rename_i p q hx hy
    have vy := k.v hy
    split
    · rename_i e hn hu
      rcases isNil_ok hn with rfl | rfl | ⟨_, _, rfl⟩ <;> first | (cases vy; done) | exact ⟨_, rfl, y_eqP hu (k.v hx) rfl⟩
    · rename_i e hn hu
      rcases isNil_ok hn with rfl | rfl | ⟨_, _, rfl⟩ <;> first | (cases vy; done) | exact ⟨_, rfl, y_neP hu (k.v hx) rfl⟩
    · trivial
  · rename_i p q hx hy
    have vy := k.v hy
    split
    · rename_i e hn hu
      rcases isNil_ok hn with rfl | rfl | ⟨_, _, rfl⟩ <;> first | (cases vy; done) | exact ⟨_, rfl, y_eqP hu (k.adr hx) rfl⟩
    · rename_i e hn hu
      rcases isNil_ok hn with rfl | rfl | ⟨_, _, rfl⟩ <;> first | (cases vy; done) | exact ⟨_, rfl, y_neP hu (k.adr hx) rfl⟩
    · trivial
  · rename_i p l c q l' c' hx hy
    have vy := k.v hy
    split
    · rename_i e hn hu
      rcases isNil_ok hn with rfl | rfl | ⟨n', c'', rfl⟩ <;> first | (cases vy; done) | exact ⟨_, rfl, y_eqSl hu (s := ⟨p, l, c⟩) (k.v hx) rfl⟩
    · rename_i e hn hu
      rcases isNil_ok hn with rfl | rfl | ⟨n', c'', rfl⟩ <;> first | (cases vy; done) | exact ⟨_, rfl, y_neSl hu (s := ⟨p, l, c⟩) (k.v hx) rfl⟩
    · trivial
  · rename_i p q hx hy
    have vy := k.v hy
    split
    · rename_i k1 e hn hu
      rcases isNil_ok hn with rfl | rfl | ⟨_, _, rfl⟩ <;> first | (cases vy; done) | exact ⟨_, rfl, y_eqM hu (k.v hx) rfl⟩
    · rename_i k1 e hn hu
      rcases isNil_ok hn with rfl | rfl | ⟨_, _, rfl⟩ <;> first | (cases vy; done) | exact ⟨_, rfl, y_neM hu (k.v hx) rfl⟩
    · trivial
  · rename_i xs ys hx hy
    split
    · rename_i b hq he; exact ⟨_, rfl, y_eqA hq (k.v hx) (k.v hy) (eqV_ok _ _ _ _ _ he) rfl⟩
    · rename_i b hq he; exact ⟨_, rfl, y_neA hq (k.v hx) (k.v hy) (eqV_ok _ _ _ _ _ he) rfl⟩
    · trivial
  · trivial
theorem oBuild (k : Ok β st ρ L) {t : TypeId} {l : Array (Nat × Operand)} : EffOk P ⟨d, .build t l, ty, ps, af, gd⟩ β st ρ L (eBuild P st t l.toList) := by
  unfold eBuild
  split
  · rename_i fs ti hu hi
    split
    · rename_i z pl vl hz hp hv
      split
      · rename_i cs hc
        exact ⟨_, rfl, y_build (fl := fs.toList) hu hi hz hp (partsOf_ok k hv) hc⟩
      · trivial
    · trivial
  · trivial
theorem oLit (k : Ok β st ρ L) {t : TypeId} {n : Nat} {l : Array (Nat × Operand)} : EffOk P ⟨d, .buildSlice t n l, ty, ps, af, gd⟩ β st ρ L (eLit P X st d t n l.toList) := by
  unfold eLit
  split
  · rename_i e hu
    split
    · rename_i ti hi
      split
      · rename_i z vl hz hv hn
        split
        · rename_i cs hc
          split
          · rename_i dd
            split
            · exact fun h next hh => b_lit (l := l.toList) hu hi hz hn (partsOf_ok k hv) hc hh
            · exact fun q h next hm hh => v_lit (l := l.toList) hm hu hi hz hn (partsOf_ok k hv) hc fun a h' ka => hh a _ h' ka (.inr rfl)
          · trivial
        · trivial
      · trivial
    · trivial
  · trivial
theorem oIdxAddr (k : Ok β st ρ L) {t : TypeId} {x j : Operand} : EffOk P ⟨d, .indexAddr t x j, ty, ps, af, gd⟩ β st ρ L (eIdxAddr P st t x j) := by
  unfold eIdxAddr
  split
  · rename_i e a l c kk i hu hx hj
    split
    · rename_i ti hi
      rintro q h ⟨z, hz, kz⟩
      exact ⟨z, _, rfl, y_idx hu hi (s := ⟨a, l, c⟩) (k.v hx) (k.v hj) hz, kz⟩
    · trivial
  · rename_i n e a kk i hu hx hj
    split
    · rename_i ti hi
      rintro q h ⟨z, hz, kz⟩
      exact ⟨z, _, rfl, y_idxA hu hi (k.adr hx) (k.v hj) hz, kz⟩
    · trivial
  · trivial
theorem oIdx (k : Ok β st ρ L) {t : TypeId} {x j : Operand} : EffOk P ⟨d, .index t x j, ty, ps, af, gd⟩ β st ρ L (eIdx P st t x j) := by
  unfold eIdx
  split
  · rename_i s kk i hu hx hj
    rintro q h ⟨z, hz, kz⟩
    exact ⟨z, _, rfl, y_idxS hu (k.v hx) (k.v hj) hz, kz⟩
  · trivial
theorem bnd_ok (k : Ok β st ρ L) {df n : Int} {o : Option Operand} (h : bnd? st df o = some n) : bnd ρ o df n := by
  cases o with
  | none => cases h; rfl
  | some x =>
    simp only [bnd?] at h
    split at h
    · rename_i kk m hx; cases h; exact ⟨_, k.v hx⟩
    · cases h
theorem oCut (k : Ok β st ρ L) {t : TypeId} {x : Operand} {l r : Option Operand} : EffOk P ⟨d, .slice t x l r none, ty, ps, af, gd⟩ β st ρ L (eCut P st t x l r) := by
  unfold eCut
  split
  · rename_i e a n c hu hx
    split
    · rename_i ti lo hi h1 h2 h3
      rintro q h ⟨z, hz, kz⟩
      exact ⟨z, _, rfl, y_cut hu h1 (s := ⟨a, n, c⟩) (k.v hx) (bnd_ok k h2) (bnd_ok k h3) hz, kz⟩
    · trivial
  · rename_i n e a hu hx
    split
    · rename_i ti lo hi h1 h2 h3
      rintro q h ⟨z, hz, kz⟩
      exact ⟨z, _, rfl, y_cutA hu h1 (k.adr hx) (bnd_ok k h2) (bnd_ok k h3) hz, kz⟩
    · trivial
  · rename_i s hu hx
    split
    · rename_i lo hi h2 h3
      rintro q h ⟨z, hz, kz⟩
      exact ⟨z, _, rfl, y_sub hu (k.v hx) (bnd_ok k h2) (bnd_ok k h3) hz, kz⟩
    · trivial
  · trivial
theorem oCut3 (k : Ok β st ρ L) {t : TypeId} {x r m : Operand} {l : Option Operand} : EffOk P ⟨d, .slice t x l (some r) (some m), ty, ps, af, gd⟩ β st ρ L (eCut3 P st t x l r m) := by
  unfold eCut3
  split
  · rename_i e a n c hu hx
    split
    · rename_i ti lo k1 hi k2 mx h1 h2 h3 h4
      rintro q h ⟨z, hz, kz⟩
      exact ⟨z, _, rfl, y_cut3 hu h1 (s := ⟨a, n, c⟩) (k.v hx) (bnd_ok k h2) (k.v h3) (k.v h4) hz, kz⟩
    · trivial
  · trivial
theorem oMakeSl (k : Ok β st ρ L) {t : TypeId} {x y : Operand} : EffOk P ⟨d, .makeSlice t x y, ty, ps, af, gd⟩ β st ρ L (eMakeSl P st t x y) := by
  unfold eMakeSl
  split
  · rename_i e k1 n k2 c hu hx hy
    split
    · rename_i ti hi
      split
      · rename_i z hz
        split
        · rename_i hs
          rw [Nat.beq_eq] at hs
          exact fun q h next hm hn => v_make hu hi hz hs (k.v hx) (k.v hy) hm fun s h' ks => hn s _ h' ks (.inr rfl)
        · trivial
      · trivial
    · trivial
  · trivial
theorem oFunc (k : Ok β st ρ L) {fn : Fn} {first cap : Array Operand} : EffOk P ⟨d, .makeFunc fn first cap, ty, ps, af, gd⟩ β st ρ L (eFunc st fn first.toList cap.toList) := by
  unfold eFunc
  split
  · rename_i f fl vl hf hv
    exact ⟨_, rfl, y_makeFunc (fl := first.toList) (l := cap.toList) (valsOf_ok k hf) (valsOf_ok k hv)⟩
  · trivial
/-! Maps. -/
theorem ckFields {n : Nat} {em : Bool} (ih : ∀ (t : TypeId) (x y : Value) (b : Bool), eqV P n t x y = some b → ∀ m, n ≤ m → QV P (Instr.checkKey em m t x) ()) {m : Nat} (hm : n ≤ m) {xs ys : Array Value} : ∀ (fs : List Field) (b : Bool), eqFs P (eqV P n) fs xs ys = some b → QV P (do
      for f in fs do
        if f.name ≠ "_" then Instr.checkKey em m f.type (← part f.type xs f.offset) : Sem Unit) () := by
  intro fs
  induction fs with
  | nil => intro b _; exact QV.pure _
  | cons f r ihr =>
    intro b h
    unfold eqFs at h
    split at h
    · rename_i x y hn hx hy
      split at h
      · rename_i p q hp hq
        have hne : f.name ≠ "_" := by intro z; rw [z] at hn; simp at hn
        have := ihr q hq
        simp only [List.forIn_cons, hne, ne_eq, not_false_eq_true, if_true, bind_assoc] at this ⊢
        refine QV.bind (partV_ok hx) (QV.bind (ih _ _ _ _ hp m hm) ?_)
        simpa using this
      · cases h
    · cases h
theorem ck_ok {em : Bool} : ∀ (n : Nat) (t : TypeId) (x y : Value) (b : Bool), eqV P n t x y = some b → ∀ m, n ≤ m → QV P (Instr.checkKey em m t x) () := by
  intro n
  induction n with
  | zero => intro t x y b h; cases h
  | succ n ih =>
    intro t x y b h m hm
    obtain ⟨m, rfl⟩ : ∃ q, m = q + 1 := ⟨m - 1, by omega⟩
    simp only [eqV] at h
    unfold Instr.checkKey
    split at h
    · rename_i kk hu
      split at h
      · exact QV.bind (QV.underlying hu) (QV.pure _)
      · cases h
    · rename_i hu
      split at h
      · exact QV.bind (QV.underlying hu) (QV.pure _)
      · cases h
    · rename_i hu
      split at h
      · exact QV.bind (QV.underlying hu) (QV.pure _)
      · cases h
    · rename_i fs hu
      split at h
      · rename_i xs ys hs
        refine QV.bind (QV.underlying hu) ?_
        have := ckFields (em := em) ih (m := m) (by omega) fs.toList b h
        simpa using this
      · cases h
    · cases h
def scal : TypeDesc → Bool
  | .int _ => true
  | .bool => true
  | .string => true
  | _ => false
theorem sameNow_ok {n : Nat} {kt : TypeId} {td : TypeDesc} (hu : P.underlying kt = some td) (hs : scal td = true) {x y : Value} {b : Bool} (h : eqV P (n + 1) kt x y = some b) : Instr.sameNow td x y = some b := by
  simp only [eqV, hu] at h
  cases td <;> simp only [scal, Bool.false_eq_true] at hs <;> simp only at h
  · split at h
    · cases h; rfl
    · cases h
  · split at h
    · rename_i j a k' b'
      split at h
      · rename_i hd
        have := of_decide_eq_true hd
        subst this
        cases h
        simp only [Instr.sameNow, if_true]
        rfl
      · cases h
    · cases h
  · split at h
    · cases h; rfl
    · cases h
theorem eqV_td {n : Nat} {kt : TypeId} {x y : Value} {b : Bool} (h : eqV P (n + 1) kt x y = some b) : ∃ td, P.underlying kt = some td ∧ (scal td = true ∨ ∃ fs, td = .struct fs) := by
  simp only [eqV] at h
  split at h
  · rename_i kk hu; exact ⟨_, hu, .inl rfl⟩
  · rename_i hu; exact ⟨_, hu, .inl rfl⟩
  · rename_i hu; exact ⟨_, hu, .inl rfl⟩
  · rename_i fs hu; exact ⟨_, hu, .inr ⟨fs, rfl⟩⟩
  · cases h
theorem findNow_scal {kt : TypeId} {td : TypeDesc} (hu : P.underlying kt = some td) (hs : scal td = true) {kv : Value} : ∀ (l : List MapEntry) (i : Nat), (∀ e ∈ l, ∃ b, eqV P 40 kt kv e.key = some b) → Instr.findNow td kv l i = some (findR (eqV P 40 kt) kv l i) := by
  intro l
  induction l with
  | nil => intro i _; rfl
  | cons e r ih =>
    intro i hall
    obtain ⟨b, hb⟩ := hall e (List.mem_cons_self ..)
    have hr := ih (i + 1) fun e' he => hall e' (List.mem_cons_of_mem _ he)
    simp only [Instr.findNow, sameNow_ok (n := 39) hu hs hb, findR, hb]
    cases b
    · exact hr
    · rfl
theorem findAsking_ok {kt : TypeId} {kv : Value} : ∀ (l : List MapEntry) (i : Nat), (∀ e ∈ l, ∃ b, eqV P 40 kt kv e.key = some b) → QV P (Instr.findAsking kt kv l i) (findR (eqV P 40 kt) kv l i) := by
  intro l
  induction l with
  | nil => intro i _; exact QV.pure _
  | cons e r ih =>
    intro i hall
    obtain ⟨b, hb⟩ := hall e (List.mem_cons_self ..)
    have hr := ih (i + 1) fun e' he => hall e' (List.mem_cons_of_mem _ he)
    unfold Instr.findAsking
    simp only [findR, hb]
    refine QV.bind (eqV_ok 40 kt kv e.key b hb Op.maxDepth (by unfold Op.maxDepth; decide)) ?_
    cases b
    · exact hr
    · exact QV.pure _
theorem findKey_ok {kt : TypeId} {kv : Value} {es : Array MapEntry} {b0 : Bool} (h0 : eqV P 40 kt kv kv = some b0) (hall : Keys (eqV P 40 kt) kv es) : QV P (Instr.findKey kt kv es.toList) (findR (eqV P 40 kt) kv es.toList 0) := by
  obtain ⟨td, hu, hor⟩ := eqV_td (n := 39) h0
  unfold Instr.findKey
  refine QV.bind (QV.underlying hu) ?_
  unfold Keys at hall
  rcases hor with hs | ⟨fs, rfl⟩
  · rw [findNow_scal hu hs _ _ hall]
    exact QV.pure _
  · generalize es.toList = l at hall ⊢
    cases l with
    | nil => exact QV.pure _
    | cons e r =>
      have : Instr.findNow (.struct fs) kv (e :: r) 0 = none := rfl
      rw [this]
      exact findAsking_ok _ _ hall
theorem keyOk_spec {kt : TypeId} {kv : Value} (h : keyOk P kt kv = true) : (∃ b, eqV P 40 kt kv kv = some b) ∧ flatV kv = true := by
  unfold keyOk at h
  split at h
  · rename_i b hb; exact ⟨⟨b, hb⟩, h⟩
  · cases h
theorem bytes_self (s : ByteArray) : (s == s) = true := by cases s; exact beq_self_eq_true (α := Array UInt8) _
theorem flatC_bits {n : Nat} {v : Value} (h : flatC v = true) : Instr.sameBits n v v = true := by
  unfold flatC at h
  split at h
  · cases n <;> simp [Instr.sameBits]
  · cases n <;> exact bytes_self _
  · cases n <;> simp [Instr.sameBits]
  · cases h
theorem flat_bits {v : Value} (h : flatV v = true) : Instr.sameBits 10000 v v = true := by
  unfold flatV at h
  split at h
  · rename_i cs
    show (cs.size == cs.size && (cs.toList.zip cs.toList).all fun (x, y) => Instr.sameBits 9999 x y) = true
    rw [beq_self_eq_true, Bool.true_and, List.all_eq_true]
    rintro ⟨x, y⟩ hm
    obtain ⟨i, hi, e⟩ := List.getElem_of_mem hm
    rw [List.getElem_zip] at e
    cases e
    exact flatC_bits (List.all_eq_true.1 h _ (List.getElem_mem _))
  · exact flatC_bits h
theorem oLookup (k : Ok β st ρ L) {t : TypeId} {x key : Operand} {ok : Bool} : EffOk P ⟨d, .lookup t x key ok, ty, ps, af, gd⟩ β st ρ L (eLookup P X st t x key ok) := by
  unfold eLookup
  split
  · rename_i kt et m kv hu hx hk
    split
    · rename_i ti τ hko hi hτ
      obtain ⟨⟨b, hb⟩, hfl⟩ := keyOk_spec hko
      split
      · rename_i z hz
        split
        · rename_i z0 hz0
          have hzz : z = τ.val z0 := (τ.law _ _ hz0).symm
          have hq : QV P (zeroValue et) (τ.val z0) := hzz ▸ QV.zero hi hz
          split
          · exact fun q h next hm hn => v_lookup hu (k.v hx) (valOf_ok k hk) (fun es => findKey_ok hb) (fun em => ck_ok 40 _ _ _ _ hb _ (by decide)) hq hm fun r kr => hn r _ _ kr (.inr rfl)
          · exact fun q h next hm hn => v_lookup hu (k.v hx) (valOf_ok k hk) (fun es => findKey_ok hb) (fun em => ck_ok 40 _ _ _ _ hb _ (by decide)) hq hm fun r kr => hn r _ _ kr (.inr (τ.svl r.1))
        · trivial
      · trivial
    · trivial
  · trivial
theorem oMapSet (k : Ok β st ρ L) {t : TypeId} {x key val : Operand} : EffOk P ⟨d, .mapUpdate t x key val, ty, ps, af, gd⟩ β st ρ L (eMapSet P st t x key val) := by
  unfold eMapSet
  split
  · rename_i kt et m kv w hu hx hk hw
    split
    · rename_i hko
      obtain ⟨⟨b, hb⟩, hfl⟩ := keyOk_spec hko
      exact fun q h next hm hn => v_mapSet hu (k.v hx) (valOf_ok k hk) (valOf_ok k hw) (fun es => findKey_ok hb) (fun em => ck_ok 40 _ _ _ _ hb _ (by decide)) (flat_bits hfl) hm fun h' kk => hn () _ h' kk (.inl rfl)
    · trivial
  · trivial
theorem oRange (k : Ok β st ρ L) {t : TypeId} {x : Operand} : EffOk P ⟨d, .range t x, ty, ps, af, gd⟩ β st ρ L (eRange P st t x) := by
  unfold eRange
  split
  · rename_i kt et m hu hx
    exact fun q h next hm hn => v_range hu (k.v hx) hm fun a h' kk => hn a _ h' kk (.inr rfl)
  · trivial
theorem oNext (k : Ok β st ρ L) {x : Operand} : EffOk P ⟨d, .next x false, ty, ps, af, gd⟩ β st ρ L (eNext st x) := by
  unfold eNext
  split
  · rename_i a hx
    exact fun q h next hm hn => v_next (k.adr hx) hm fun r h' kk => hn r _ h' kk (.inr rfl)
  · trivial
theorem oEntry (k : Ok β st ρ L) {x : Operand} : EffOk P ⟨d, .entry x, ty, ps, af, gd⟩ β st ρ L (eEntry P X st d x) := by
  unfold eEntry
  split
  · rename_i d' a hx
    split
    · split
      · exact fun q h next hm hn => v_entry (k.adr hx) hm fun r kk => hn r _ _ kk (.inr rfl)
      · trivial
    · trivial
  · trivial
theorem oBuiltin (k : Ok β st ρ L) {b : Builtin} {args : Array Operand} {ts : Array TypeId} : EffOk P ⟨d, .call ⟨.builtin b, args, ts⟩, ty, ps, af, gd⟩ β st ρ L (eBuiltin P st b args.toList ts.toList) := by
  obtain ⟨al⟩ := args
  obtain ⟨tl⟩ := ts
  show EffOk P _ β st ρ L (eBuiltin P st b al tl)
  unfold eBuiltin
  split
  · rename_i x t
    split
    · rename_i s hu hx; exact ⟨_, rfl, y_lenS (k.v hx) rfl hu⟩
    · rename_i e a l c hu hx; exact ⟨_, rfl, y_len (s := ⟨a, l, c⟩) (k.v hx) rfl hu⟩
    · rename_i kt et m hu hx; exact fun q h next hm hn => v_mapLen hu (k.v hx) hm fun n kk => hn n _ _ kk (.inr rfl)
    · trivial
  · rename_i x t
    split
    · rename_i e a l c hu hx
      split
      · rename_i ti hi
        split
        · rename_i z hz
          split
          · rename_i hp
            exact fun q h next hm hn => v_clear hu hi hz hp (s := ⟨a, l, c⟩) (k.v hx) hm fun h' kk => hn () _ h' kk (.inl rfl)
          · trivial
        · trivial
      · trivial
    · trivial
  · rename_i x y t t'
    split
    · rename_i kt et m kv hu hx hk
      split
      · rename_i hko
        obtain ⟨⟨b, hb⟩, hfl⟩ := keyOk_spec hko
        exact fun q h next hm hn => v_mapDel hu (k.v hx) (valOf_ok k hk) (fun es => findKey_ok hb) (fun em => ck_ok 40 _ _ _ _ hb _ (by decide)) hm fun h' kk => hn () _ h' kk (.inl rfl)
      · trivial
    · trivial
  · rename_i x y
    split
    · rename_i kk a j b hx hy
      split
      · rename_i hk
        have := of_decide_eq_true hk
        subst this
        exact ⟨_, rfl, y_min (k.v hx) (k.v hy)⟩
      · trivial
    · trivial
  · rename_i x y
    split
    · rename_i kk a j b hx hy
      split
      · rename_i hk
        have := of_decide_eq_true hk
        subst this
        exact ⟨_, rfl, y_max (k.v hx) (k.v hy)⟩
      · trivial
    · trivial
  · rename_i x y t t'
    split
    · rename_i e e2 a l c hu hu' hx
      split
      · rename_i ti hi
        split
        · rename_i z hz hby
          split
          · rename_i i n hy
            split
            · rename_i bb hb
              split
              · rename_i new hg
                split
                · rename_i hpl
                  obtain ⟨cs, hc, kn⟩ := k.at hb
                  exact fun q h next hm hn => v_push hu hu' hi hz hby (s := ⟨a, l, c⟩) (k.v hx) (k.lit hy hb) hc (grabO_grab kn hg) hpl hm fun s h' ks => hn s _ h' ks (.inr rfl)
                · trivial
              · trivial
            · trivial
          · rename_i a' l' c' hy
            exact fun q h next hm hn => v_append hu hu' hi hz hby (s := ⟨a, l, c⟩) (x' := ⟨a', l', c'⟩) (k.v hx) (k.v hy) hm fun s h' ks => hn s _ h' ks (.inr rfl)
          · trivial
        · trivial
      · trivial
    · trivial
  · trivial
theorem outV_is (l : List Value) : (SV.v (outV l)).is (outV l) := rfl
theorem oCall (k : Ok β st ρ L) {c : Call} : EffOk P ⟨d, .call c, ty, ps, af, gd⟩ β st ρ L (eCall P X st ⟨d, .call c, ty, ps, af, gd⟩ c) := by
  obtain ⟨cal, args, ts⟩ := c
  unfold eCall
  simp only
  split
  · exact oBuiltin k
  · rename_i f hc
    split
    · rename_i s hs
      have hf := spec_some hs
      subst hf
      obtain ⟨fn, cal⟩ := s.callee
      split
      · rename_i a ha
        have hv := decs_ok k ha
        split
        · rintro q h ⟨r, hr, kr⟩
          exact ⟨r, _, rfl, y_call (enc := fun r => outV (valsD s.R r)) hr (fun kk h hh => s.ok a kk h hh) cal hv, kr⟩
        · exact fun q h next hm hn => v_call (s.ok a q h hm) cal hv fun v h' ⟨r, e, kr⟩ => by subst e; exact hn r _ h' kr (.inr rfl)
      · trivial
    · trivial
  · rename_i x hc
    split
    · rename_i fv vl R h1 h2 h3
      exact fun q h next hm hn => v_callV (valOf_ok k h1) (valsOf_ok k h2) hm fun r h' kr => hn r _ h' kr (.inr rfl)
    · trivial
  · trivial
theorem effOf_ok (k : Ok β st ρ L) (o : Oper) : EffOk P o β st ρ L (effOf P X st o) := by
  obtain ⟨d, op, ty, ps, af, gd⟩ := o
  unfold effOf
  split <;> try (rename_i e; cases e)
  · exact mv_ok k (y_move rfl)
  · exact mv_ok k (y_assign rfl)
  · exact oPick k
  · exact oLoad k
  · exact oStore k
  · exact oAlloc
  · exact oBox k
  · exact oNil k
  · exact oFieldAddr k
  · exact oField k
  · exact oExtract k
  · exact oUn k
  · exact oBin k
  · exact oConv k
  · exact oBuild k
  · exact oLit k
  · exact oIdxAddr k
  · exact oIdx k
  · exact oCut k
  · exact oCut3 k
  · exact oMakeSl k
  · exact fun q h next hm hn => v_makeMap hm fun r h' kk => hn r _ h' kk (.inr rfl)
  · exact oLookup k
  · exact oMapSet k
  · exact oRange k
  · exact oNext k
  · exact oEntry k
  · exact oFunc k
  · exact oCall k
  · trivial
end oks
end Go.Proofs.Ytlnlmideghepnaa.K
