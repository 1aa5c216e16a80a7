/- What the effects of operations say is what the model's operations do: the rest. -/
import Derived.Test.YtnmaknkbdfpbkaaQ2
namespace Go.Proofs.Ytnmaknkbdfpbkaa.K
open Go

section oks
variable {P : Program} {X : Cx P} {β : Nat → Nat} {st : St} {ρ : Env} {L : H}
variable {d : Option Tmp} {ty : TypeId} {ps : String} {af : Array Edge} {gd : Option (Nat × Bool)}
theorem oFieldAddr (k : Ok β st ρ L) {t : TypeId} {x : Operand} {i : Nat} : EffOk P ⟨d, .fieldAddr t x i, ty, ps, af, gd⟩ β st ρ L (eFieldAddr P st t x i) := by
  unfold eFieldAddr
  split
  · rename_i fs hu
    split
    · rename_i f hf
      rw [Array.getElem?_toList] at hf
      split
      · rename_i ti hi
        split
        · rename_i hs
          split
          · rename_i a hx
            exact ⟨_, rfl, y_fieldAddr (k.adr hx) hu hf hi hs⟩
          · rename_i j off hx
            split
            · rename_i e he
              have := y_fieldAddr (P := P) (d := d) (ty := ty) (ps := ps) (af := af) (gd := gd) (k.box hx he) hu hf hi hs
              rw [addr_add] at this
              exact ⟨_, fun _ => rfl, this⟩
            · trivial
          · trivial
        · trivial
      · trivial
    · trivial
  · trivial
theorem extract_list (cs : Array Value) (o n : Nat) : cs.extract o (o + n) = ((cs.toList.drop o).take n).toArray := by
  apply Array.toList_inj.1
  rw [Array.toList_extract]
  unfold List.extract
  rw [Nat.add_sub_cancel_left]
theorem oField (k : Ok β st ρ L) {t : TypeId} {x : Operand} {i : Nat} : EffOk P ⟨d, .field t x i, ty, ps, af, gd⟩ β st ρ L (eField P st t x i) := by
  unfold eField
  split
  · rename_i fs cs hu hx
    split
    · rename_i f hf
      rw [Array.getElem?_toList] at hf
      split
      · rename_i td ti ht hi
        split
        · rename_i ha
          refine ⟨_, rfl, y_fieldA (k.v hx) hu hf ht ha hi ?_⟩
          rw [extract_list]
        · rename_i ha
          split
          · rename_i v hv
            rw [Array.getElem?_toList] at hv
            exact ⟨_, rfl, y_field (k.v hx) hu hf ht ha hv⟩
          · trivial
      · trivial
    · trivial
  · trivial
theorem oExtract (k : Ok β st ρ L) {x : Operand} {i : Nat} : EffOk P ⟨d, .extract x i, ty, ps, af, gd⟩ β st ρ L (eExtract st x i) := by
  unfold eExtract
  split
  · rename_i vs hx
    split
    · rename_i v hv
      rw [Array.getElem?_toList] at hv
      exact ⟨_, rfl, y_extract (k.v hx) hv⟩
    · trivial
  · trivial
theorem oUn (k : Ok β st ρ L) {op : UnOp} {t : TypeId} {x : Operand} : EffOk P ⟨d, .unOp op t x, ty, ps, af, gd⟩ β st ρ L (eUn st op x) := by
  unfold eUn
  split
  · rename_i b hx; exact ⟨_, rfl, y_not (k.v hx)⟩
  · rename_i kk a hx; exact ⟨_, rfl, y_neg (k.v hx)⟩
  · rename_i kk a hx; exact ⟨_, rfl, y_xor1 (k.v hx)⟩
  · trivial
theorem oConv (k : Ok β st ρ L) {s t : TypeId} {x : Operand} : EffOk P ⟨d, .convert s t x, ty, ps, af, gd⟩ β st ρ L (eConv P st s t x) := by
  unfold eConv
  split
  · rename_i sd kk kj a h1 h2 hx; exact ⟨_, rfl, y_conv (k.v hx) h1 h2⟩
  · rename_i e a l c h1 h2 hx
    split
    · rename_i h3
      exact fun q h next hm hn => v_text h1 h2 h3 (s := ⟨a, l, c⟩) (k.v hx) hm fun t kt => hn t _ _ kt (.inr rfl)
    · trivial
  · rename_i e b h1 h2 hx
    split
    · rename_i h3
      exact fun q h next hm hn => v_bytes h1 h2 h3 (k.v hx) hm fun t h' kt => hn t _ _ kt (.inr rfl)
    · trivial
  · trivial
theorem EQ.mono {n m : Nat} {t : TypeId} {x y : Value} {b : Bool} (h : EQ P n t x y b) (hle : n ≤ m) : EQ P m t x y b := fun k hk => h k (Nat.le_trans hle hk)
theorem partV_ok {f : Field} {cs : Array Value} {v : Value} (h : partV P f cs = some v) : PartOk P f cs v := by
  unfold partV at h
  split at h
  · rename_i td ti h1 h2
    split at h
    · rename_i ha; cases h; exact part_agg h1 ha h2 rfl
    · rename_i ha; rw [Array.getElem?_toList] at h; exact part_one h1 ha h
  · cases h
theorem eqFs_ok {n : Nat} {eq : TypeId → Value → Value → Option Bool} (heq : ∀ t x y b, eq t x y = some b → EQ P n t x y b) : ∀ {fl : List Field} {xs ys : Array Value} {b : Bool}, eqFs P eq fl xs ys = some b → EFs P n fl xs ys b := by
  intro fl
  induction fl with
  | nil => intro xs ys b h; cases h; exact efs_nil
  | cons f r ih =>
    intro xs ys b h
    simp only [eqFs] at h
    split at h
    · rename_i x y hn hx hy
      split at h
      · rename_i p q hp hq
        cases h
        exact efs_cons hn (partV_ok hx) (partV_ok hy) (heq _ _ _ _ hp) (Nat.ble_eq_true_of_le (Nat.le_refl n)) (ih hq)
      · cases h
    · cases h
theorem eqV_ok : ∀ (n : Nat) (t : TypeId) (x y : Value) (b : Bool), eqV P n t x y = some b → EQ P n t x y b := by
  intro n
  induction n with
  | zero => intro t x y b h; cases h
  | succ n ih =>
    intro t x y b h
    simp only [eqV] at h
    split at h
    · rename_i kk hu
      split at h
      · rename_i j a k' b' 
        split at h
        · rename_i hd
          have := of_decide_eq_true hd
          subst this
          cases h
          exact (eq_int hu).mono (by omega)
        · cases h
      · cases h
    · rename_i hu
      split at h
      · cases h; exact (eq_bool hu).mono (by omega)
      · cases h
    · rename_i hu
      split at h
      · cases h; exact (eq_str hu).mono (by omega)
      · cases h
    · rename_i fs hu
      split at h
      · rename_i xs ys hs
        exact eq_struct (fl := fs.toList) hu hs (eqFs_ok ih h)
      · cases h
    · cases h
theorem ask_unit {o : Oper} {p : Prop} {w : (Unit → HP) → HP} {v : Value} (hw : ∀ q h, w q h → p ∧ q () h) (y : p → YE P o ρ v) : EffOk P o β st ρ L (.ask Unit w (fun _ => .v v)) := fun q h hq => by
  obtain ⟨h1, h2⟩ := hw q h hq
  exact ⟨(), v, rfl, y h1, h2⟩
theorem isNil_ok {y : Operand} (h : isNilConst y = true) : (y = .const (.pointer none)) ∨ (y = .const (.map none)) ∨ ∃ n c, y = .const (.slice none n c) := by
  unfold isNilConst at h
  split at h
  · exact .inl rfl
  · exact .inr (.inl rfl)
  · exact .inr (.inr ⟨_, _, rfl⟩)
  · cases h
theorem oBin (k : Ok β st ρ L) {op : BinOp} {t u : TypeId} {x y : Operand} : EffOk P ⟨d, .binOp op t x y u, ty, ps, af, gd⟩ β st ρ L (eBin P st op t x y) := by
  unfold eBin
  split
  · rename_i kk a j b hx hy
    have vx := k.v hx
    have vy := k.v hy
    split
    · split
      · rename_i n
        have e : Value.int _ n = Value.int j b := vy
        cases e
        split
        · rename_i hd; exact ⟨_, rfl, y_shl vx vy (of_decide_eq_true hd)⟩
        · trivial
      · exact ask_unit (fun q h w => w) fun hb => y_shl vx vy hb
    · split
      · rename_i n
        have e : Value.int _ n = Value.int j b := vy
        cases e
        split
        · rename_i hd; exact ⟨_, rfl, y_shr vx vy (of_decide_eq_true hd)⟩
        · trivial
      · exact ask_unit (fun q h w => w) fun hb => y_shr vx vy hb
    · split
      · rename_i hk
        have := of_decide_eq_true hk
        subst this
        split
        · rename_i n
          have e : Value.int _ n = Value.int kk b := vy
          cases e
          split
          · rename_i hd; exact ⟨_, rfl, y_quo vx vy (of_decide_eq_false hd)⟩
          · trivial
        · exact ask_unit (fun q h w => w) fun hb => y_quo vx vy hb
      · trivial
    · split
      · rename_i hk
        have := of_decide_eq_true hk
        subst this
        split
        · rename_i n
          have e : Value.int _ n = Value.int kk b := vy
          cases e
          split
          · rename_i hd; exact ⟨_, rfl, y_rem vx vy (of_decide_eq_false hd)⟩
          · trivial
        · exact ask_unit (fun q h w => w) fun hb => y_rem vx vy hb
      · trivial
    · split
      · rename_i hk
        have := of_decide_eq_true hk
        subst this
        split
        · rename_i v hv; exact ⟨_, rfl, y_bin vx vy hv⟩
        · trivial
      · trivial
  · rename_i a b hx hy
    have vx := k.v hx
    have vy := k.v hy
    split
    · rintro q h ⟨z, hz, kz⟩
      exact ⟨z, _, rfl, y_cat vx vy hz, kz⟩
    · split
      · rename_i v hv; exact ⟨_, rfl, y_binS vx vy hv⟩
      · trivial
  · rename_i a b hx hy
    split
    · rename_i hu; exact ⟨_, rfl, y_eqB hu (k.v hx) (k.v hy)⟩
    · rename_i hu; exact ⟨_, rfl, y_neB hu (k.v hx) (k.v hy)⟩
    · trivial
  · rename_i p q hx hy
    have vy := k.v hy
    split
    · rename_i e hn hu
      rcases isNil_ok hn with rfl | rfl | ⟨_, _, rfl⟩ <;> first | (cases vy; done) | exact ⟨_, rfl, y_eqP hu (k.v hx) rfl⟩
    · rename_i e hn hu
      rcases isNil_ok hn with rfl | rfl | ⟨_, _, rfl⟩ <;> first | (cases vy; done) | exact ⟨_, rfl, y_neP hu (k.v hx) rfl⟩
    · trivial
  · rename_i p q hx hy
    have vy := k.v hy
    split
    · rename_i e hn hu
      rcases isNil_ok hn with rfl | rfl | ⟨_, _, rfl⟩ <;> first | (cases vy; done) | exact ⟨_, rfl, y_eqP hu (k.adr hx) rfl⟩
    · rename_i e hn hu
      rcases isNil_ok hn with rfl | rfl | ⟨_, _, rfl⟩ <;> first | (cases vy; done) | exact ⟨_, rfl, y_neP hu (k.adr hx) rfl⟩
    · trivial
  · rename_i p l c q l' c' hx hy
    have vy := k.v hy
    split
    · rename_i e hn hu
      rcases isNil_ok hn with rfl | rfl | ⟨n', c'', rfl⟩ <;> first | (cases vy; done) | exact ⟨_, rfl, y_eqSl hu (s := ⟨p, l, c⟩) (k.v hx) rfl⟩
    · rename_i e hn hu
      rcases isNil_ok hn with rfl | rfl | ⟨n', c'', rfl⟩ <;> first | (cases vy; done) | exact ⟨_, rfl, y_neSl hu (s := ⟨p, l, c⟩) (k.v hx) rfl⟩
    · trivial
  · rename_i p q hx hy
    have vy := k.v hy
    split
    · rename_i k1 e hn hu
      rcases isNil_ok hn with rfl | rfl | ⟨_, _, rfl⟩ <;> first | (cases vy; done) | exact ⟨_, rfl, y_eqM hu (k.v hx) rfl⟩
    · rename_i k1 e hn hu
      rcases isNil_ok hn with rfl | rfl | ⟨_, _, rfl⟩ <;> first | (cases vy; done) | exact ⟨_, rfl, y_neM hu (k.v hx) rfl⟩
    · trivial
  · rename_i xs ys hx hy
    split
    · rename_i b hq he; exact ⟨_, rfl, y_eqA hq (k.v hx) (k.v hy) (eqV_ok _ _ _ _ _ he) rfl⟩
    · rename_i b hq he; exact ⟨_, rfl, y_neA hq (k.v hx) (k.v hy) (eqV_ok _ _ _ _ _ he) rfl⟩
    · trivial
  · trivial
theorem oBuild (k : Ok β st ρ L) {t : TypeId} {l : Array (Nat × Operand)} : EffOk P ⟨d, .build t l, ty, ps, af, gd⟩ β st ρ L (eBuild P st t l.toList) := by
  unfold eBuild
  split
  · rename_i fs ti hu hi
    split
    · rename_i z pl vl hz hp hv
      split
      · rename_i cs hc
        exact ⟨_, rfl, y_build (fl := fs.toList) hu hi hz hp (partsOf_ok k hv) hc⟩
      · trivial
    · trivial
  · trivial
theorem oLit (k : Ok β st ρ L) {t : TypeId} {n : Nat} {l : Array (Nat × Operand)} : EffOk P ⟨d, .buildSlice t n l, ty, ps, af, gd⟩ β st ρ L (eLit P X st d t n l.toList) := by
  unfold eLit
  split
  · rename_i e hu
    split
    · rename_i ti hi
      split
      · rename_i z vl hz hv hn
        split
        · rename_i cs hc
          split
          · rename_i dd
            split
            · exact fun h next hh => b_lit (l := l.toList) hu hi hz hn (partsOf_ok k hv) hc hh
            · exact fun q h next hm hh => v_lit (l := l.toList) hm hu hi hz hn (partsOf_ok k hv) hc fun a h' ka => hh a _ h' ka (.inr rfl)
          · trivial
        · trivial
      · trivial
    · trivial
  · trivial
theorem oIdxAddr (k : Ok β st ρ L) {t : TypeId} {x j : Operand} : EffOk P ⟨d, .indexAddr t x j, ty, ps, af, gd⟩ β st ρ L (eIdxAddr P st t x j) := by
  unfold eIdxAddr
  split
  · rename_i e a l c kk i hu hx hj
    split
    · rename_i ti hi
      rintro q h ⟨z, hz, kz⟩
      exact ⟨z, _, rfl, y_idx hu hi (s := ⟨a, l, c⟩) (k.v hx) (k.v hj) hz, kz⟩
    · trivial
  · trivial
theorem oIdx (k : Ok β st ρ L) {t : TypeId} {x j : Operand} : EffOk P ⟨d, .index t x j, ty, ps, af, gd⟩ β st ρ L (eIdx P st t x j) := by
  unfold eIdx
  split
  · rename_i s kk i hu hx hj
    rintro q h ⟨z, hz, kz⟩
    exact ⟨z, _, rfl, y_idxS hu (k.v hx) (k.v hj) hz, kz⟩
  · trivial
theorem bnd_ok (k : Ok β st ρ L) {df n : Int} {o : Option Operand} (h : bnd? st df o = some n) : bnd ρ o df n := by
  cases o with
  | none => cases h; rfl
  | some x =>
    simp only [bnd?] at h
    split at h
    · rename_i kk m hx; cases h; exact ⟨_, k.v hx⟩
    · cases h
theorem oCut (k : Ok β st ρ L) {t : TypeId} {x : Operand} {l r : Option Operand} : EffOk P ⟨d, .slice t x l r none, ty, ps, af, gd⟩ β st ρ L (eCut P st t x l r) := by
  unfold eCut
  split
  · rename_i e a n c hu hx
    split
    · rename_i ti lo hi h1 h2 h3
      rintro q h ⟨z, hz, kz⟩
      exact ⟨z, _, rfl, y_cut hu h1 (s := ⟨a, n, c⟩) (k.v hx) (bnd_ok k h2) (bnd_ok k h3) hz, kz⟩
    · trivial
  · rename_i s hu hx
    split
    · rename_i lo hi h2 h3
      rintro q h ⟨z, hz, kz⟩
      exact ⟨z, _, rfl, y_sub hu (k.v hx) (bnd_ok k h2) (bnd_ok k h3) hz, kz⟩
    · trivial
  · trivial
theorem oMakeSl (k : Ok β st ρ L) {t : TypeId} {x y : Operand} : EffOk P ⟨d, .makeSlice t x y, ty, ps, af, gd⟩ β st ρ L (eMakeSl P st t x y) := by
  unfold eMakeSl
  split
  · rename_i e k1 n k2 c hu hx hy
    split
    · rename_i ti hi
      split
      · rename_i z hz
        split
        · rename_i hs
          rw [Nat.beq_eq] at hs
          exact fun q h next hm hn => v_make hu hi hz hs (k.v hx) (k.v hy) hm fun s h' ks => hn s _ h' ks (.inr rfl)
        · trivial
      · trivial
    · trivial
  · trivial
theorem oFunc (k : Ok β st ρ L) {fn : Fn} {first cap : Array Operand} : EffOk P ⟨d, .makeFunc fn first cap, ty, ps, af, gd⟩ β st ρ L (eFunc st fn first.toList cap.toList) := by
  unfold eFunc
  split
  · rename_i f vl hf hv
    have : first = #[] := Array.toList_inj.1 hf
    subst this
    exact ⟨_, rfl, y_makeFunc (l := cap.toList) (valsOf_ok k hv)⟩
  · trivial
theorem oBuiltin (k : Ok β st ρ L) {b : Builtin} {args : Array Operand} {ts : Array TypeId} : EffOk P ⟨d, .call ⟨.builtin b, args, ts⟩, ty, ps, af, gd⟩ β st ρ L (eBuiltin P st b args.toList ts.toList) := by
  obtain ⟨al⟩ := args
  obtain ⟨tl⟩ := ts
  show EffOk P _ β st ρ L (eBuiltin P st b al tl)
  unfold eBuiltin
  split
  · rename_i x t
    split
    · rename_i s hu hx; exact ⟨_, rfl, y_lenS (k.v hx) rfl hu⟩
    · rename_i e a l c hu hx; exact ⟨_, rfl, y_len (s := ⟨a, l, c⟩) (k.v hx) rfl hu⟩
    · trivial
  · rename_i x y
    split
    · rename_i kk a j b hx hy
      split
      · rename_i hk
        have := of_decide_eq_true hk
        subst this
        exact ⟨_, rfl, y_min (k.v hx) (k.v hy)⟩
      · trivial
    · trivial
  · rename_i x y
    split
    · rename_i kk a j b hx hy
      split
      · rename_i hk
        have := of_decide_eq_true hk
        subst this
        exact ⟨_, rfl, y_max (k.v hx) (k.v hy)⟩
      · trivial
    · trivial
  · rename_i x y t t'
    split
    · rename_i e e2 a l c hu hu' hx
      split
      · rename_i ti hi
        split
        · rename_i z hz hby
          split
          · rename_i i n hy
            split
            · rename_i bb hb
              split
              · rename_i new hg
                split
                · rename_i hpl
                  obtain ⟨cs, hc, kn⟩ := k.at hb
                  exact fun q h next hm hn => v_push hu hu' hi hz hby (s := ⟨a, l, c⟩) (k.v hx) (k.lit hy hb) hc (grabO_grab kn hg) hpl hm fun s h' ks => hn s _ h' ks (.inr rfl)
                · trivial
              · trivial
            · trivial
          · rename_i a' l' c' hy
            exact fun q h next hm hn => v_append hu hu' hi hz hby (s := ⟨a, l, c⟩) (x' := ⟨a', l', c'⟩) (k.v hx) (k.v hy) hm fun s h' ks => hn s _ h' ks (.inr rfl)
          · trivial
        · trivial
      · trivial
    · trivial
  · trivial
theorem outV_is (l : List Value) : (SV.v (outV l)).is (outV l) := rfl
theorem oCall (k : Ok β st ρ L) {c : Call} : EffOk P ⟨d, .call c, ty, ps, af, gd⟩ β st ρ L (eCall P X st ⟨d, .call c, ty, ps, af, gd⟩ c) := by
  obtain ⟨cal, args, ts⟩ := c
  unfold eCall
  simp only
  split
  · exact oBuiltin k
  · rename_i f hc
    split
    · rename_i s hs
      have hf := spec_some hs
      subst hf
      obtain ⟨fn, cal⟩ := s.callee
      split
      · rename_i a ha
        have hv := decs_ok k ha
        split
        · rintro q h ⟨r, hr, kr⟩
          exact ⟨r, _, rfl, y_call (enc := fun r => outV (valsD s.R r)) hr (fun kk h hh => s.ok a kk h hh) cal hv, kr⟩
        · exact fun q h next hm hn => v_call (s.ok a q h hm) cal hv fun v h' ⟨r, e, kr⟩ => by subst e; exact hn r _ h' kr (.inr rfl)
      · trivial
    · trivial
  · rename_i x hc
    split
    · rename_i fv vl R h1 h2 h3
      exact fun q h next hm hn => v_callV (valOf_ok k h1) (valsOf_ok k h2) hm fun r h' kr => hn r _ h' kr (.inr rfl)
    · trivial
  · trivial
theorem effOf_ok (k : Ok β st ρ L) (o : Oper) : EffOk P o β st ρ L (effOf P X st o) := by
  obtain ⟨d, op, ty, ps, af, gd⟩ := o
  unfold effOf
  split <;> try (rename_i e; cases e)
  · exact mv_ok k (y_move rfl)
  · exact mv_ok k (y_assign rfl)
  · exact oPick k
  · exact oLoad k
  · exact oStore k
  · exact oAlloc
  · exact oBox k
  · exact oNil k
  · exact oFieldAddr k
  · exact oField k
  · exact oExtract k
  · exact oUn k
  · exact oBin k
  · exact oConv k
  · exact oBuild k
  · exact oLit k
  · exact oIdxAddr k
  · exact oIdx k
  · exact oCut k
  · exact oMakeSl k
  · exact oFunc k
  · exact oCall k
  · trivial
end oks
end Go.Proofs.Ytnmaknkbdfpbkaa.K
