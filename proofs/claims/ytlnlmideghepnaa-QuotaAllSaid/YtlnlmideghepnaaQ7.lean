/- Functions as specifications; structs as types. -/
import Derived.Test.YtlnlmideghepnaaQ6
namespace Go.Proofs.Ytlnlmideghepnaa.K
open Go

theorem decs_v : ∀ {A : List Ty} {l : List Value} {a : Den A}, decs A (l.map SV.v) = some a → l = valsD A a := by
  have one : ∀ {τ : Ty} {v : Value} {a : τ.T}, τ.dec (.v v) = some a → v = τ.val a := fun {τ v a} e => (τ.law _ _ e).symm
  intro A
  induction A with
  | nil =>
    intro l a e
    cases l with
    | nil => rfl
    | cons => cases e
  | cons t r ih =>
    intro l a e
    cases r with
    | nil =>
      match l, e with
      | [x], e => show [x] = [t.val a]; rw [one e]
      | x :: y :: r, e => cases e
    | cons u r =>
      match l, e with
      | x :: xs, e =>
        have e : (match t.dec (.v x), decs (u :: r) (xs.map SV.v) with | some p, some q => some (p, q) | _, _ => none) = some a := e
        split at e
        · rename_i p q h1 h2
          cases e
          show x :: xs = t.val p :: valsD (u :: r) q
          rw [one h1, ← ih h2]
        · cases e
section code
variable {P : Program} {X : Cx P} {n : Nat}
def PostOf (β : Nat → Nat) (st : St) (Q : Exit → St → HP) : Exit → Post := fun e ρ' L' h' => ∃ β' st', Tr β st β' st' ∧ Ok β' st' ρ' L' ∧ Q e st' h'
theorem fin_goal {ops : Array Oper} {next : Post} {w : Wh} {ρ : Env} {L h : H} (hf : fin ops w = true) (k : next ρ L h) : Goal P ops next w ρ L h := by
  cases w with
  | seq l =>
    have : l = [] := List.isEmpty_iff.1 hf
    subst this; exact k
  | any listed f => exact td (List.isEmpty_iff.1 hf) k
  | part listed f c => cases hf
theorem wpc_sound : ∀ (c : Code) {hint : Hint} {Q : Exit → St → HP} {st : St} {h : H} {β : Nat → Nat} {ρ : Env} {L : H}, wpc X n c hint Q st h → Ok β st ρ L → cwp P n noP c (PostOf β st Q) ρ L h := by
  intro c
  induction c with
  | skip => exact fun x ok => ⟨_, _, .refl .., ok, x⟩
  | label l => exact fun x ok => ⟨_, _, .refl .., ok, x⟩
  | ret => exact fun x ok => ⟨_, _, .refl .., ok, x⟩
  | exit id => exact fun x ok => ⟨_, _, .refl .., ok, x⟩
  | region id ops dr =>
    intro hint Q st h β ρ L x ok
    simp only [wpc] at x
    cases hf : fits n ops with
    | false => rw [hf] at x; exact x.elim
    | true =>
      rw [hf] at x
      have g := fun w0 (x : wpP X ops (hint.plan ops.size) w0 st (fun w st' => match fin ops w with | true => Q .normal st' | false => nope) h) =>
        wpP_sound (next := PostOf β st Q .normal) (hint.plan ops.size) (inD_all _) x ok fun w' st' β' ρ' L' h' t ok' _ kk => by
          cases hw : fin ops w' with
          | false => rw [hw] at kk; exact kk.elim
          | true => rw [hw] at kk; exact fin_goal hw ⟨β', st', t, ok', kk⟩
      cases dr with
      | false => exact ⟨hf, g _ x⟩
      | true => exact ⟨X.mixed, hf, g _ x⟩
  | block id a ih =>
    intro hint Q st h β ρ L x ok
    simp only [wpc] at x
    refine cwp_mono a _ _ (fun e ρ' L' h' k => ?_) _ _ _ (ih x ok)
    obtain ⟨β', st', t, ok', q⟩ := k
    cases e with
    | exit id' =>
      simp only at q
      show (bif Nat.beq id' id then PostOf β st Q .normal else PostOf β st Q (.exit id')) ρ' L' h'
      cases hb : Nat.beq id' id <;> rw [hb] at q <;> exact ⟨β', st', t, ok', q⟩
    | _ => exact ⟨β', st', t, ok', q⟩
  | scope a ih =>
    intro hint Q st h β ρ L x ok
    simp only [wpc] at x
    refine cwp_mono a _ _ (fun e ρ' L' h' k => ?_) _ _ _ (ih x ok)
    obtain ⟨β', st', t, ok', q⟩ := k
    cases e with
    | goto l => exact q.elim
    | _ => exact ⟨β', st', t, ok', q⟩
  | cond c a b iha ihb =>
    intro hint Q st h β ρ L x ok
    simp only [wpc] at x
    cases hc : sv st c with
    | v z =>
      cases z with
      | bool t =>
        rw [hc] at x
        have hv := ok.v hc
        have dflt : ∀ ha hb, mIf t (wpc X n a ha Q st) (wpc X n b hb Q st) h → cwp P n noP (.cond c a b) (PostOf β st Q) ρ L h := fun ha hb x =>
          ⟨t, hv, fun e => iha (x.1 e) ok, fun e => ihb (x.2 e) ok⟩
        cases hint with
        | known ha hb =>
          simp only at x
          refine ⟨t, hv, fun e => ?_, fun e => ?_⟩
          · subst e; exact iha x ok
          · subst e; exact ihb x ok
        | _ => exact dflt _ _ x
      | _ => rw [hc] at x; exact x.elim
    | _ => rw [hc] at x; exact x.elim
  | seq a b iha ihb =>
    intro hint Q st h β ρ L x ok
    have dflt : ∀ ha hb, wpc X n a ha (fun e st' => match e with | .normal => wpc X n b hb Q st' | e => Q e st') st h → cwp P n noP (.seq a b) (PostOf β st Q) ρ L h := fun ha hb x => by
      refine cwp_mono a _ _ (fun e ρ' L' h' k => ?_) _ _ _ (iha x ok)
      obtain ⟨β', st', t, ok', q⟩ := k
      cases e with
      | normal =>
        refine drop.of (cwp_mono b _ _ (fun e ρ2 L2 h2 k => ?_) _ _ _ (ihb q ok'))
        obtain ⟨β2, st2, t2, ok2, q2⟩ := k
        exact ⟨β2, st2, t.trans t2, ok2, q2⟩
      | _ => exact ⟨β', st', t, ok', q⟩
    simp only [wpc] at x
    cases hint with
    | join its D M ha hb =>
      simp only at x
      cases hD : dstsIn (Nat.testBit D) a with
      | false => rw [hD] at x; exact x.elim
      | true =>
        rw [hD] at x
        refine cwp_mono a _ _ (fun e ρ' L' h' k => ?_) _ _ _ (cwp_agree a hD _ _ _ _ (iha x ok.inS))
        obtain ⟨ag, β', st', t, ok', q⟩ := k
        cases e with
        | normal =>
          obtain ⟨s, h1, h2, kk⟩ := meet_elim q
          obtain ⟨m1, m2⟩ := meet_ok ok ok' (fun i hi => t.agree i (ink_clean.2 hi)) t.cleaned ag h1 h2
          refine drop.of (cwp_mono b _ _ (fun e ρ2 L2 h2 k => ?_) _ _ _ (ihb kk m1))
          obtain ⟨β2, st2, t2, ok2, q2⟩ := k
          exact ⟨β2, st2, m2.trans t2, ok2, q2⟩
        | _ => exact ⟨β', _, t.back ok.nd, ok'.backS, q⟩
    | _ => exact dflt _ _ x
  | loop a ih =>
    intro hint Q st h β ρ L x ok
    simp only [wpc] at x
    cases hint with
    | loop its D M ha =>
      simp only at x
      cases hD : dstsIn (Nat.testBit D) a with
      | false => rw [hD] at x; exact x.elim
      | true =>
        rw [hD] at x
        cases hs : decs (tysI its) (getI (inS st) its) with
        | none => rw [hs] at x; exact x.elim
        | some s0 =>
          rw [hs] at x
          simp only at x
          obtain ⟨N, x⟩ := x
          refine ⟨N, ?_⟩
          obtain ⟨m1, m2⟩ := meet_ok (D := Nat.testBit D) (M := M) ok.inS ok.inS (fun _ _ => rfl) (Tr.refl β (inS st)).cleaned' (Agree.refl _ ρ) hs (stayed_clean M ok.nd)
          generalize hF : (fun (rec : DenI its → HP) (s : DenI its) => wpc X n a ha (fun e st' => match e with | .normal => meet its M (inS st).bx rec st' | e => Q e (backS st st')) (encS its (Nat.testBit D) M s (inS st))) = F at x
          have key : ∀ N s β1 ρ1 L1 h1, loopF F N s h1 → Ok β1 (encS its (Nat.testBit D) M s (inS st)) ρ1 L1 → Tr β (inS st) β1 (encS its (Nat.testBit D) M s (inS st)) → Agree (Nat.testBit D) ρ ρ1 → iter (fun Q => cwp P n noP a Q) (PostOf β st Q) N ρ1 L1 h1 := by
            intro N
            induction N with
            | zero => intro s β1 ρ1 L1 h1 x; exact x.elim
            | succ N ihN =>
              intro s β1 ρ1 L1 h1 x ok1 t1 ag1
              have x : F (loopF F N) s h1 := x
              rw [← hF] at x
              refine cwp_mono a _ _ (fun e ρ' L' h' k => ?_) _ _ _ (cwp_agree a hD _ _ _ _ (ih x ok1))
              obtain ⟨ag, β', st', t, ok', q⟩ := k
              have tt := t1.trans t
              cases e with
              | normal =>
                obtain ⟨s', g1, g2, kk⟩ := meet_elim q
                obtain ⟨m1, m2⟩ := meet_ok ok.inS ok' tt.agree tt.cleaned' (ag1.trans ag) g1 g2
                rw [hF] at kk
                exact drop.of (ihN s' β' ρ' L' h' kk m1 m2 (ag1.trans ag))
              | _ => exact ⟨β', _, tt.back ok.nd, ok'.backS, q⟩
          exact key N s0 β ρ L h x m1 m2 (.refl _ _)
    | _ => exact x.elim
  | _ => exact fun x _ => x.elim
inductive Fits : List SV → List Value → Prop
  | nil : Fits [] []
  | cons {a : SV} {v : Value} {l : List SV} {m : List Value} : (∀ w, a.is w → v = w) → Fits l m → Fits (a :: l) (v :: m)
theorem decs_fits : ∀ {A : List Ty} {l : List SV} {vs : List Value} {a : Den A}, decs A l = some a → Fits l vs → vs = valsD A a := by
  intro A
  induction A with
  | nil =>
    intro l vs a e f
    cases l with
    | nil => cases f; rfl
    | cons => cases e
  | cons t r ih =>
    intro l vs a e f
    cases r with
    | nil =>
      match l, vs, e, f with
      | [x], [v], e, .cons h .nil => show [v] = [t.val a]; rw [h _ (t.law _ _ e)]
      | x :: y :: r, _, e, _ => cases e
    | cons u r =>
      match l, vs, e, f with
      | x :: xs, v :: vs, e, .cons h f =>
        have e : (match t.dec x, decs (u :: r) xs with | some p, some q => some (p, q) | _, _ => none) = some a := e
        split at e
        · rename_i p q h1 h2
          cases e
          show v :: vs = t.val p :: valsD (u :: r) q
          rw [h _ (t.law _ _ h1), ← ih h2 f]
        · cases e
theorem resS_ok {β : Nat → Nat} {st : St} {ρ : Env} {L h : H} (ok : Ok β st ρ L) : ∀ {rs : List ResultVar} {l : List SV}, resS P st rs = some l → ∃ vs, RdsL P (un L h) ρ rs vs ∧ Fits l vs := by
  intro rs
  induction rs with
  | nil => intro l e; cases e; exact ⟨[], trivial, .nil⟩
  | cons r rs ih =>
    intro l e
    cases r with
    | tmp t =>
      simp only [resS] at e
      split at e
      · rename_i l' h1
        cases e
        obtain ⟨vs, a, b⟩ := ih h1
        exact ⟨ρ t :: vs, ⟨rfl, a⟩, .cons (fun _ hw => is_eq hw (ok.slots t)) b⟩
      · cases e
    | cell a t =>
      simp only [resS] at e
      split at e
      · rename_i l' i off h1 h2
        obtain ⟨vs, p, q⟩ := ih h1
        split at e
        · rename_i b td ti h3 h4 h5
          obtain ⟨c, hc, kn⟩ := ok.at h3
          have ha : ρ a = .pointer (some ⟨β i, off, none⟩) := ok.box (x := .tmp a) h2 h3
          split at e
          · rename_i hg
            split at e
            · rename_i ws hw
              cases e
              exact ⟨_ :: vs, ⟨⟨_, ha, rds_load_agg h4 hg h5 rfl (un_left hc) (grabO_grab kn hw)⟩, p⟩, .cons (fun _ hw => Eq.symm hw) q⟩
            · cases e
          · rename_i hg
            split at e
            · rename_i v hw
              cases e
              exact ⟨_ :: vs, ⟨⟨_, ha, rds_load_scalar h4 hg rfl (un_left hc) (grab_one (grabO_grab kn hw))⟩, p⟩, .cons (fun _ hw => Eq.symm hw) q⟩
            · cases e
        · cases e
      · cases e
theorem argG_ok : ∀ {A : List Ty} {a : Den A} (n : Nat) (t : T) (u : Nat), (argG (svsD A a) n t).get u = .no ∨ (∃ v, ((argG (svsD A a) n t).get u).is v ∧ n ≤ u ∧ (valsD A a)[u - n]? = some v) ∨ (argG (svsD A a) n t).get u = t.get u := by
  have step : ∀ (n : Nat) (t : T) (s : SV) (v : Value) (g : T) (u : Nat), s.is v → (g.get u = .no ∨ (∃ v, (g.get u).is v ∧ n + 1 ≤ u ∧ False) ∨ g.get u = (T.set deep t n s).get u) → (g.get u = .no ∨ ((g.get u).is v ∧ u = n) ∨ g.get u = t.get u) := fun n t s v g u hs h => by
    rcases h with q | ⟨_, _, _, q⟩ | q
    · exact .inl q
    · exact q.elim
    · rcases T.get_set deep t n s u with w | ⟨w1, w⟩ | ⟨_, w⟩
      · exact .inl (q.trans w)
      · refine .inr (.inl ⟨?_, w1⟩); rw [q, w]; exact hs
      · exact .inr (.inr (q.trans w))
  intro A
  induction A with
  | nil => intro a n t u; exact .inr (.inr rfl)
  | cons x r ih =>
    intro a n t u
    cases r with
    | nil =>
      rcases step n t (x.sv a) (x.val a) (T.set deep t n (x.sv a)) u (x.svl a) (.inr (.inr rfl)) with q | ⟨q1, q2⟩ | q
      · exact .inl q
      · subst q2; exact .inr (.inl ⟨_, q1, Nat.le_refl _, by rw [Nat.sub_self]; rfl⟩)
      · exact .inr (.inr q)
    | cons w r =>
      rcases ih (a := a.2) (n + 1) (T.set deep t n (x.sv a.1)) u with q | ⟨v, q1, q2, q3⟩ | q
      · exact .inl q
      · refine .inr (.inl ⟨v, q1, by omega, ?_⟩)
        rw [show u - n = (u - (n + 1)) + 1 by omega]; exact q3
      · rcases step n t (x.sv a.1) (x.val a.1) (argG (svsD (x :: w :: r) a) n t) u (x.svl a.1) (.inr (.inr q)) with q | ⟨q1, q2⟩ | q
        · exact .inl q
        · subst q2; exact .inr (.inl ⟨_, q1, Nat.le_refl _, by rw [Nat.sub_self]; rfl⟩)
        · exact .inr (.inr q)
theorem valsD_len : ∀ {A : List Ty} (a : Den A), (valsD A a).length = A.length := by
  intro A
  induction A with
  | nil => intro a; rfl
  | cons t r ih =>
    intro a
    cases r with
    | nil => rfl
    | cons u r => show (valsD (u :: r) a.2).length + 1 = _; rw [ih]; rfl
theorem wpF_ok (X : Cx P) {f : FuncId} {fn : Func} (hf : P.funcs[f]? = some fn) {A R : List Ty} (hn : Nat.ble A.length fn.ntmps = true) {hint : Hint} {a : Den A} {K : Den R → HP} {h : H} (hm : wpF X fn A R hint a K h) :
    ACall P f (valsD A a).toArray h (fun v h' => ∃ r, v = outV (valsD R r) ∧ K r h') noP := by
  unfold wpF at hm
  cases hb : fn.body with
  | none => rw [hb] at hm; exact hm.elim
  | some c =>
    rw [hb] at hm
    simp only at hm
    refine ac_func hf hb (by simp only [List.size_toArray, valsD_len]; exact Nat.le_of_ble_eq_true hn) (cwp_sound c _ _ _ _ (cwp_mono c _ _ (fun e ρ' L' h' k => ?_) _ _ _ (wpc_sound c hm (β := fun i => i) (ρ := start (valsD A a).toArray) (L := fun _ => none) ⟨fun t => ?_, fun e he => (by cases he), fun i j ⟨e, he, _⟩ => (by cases he), List.nodup_nil⟩)))
    · obtain ⟨β', st', t, ok', q⟩ := k
      have fin : (match resS P st' fn.results.toList with | some l => (match decs R l with | some r => K r | none => nope) | none => nope : HP) h' → Out P fn (fun v h' => ∃ r, v = outV (valsD R r) ∧ K r h') ρ' L' h' := fun q => by
        cases h1 : resS P st' fn.results.toList with
        | none => rw [h1] at q; exact q.elim
        | some l =>
          rw [h1] at q
          simp only at q
          cases h2 : decs R l with
          | none => rw [h2] at q; exact q.elim
          | some r =>
            rw [h2] at q
            obtain ⟨vs, p1, p2⟩ := resS_ok (h := h') ok' h1
            have := decs_fits h2 p2
            subst this
            exact out_one _ _ (rs := fn.results.toList) rfl p1 rfl ⟨r, rfl, q⟩
      cases e with
      | normal => exact fin q
      | ret => exact fin q
      | _ => exact q.elim
    · show Rel [] _ (start (valsD A a).toArray t) ((argG (svsD A a) 0 .e).get t)
      rcases argG_ok (a := a) 0 .e t with q | ⟨v, q1, _, q2⟩ | q
      · rw [q]; trivial
      · have : start (valsD A a).toArray t = v := by
          simp only [start, Array.getD_eq_getD_getElem?, List.getElem?_toArray, Nat.sub_zero] at q2 ⊢
          rw [q2, Option.getD_some]
        rw [this]; exact q1.rel _ _
      · rw [q]; trivial
end code
def decStruct (tys : List Ty) {S : Type} (mk : Den tys → S) : SV → Option S
  | .v (.agg c) => match decs tys (c.toList.map SV.v) with | some x => some (mk x) | none => none
  | _ => none
/-- A struct: 'tys' its leaves. -/
def tStruct {S : Type} (tys : List Ty) (val : S → Value) (cells : S → List Value) (mk : Den tys → S) (h1 : ∀ x, val x = .agg (cells x).toArray) (h2 : ∀ x, (cells x).length = tys.length) (h3 : ∀ y, cells (mk y) = valsD tys y) : Ty :=
  ⟨S, val, cells, decStruct tys mk, fun x => .v (val x), tys.length, true,
    fun s x e => (by
      unfold decStruct at e
      split at e
      · rename_i c
        split at e
        · rename_i y hy
          cases e
          show val _ = Value.agg c
          rw [h1, h3, ← decs_v hy]
        · cases e
      · cases e), fun _ => rfl, .inl ⟨rfl, fun x => ⟨h1 x, h2 x⟩⟩⟩
def mkSpec {P : Program} (X : Cx P) (f : FuncId) (fn : Func) (A R : List Ty) (pure : Bool) (hint : Hint) (m : Den A → (Den R → HP) → HP) (hm : ∀ a K h, m a K h = wpF X fn A R hint a K h) (c : Callee P f fn) (hn : Nat.ble A.length fn.ntmps = true) : Spec P :=
  ⟨f, A, R, pure, m, fun a K h x => wpF_ok X c.here hn ((hm a K h).mp x), ⟨fn, c⟩⟩
end Go.Proofs.Ytlnlmideghepnaa.K
