/- Rules by which a printed proof walks through code: joins, loops, the function's frame; boxes; operations that only compute. -/
import Derived.Test.YtnmaknkbdfpbkaaK3
namespace Go.Proofs.Ytnmaknkbdfpbkaa.K
open Go

section agree
variable {P : Program} {n : Nat} {C : PPost}
def memB (D : List Nat) (t : Nat) : Bool := D.any fun d => Nat.beq t d
def Agree (D : List Nat) (ρ ρ' : Env) : Prop := ∀ t, memB D t = false → ρ' t = ρ t
theorem Agree.refl (D : List Nat) (ρ : Env) : Agree D ρ ρ := fun _ _ => rfl
theorem Agree.trans {D : List Nat} {a b c : Env} (x : Agree D a b) (y : Agree D b c) : Agree D a c := fun t h => (y t h).trans (x t h)
def dstIn (D : List Nat) (o : Oper) : Bool := match o.dst with | some d => memB D d | none => true
theorem agree_put {D : List Nat} {o : Oper} (hd : dstIn D o = true) (ρ : Env) (v : Value) : Agree D ρ (put ρ o.dst v) := fun t ht => by
  unfold dstIn at hd
  cases ho : o.dst with
  | none => rfl
  | some d =>
    simp only [ho] at hd
    have b : Nat.beq t d = false := by
      rw [← Bool.not_eq_true, Nat.beq_eq]; exact fun e => by subst e; rw [hd] at ht; cases ht
    simp only [put, b, cond_false]
theorem aOp_agree {D : List Nat} {o : Oper} (hd : dstIn D o = true) {ρ : Env} {L h : H} {next : Post} (x : aOp P o ρ L h next C) :
    aOp P o ρ L h (fun ρ' L' h' => Agree D ρ ρ' ∧ next ρ' L' h') C :=
  aOp_env rfl (fun nx hf fl u => u.imp id fun ⟨L', h', e, ap, ag, m⟩ => ⟨L', h', e, ap, ag, by
    cases nx <;> first
      | exact ⟨agree_put hd _ _, m⟩
      | exact m
      | exact m.mono (fun v h'' k a => ⟨agree_put hd _ _, k a⟩) (fun _ _ k => k)⟩) x
theorem aOpI_agree {D : List Nat} {ops : Array Oper} (hd : ops.toList.all (dstIn D) = true) {i : Nat} {ρ : Env} {L h : H} {next : Post} (x : aOpI P ops C i next ρ L h) :
    aOpI P ops C i (fun ρ' L' h' => Agree D ρ ρ' ∧ next ρ' L' h') ρ L h := by
  unfold aOpI at *
  cases ho : ops[i]? with
  | none => simp only [ho] at x ⊢; exact ⟨.refl _ _, x⟩
  | some o =>
    simp only [ho] at x ⊢
    have hdo : dstIn D o = true := List.all_eq_true.1 hd o (Array.mem_toList_iff.2 (Array.mem_of_getElem? ho))
    split
    · rename_i hw; rw [if_pos hw] at x; exact aOp_agree hdo x
    · rename_i hw; rw [if_neg hw] at x; exact ⟨agree_put hdo _ _, x⟩
theorem aOps_agree {D : List Nat} {ops : Array Oper} (hd : ops.toList.all (dstIn D) = true) {next : Post} : ∀ (l : List Nat) (ρ : Env) (L h : H), aOps P ops next C l ρ L h →
    aOps P ops (fun ρ' L' h' => Agree D ρ ρ' ∧ next ρ' L' h') C l ρ L h := by
  intro l
  induction l with
  | nil => exact fun ρ L h x => ⟨.refl _ _, x⟩
  | cons i rest ih =>
    intro ρ L h x
    refine aOpI_mono (fun ρ' L' h' k => ?_) (aOpI_agree hd (i := i) x)
    have := ih ρ' L' h' k.2
    have mono : ∀ (l : List Nat) (T T' : Post), (∀ ρ L h, T ρ L h → T' ρ L h) → ∀ ρ L h, aOps P ops T C l ρ L h → aOps P ops T' C l ρ L h := by
      intro l
      induction l with
      | nil => exact fun T T' hT ρ L h x => hT _ _ _ x
      | cons i r ih => exact fun T T' hT ρ L h x => aOpI_mono (fun ρ L h k => ih T T' hT ρ L h k) x
    exact mono rest _ _ (fun ρ'' L'' h'' k' => ⟨k.1.trans k'.1, k'.2⟩) _ _ _ this
theorem aAny_mono {ops : Array Oper} {T T' : Post} (hT : ∀ ρ L h, T ρ L h → T' ρ L h) : ∀ (fuel : Nat) (listed : Array Bool) (ρ : Env) (L h : H), aAny P ops T C fuel listed ρ L h → aAny P ops T' C fuel listed ρ L h := by
  intro fuel
  induction fuel with
  | zero => exact fun l ρ L h x => ⟨x.1, hT _ _ _ x.2⟩
  | succ f ih => exact fun l ρ L h x => ⟨fun e => hT _ _ _ (x.1 e), fun i hi => aOpI_mono (fun ρ L h k => ih _ ρ L h k) (x.2 i hi)⟩
theorem aAny_agree {D : List Nat} {ops : Array Oper} (hd : ops.toList.all (dstIn D) = true) {next : Post} : ∀ (fuel : Nat) (listed : Array Bool) (ρ : Env) (L h : H), aAny P ops next C fuel listed ρ L h →
    aAny P ops (fun ρ' L' h' => Agree D ρ ρ' ∧ next ρ' L' h') C fuel listed ρ L h := by
  intro fuel
  induction fuel with
  | zero => exact fun l ρ L h x => ⟨x.1, .refl _ _, x.2⟩
  | succ f ih =>
    exact fun l ρ L h x => ⟨fun e => ⟨.refl _ _, x.1 e⟩, fun i hi => aOpI_mono (fun ρ' L' h' k => aAny_mono (fun ρ'' L'' h'' k' => ⟨k.1.trans k'.1, k'.2⟩) _ _ _ _ _ (ih _ ρ' L' h' k.2)) (aOpI_agree hd (x.2 i hi))⟩

def dstsIn (D : List Nat) : Code → Bool
  | .region _ ops _ => ops.toList.all (dstIn D)
  | .seq x y => dstsIn D x && dstsIn D y
  | .cond _ x y => dstsIn D x && dstsIn D y
  | .block _ x => dstsIn D x
  | .loop x => dstsIn D x
  | _ => true
theorem iter_mono {T : (Exit → Post) → Post} (hT : ∀ (Q Q' : Exit → Post), (∀ e ρ L h, Q e ρ L h → Q' e ρ L h) → ∀ ρ L h, T Q ρ L h → T Q' ρ L h) {Q Q' : Exit → Post} (hQ : ∀ e ρ L h, Q e ρ L h → Q' e ρ L h) :
    ∀ (N : Nat) (ρ : Env) (L h : H), iter T Q N ρ L h → iter T Q' N ρ L h := by
  intro N
  induction N with
  | zero => exact fun ρ L h x => x
  | succ N ih => exact fun ρ L h x => hT _ _ (thenQ_mono (fun ρ L h k => drop_mono ih k) hQ) ρ L h x
theorem aOps_mono {ops : Array Oper} : ∀ (l : List Nat) (T T' : Post), (∀ ρ L h, T ρ L h → T' ρ L h) → ∀ ρ L h, aOps P ops T C l ρ L h → aOps P ops T' C l ρ L h := by
  intro l
  induction l with
  | nil => exact fun T T' hT ρ L h x => hT _ _ _ x
  | cons i r ih => exact fun T T' hT ρ L h x => aOpI_mono (fun ρ L h k => ih T T' hT ρ L h k) x
theorem inQ_mono {id : Nat} {Q Q' : Exit → Post} (hQ : ∀ e ρ L h, Q e ρ L h → Q' e ρ L h) : ∀ e ρ L h, inQ id Q e ρ L h → inQ id Q' e ρ L h := by
  intro e ρ L h x
  cases e with
  | exit i =>
    simp only [inQ] at x ⊢
    cases hb : Nat.beq i id <;> rw [hb] at x
    · exact hQ _ _ _ _ x
    · exact hQ _ _ _ _ x
  | _ => exact hQ _ _ _ _ x
theorem cwp_mono : ∀ (c : Code) (Q Q' : Exit → Post), (∀ e ρ L h, Q e ρ L h → Q' e ρ L h) → ∀ ρ L h, cwp P n C c Q ρ L h → cwp P n C c Q' ρ L h := by
  intro c
  induction c with
  | skip => exact fun Q Q' hQ ρ L h x => hQ _ _ _ _ x
  | region id ops draw =>
    intro Q Q' hQ ρ L h x
    cases draw with
    | false => exact ⟨x.1, aOps_mono _ _ _ (fun ρ L h k => hQ _ _ _ _ k) _ _ _ x.2⟩
    | true => exact ⟨x.1, x.2.1, fun bd ap => aAny_mono (fun ρ L h k => hQ _ _ _ _ k) _ _ _ _ _ (x.2.2 bd ap)⟩
  | seq x y ihx ihy => exact fun Q Q' hQ ρ L h k => ihx _ _ (thenQ_mono (fun ρ L h k => drop_mono (fun ρ L h k => ihy Q Q' hQ ρ L h k) k) hQ) ρ L h k
  | cond c x y ihx ihy => exact fun Q Q' hQ ρ L h ⟨t, hc, ht, hf⟩ => ⟨t, hc, fun e => ihx Q Q' hQ ρ L h (ht e), fun e => ihy Q Q' hQ ρ L h (hf e)⟩
  | block id x ih => exact fun Q Q' hQ ρ L h k => ih _ _ (inQ_mono hQ) ρ L h k
  | loop x ih => exact fun Q Q' hQ ρ L h ⟨N, k⟩ => ⟨N, iter_mono (fun Q Q' hQ ρ L h k => ih Q Q' hQ ρ L h k) hQ N ρ L h k⟩
  | exit id => exact fun Q Q' hQ ρ L h x => hQ _ _ _ _ x
  | ret => exact fun Q Q' hQ ρ L h x => hQ _ _ _ _ x
  | label l => exact fun Q Q' hQ ρ L h x => hQ _ _ _ _ x
  | _ => exact fun Q Q' hQ ρ L h x => x
/-- Code turns no temporary but those that it names. -/
theorem cwp_agree {D : List Nat} : ∀ (c : Code), dstsIn D c = true → ∀ (Q : Exit → Post) ρ L h, cwp P n C c Q ρ L h → cwp P n C c (fun e ρ' L' h' => Agree D ρ ρ' ∧ Q e ρ' L' h') ρ L h := by
  intro c
  induction c with
  | skip => exact fun _ Q ρ L h x => ⟨.refl _ _, x⟩
  | region id ops draw =>
    intro hd Q ρ L h x
    cases draw with
    | false => exact ⟨x.1, aOps_agree hd _ _ _ _ x.2⟩
    | true => exact ⟨x.1, x.2.1, fun bd ap => aAny_agree hd _ _ _ _ _ (x.2.2 bd ap)⟩
  | seq x y ihx ihy =>
    intro hd Q ρ L h k
    simp only [dstsIn, Bool.and_eq_true] at hd
    refine cwp_mono x _ _ (fun e ρ' L' h' k => ?_) ρ L h (ihx hd.1 _ ρ L h k)
    cases e with
    | normal =>
      obtain ⟨ag, L0, gr, q⟩ := k
      exact ⟨L0, gr, cwp_mono y (fun e ρ3 L3 h3 => Agree D ρ' ρ3 ∧ Q e ρ3 L3 h3) _ (fun e ρ3 L3 h3 q => ⟨ag.trans q.1, q.2⟩) _ _ _ (ihy hd.2 Q ρ' L0 h' q)⟩
    | _ => exact k
  | cond c x y ihx ihy =>
    intro hd Q ρ L h k
    simp only [dstsIn, Bool.and_eq_true] at hd
    obtain ⟨t, hc, ht, hf⟩ := k
    exact ⟨t, hc, fun e => ihx hd.1 Q ρ L h (ht e), fun e => ihy hd.2 Q ρ L h (hf e)⟩
  | block id x ih =>
    intro hd Q ρ L h k
    refine cwp_mono x _ _ (fun e ρ' L' h' k => ?_) ρ L h (ih hd _ ρ L h k)
    cases e with
    | exit i =>
      simp only [inQ] at k ⊢
      cases hb : Nat.beq i id <;> rw [hb] at k <;> exact k
    | _ => exact k
  | loop x ih =>
    intro hd Q ρ L h k
    obtain ⟨N, k⟩ := k
    refine ⟨N, ?_⟩
    have key : ∀ (N : Nat) (ρ0 ρ : Env) (L h : H), Agree D ρ0 ρ → iter (fun Q => cwp P n C x Q) Q N ρ L h → iter (fun Q => cwp P n C x Q) (fun e ρ' L' h' => Agree D ρ0 ρ' ∧ Q e ρ' L' h') N ρ L h := by
      intro N
      induction N with
      | zero => exact fun ρ0 ρ L h _ k => k
      | succ N ihN =>
        intro ρ0 ρ L h ag k
        refine cwp_mono x _ _ (fun e ρ' L' h' k => ?_) ρ L h (ih hd _ ρ L h k)
        cases e with
        | normal =>
          obtain ⟨ag', L0, gr, q⟩ := k
          exact ⟨L0, gr, ihN ρ0 ρ' L0 h' (ag.trans ag') q⟩
        | _ => exact ⟨ag.trans k.1, k.2⟩
    exact key N ρ ρ L h (.refl _ _) k
  | exit id => exact fun _ Q ρ L h x => ⟨.refl _ _, x⟩
  | ret => exact fun _ Q ρ L h x => ⟨.refl _ _, x⟩
  | label l => exact fun _ Q ρ L h x => ⟨.refl _ _, x⟩
  | _ => exact fun _ Q ρ L h x => x
end agree

/-- The temporaries as they are known where ways meet: what is named, what may have turned, all else as before. -/
def look : List (Nat × Value) → Nat → Option Value
  | [], _ => none
  | (d, v) :: r, t => bif Nat.beq t d then some v else look r t
def canon (ρ0 : Env) (D : List Nat) (vals : List (Nat × Value)) (junk : Env) : Env := fun t =>
  match look vals t with
  | some v => v
  | none => bif memB D t then junk t else ρ0 t
def eqs : List (Nat × Value) → Env → Prop
  | [], _ => True
  | (d, v) :: r, ρ => ρ d = v ∧ eqs r ρ
def keysIn (D : List Nat) : List (Nat × Value) → Bool
  | [] => true
  | (d, _) :: r => memB D d && keysIn D r
theorem eqs_look {ρ : Env} : ∀ {vals : List (Nat × Value)}, eqs vals ρ → ∀ t v, look vals t = some v → ρ t = v := by
  intro vals
  induction vals with
  | nil => intro _ t v h; cases h
  | cons p r ih =>
    obtain ⟨d, u⟩ := p
    intro e t v h
    simp only [look] at h
    cases hb : Nat.beq t d <;> rw [hb] at h
    · exact ih e.2 t v h
    · have : t = d := by rw [Nat.beq_eq] at hb; exact hb
      subst this
      simp only [cond_true, Option.some.injEq] at h
      rw [← h]; exact e.1
theorem look_in {D : List Nat} : ∀ {vals : List (Nat × Value)}, keysIn D vals = true → ∀ t, memB D t = false → look vals t = none := by
  intro vals
  induction vals with
  | nil => intro _ t _; rfl
  | cons p r ih =>
    obtain ⟨d, u⟩ := p
    intro k t ht
    simp only [keysIn, Bool.and_eq_true] at k
    have b : Nat.beq t d = false := by
      rw [← Bool.not_eq_true, Nat.beq_eq]; exact fun e => by subst e; rw [k.1] at ht; cases ht
    simp only [look, b, cond_false]
    exact ih k.2 t ht
theorem canon_of {ρ0 ρ : Env} {D : List Nat} {vals : List (Nat × Value)} (ag : Agree D ρ0 ρ) (e : eqs vals ρ) : ρ = canon ρ0 D vals ρ := by
  funext t
  unfold canon
  cases hl : look vals t with
  | some v => exact eqs_look e t v hl
  | none =>
    cases hm : memB D t with
    | true => rfl
    | false => exact ag t hm
theorem canon_again {ρ0 ρ junk : Env} {D : List Nat} {vals vals' : List (Nat × Value)} (k : keysIn D vals = true) (ag : Agree D (canon ρ0 D vals junk) ρ) (e : eqs vals' ρ) : ρ = canon ρ0 D vals' ρ := by
  refine canon_of (fun t ht => ?_) e
  rw [ag t ht]
  unfold canon
  rw [look_in k t ht, ht, cond_false]

/-- The function's own boxes. -/
def bx : List (Nat × Obj) → H
  | [] => fun _ => none
  | (b, o) :: r => upd (bx r) b o

section walk
variable {P : Program} {n : Nat} {C : PPost} {Q : Exit → Post} {ρ ρ0 : Env} {L h : H}
theorem cw_seq {x y : Code} (k : cwp P n C x (thenQ (drop (cwp P n C y Q)) Q) ρ L h) : cwp P n C (.seq x y) Q ρ L h := k
theorem cw_next {K : Post} (k : K ρ L h) : thenQ (drop K) Q .normal ρ L h := .of k
theorem cw_reg {id : Nat} {ops : Array Oper} {l : List Nat} (hf : fits n ops = true) (hl : List.range ops.size = l) (k : aOps P ops (Q .normal) C l ρ L h) : cwp P n C (.region id ops false) Q ρ L h := ⟨hf, by rw [hl]; exact k⟩
theorem cw_draw {id : Nat} {ops : Array Oper} (hm : P.follows .mixedOrders = true) (hf : fits n ops = true) (k : bAny P ops (Q .normal) C ops.size (Array.replicate ops.size false) ρ L h) : cwp P n C (.region id ops true) Q ρ L h := ⟨hm, hf, k⟩
theorem cw_if {c : Operand} {x y : Code} (t : Bool) (hc : ev ρ c = .bool t) (ht : t = true → cwp P n C x Q ρ L h) (hf : t = false → cwp P n C y Q ρ L h) : cwp P n C (.cond c x y) Q ρ L h := ⟨t, hc, ht, hf⟩
theorem cw_ift {c : Operand} {x y : Code} (hc : ev ρ c = .bool true) (k : cwp P n C x Q ρ L h) : cwp P n C (.cond c x y) Q ρ L h := ⟨true, hc, fun _ => k, fun e => by cases e⟩
theorem cw_iff {c : Operand} {x y : Code} (hc : ev ρ c = .bool false) (k : cwp P n C y Q ρ L h) : cwp P n C (.cond c x y) Q ρ L h := ⟨false, hc, fun e => (by cases e), fun _ => k⟩
theorem cw_block {id : Nat} {x : Code} (k : cwp P n C x (inQ id Q) ρ L h) : cwp P n C (.block id x) Q ρ L h := k
theorem cw_skip (k : Q .normal ρ L h) : cwp P n C .skip Q ρ L h := k
theorem cw_ret (k : Q .ret ρ L h) : cwp P n C .ret Q ρ L h := k
theorem cw_exit {id : Nat} (k : Q (.exit id) ρ L h) : cwp P n C (.exit id) Q ρ L h := k
/-- Where ways meet. -/
theorem cw_join {σ : Type} (D : List Nat) (vals : σ → List (Nat × Value)) (ls : σ → List (Nat × Obj)) (J : σ → H → Prop) {x y : Code} (hD : dstsIn D x = true)
    (hy : ∀ s h junk, J s h → cwp P n C y Q (canon ρ0 D (vals s) junk) (bx (ls s)) h)
    (hx : cwp P n C x (thenQ (fun ρ L h => ∃ s, eqs (vals s) ρ ∧ Grows (bx (ls s)) L ∧ J s h) Q) ρ0 L h) : cwp P n C (.seq x y) Q ρ0 L h := by
  refine cwp_mono x _ _ (fun e ρ' L' h' k => ?_) _ _ _ (cwp_agree x hD _ _ _ _ hx)
  cases e with
  | normal =>
    obtain ⟨ag, s, he, gr, j⟩ := k
    refine ⟨bx (ls s), gr, ?_⟩
    rw [canon_of ag he]
    exact hy s h' ρ' j
  | _ => exact k.2
def loopF {σ : Type} (F : (σ → H → Prop) → σ → H → Prop) : Nat → σ → H → Prop
  | 0 => fun _ _ => False
  | N + 1 => F (loopF F N)
/-- A loop of the printed functions. -/
def mLoop {σ : Type} (F : (σ → H → Prop) → σ → H → Prop) (s : σ) : H → Prop := fun h => ∃ N, loopF F N s h
theorem cw_loop {σ : Type} (D : List Nat) (vals : σ → List (Nat × Value)) (ls : σ → List (Nat × Obj)) {F : (σ → H → Prop) → σ → H → Prop} {s0 : σ} {x : Code}
    (hm : mLoop F s0 h) (hD : dstsIn D x = true) (hk : ∀ s, keysIn D (vals s) = true) (he : eqs (vals s0) ρ0) (hl : L = bx (ls s0)) (hnd : ∀ s, ((ls s).map Prod.fst).Nodup)
    (body : ∀ (rec : σ → H → Prop) (s : σ) (h : H) (junk : Env), ((ls s).map Prod.fst).Nodup → F rec s h →
      cwp P n C x (thenQ (fun ρ L h => ∃ s', eqs (vals s') ρ ∧ Grows (bx (ls s')) L ∧ rec s' h) Q) (canon ρ0 D (vals s) junk) (bx (ls s)) h) :
    cwp P n C (.loop x) Q ρ0 L h := by
  obtain ⟨N, hN⟩ := hm
  refine ⟨N, ?_⟩
  subst hl
  have key : ∀ (N : Nat) (s : σ) (h : H) (junk : Env), loopF F N s h → iter (fun Q => cwp P n C x Q) Q N (canon ρ0 D (vals s) junk) (bx (ls s)) h := by
    intro N
    induction N with
    | zero => exact fun s h junk k => k
    | succ N ih =>
      intro s h junk k
      refine cwp_mono x _ _ (fun e ρ' L' h' k => ?_) _ _ _ (cwp_agree x hD _ _ _ _ (body (loopF F N) s h junk (hnd s) k))
      cases e with
      | normal =>
        obtain ⟨ag, s', he', gr, r⟩ := k
        refine ⟨bx (ls s'), gr, ?_⟩
        rw [canon_again (hk s) ag he']
        exact ih s' h' ρ' r
      | _ => exact k.2
  have := key N s0 h ρ0 hN
  rw [← canon_of (Agree.refl D ρ0) he] at this
  exact this
theorem bx_drop {ls : List (Nat × Obj)} (nd : (ls.map Prod.fst).Nodup) : ∀ (k : Nat), Grows (bx (ls.drop k)) (bx ls) := by
  induction ls with
  | nil => intro k; rw [List.drop_nil]; exact .refl _
  | cons p r ih =>
    obtain ⟨b, o⟩ := p
    simp only [List.map_cons, List.nodup_cons] at nd
    intro k
    cases k with
    | zero => exact .refl _
    | succ k =>
      have h1 : Grows (bx r) (bx ((b, o) :: r)) := fun c q hc => by
        show upd (bx r) b o c = some q
        rw [upd_ne _ _ (fun e => nd.1 ?_)]
        · exact hc
        · subst e
          have mem : ∀ {l : List (Nat × Obj)}, bx l c = some q → c ∈ l.map Prod.fst := by
            intro l
            induction l with
            | nil => intro h; cases h
            | cons p l ih =>
              obtain ⟨b', o'⟩ := p
              intro h
              by_cases e : c = b'
              · subst e; exact List.mem_cons_self ..
              · exact List.mem_cons_of_mem _ (ih (by rw [← h]; exact (upd_ne _ _ e).symm))
          exact mem hc
      exact Grows.trans (ih nd.2 k) h1
/-- Where ways of a printed function meet. -/
def mJoin {σ : Type} (rest : σ → H → Prop) (body : (σ → H → Prop) → H → Prop) : H → Prop := body rest

theorem cw_joinM {σ : Type} {rest : σ → H → Prop} {body : (σ → H → Prop) → H → Prop} (hm : mJoin rest body h) (D : List Nat) (vals : σ → List (Nat × Value)) (ls : σ → List (Nat × Obj)) {x y : Code} (hD : dstsIn D x = true)
    (hnd : ∀ s, ((ls s).map Prod.fst).Nodup) (hx : body rest h → cwp P n C x (thenQ (fun ρ L h => ∃ s, eqs (vals s) ρ ∧ Grows (bx (ls s)) L ∧ rest s h) Q) ρ0 L h)
    (hy : ∀ s h junk, ((ls s).map Prod.fst).Nodup → rest s h → cwp P n C y Q (canon ρ0 D (vals s) junk) (bx (ls s)) h) : cwp P n C (.seq x y) Q ρ0 L h := cw_join D vals ls rest hD (fun s h junk => hy s h junk (hnd s)) (hx hm)
/-- The function's frame. -/
theorem cw_func {f : FuncId} {fn : Func} {c : Code} {args : Array Value} {R : Value → H → Prop} (hf : P.funcs[f]? = some fn) (hb : fn.body = some c) (hn : Nat.ble args.size fn.ntmps = true)
    (x : cwp P fn.ntmps noP c (outQ P fn R) (start args) (bx []) h) : ACall P f args h R noP :=
  ac_func hf hb (Nat.le_of_ble_eq_true hn) (cwp_sound _ _ _ _ _ x)
end walk

/-! Operations that only compute. -/
def iAdd (k : IntKind) (a b : Int) : Int := k.wrap (a + b)
def iSub (k : IntKind) (a b : Int) : Int := k.wrap (a - b)
def iMul (k : IntKind) (a b : Int) : Int := k.wrap (a * b)
def iAnd (k : IntKind) (a b : Int) : Int := k.wrap (BitVec.ofInt k.bits a &&& BitVec.ofInt k.bits b).toNat
def iOr (k : IntKind) (a b : Int) : Int := k.wrap (BitVec.ofInt k.bits a ||| BitVec.ofInt k.bits b).toNat
def iXor (k : IntKind) (a b : Int) : Int := k.wrap (BitVec.ofInt k.bits a ^^^ BitVec.ofInt k.bits b).toNat
def iAndNot (k : IntKind) (a b : Int) : Int := k.wrap (BitVec.ofInt k.bits a &&& ~~~BitVec.ofInt k.bits b).toNat
def iNot (k : IntKind) (a : Int) : Int := k.wrap (BitVec.ofInt k.bits (if k.signed then -1 else k.max) ^^^ BitVec.ofInt k.bits a).toNat
def iShl (k : IntKind) (a b : Int) : Int := k.wrap (a * 2 ^ (min b.toNat k.bits))
def iShr (k : IntKind) (a b : Int) : Int := a.fdiv (2 ^ (min b.toNat k.bits))
def iQuo (k : IntKind) (a b : Int) : Int := k.wrap (a.tdiv b)
def iRem (_k : IntKind) (a b : Int) : Int := a.tmod b
def iMin (a b : Int) : Int := if b < a then b else a
def iMax (a b : Int) : Int := if b > a then b else a
section pure
variable {P : Program}
/-- 's' comes to 'v' and turns nothing. -/
def QV {α : Type} (P : Program) (s : Sem α) (v : α) : Prop := ∀ (h : H) (K : α → H → Prop) (E : Value → H → Prop), K v h → qwp P s h K E
theorem QV.pure {α : Type} (v : α) : QV P (pure v : Sem α) v := fun _ _ _ k => k
theorem QV.bind {α β : Type} {s : Sem α} {f : α → Sem β} {a : α} {b : β} (x : QV P s a) (y : QV P (f a) b) : QV P (s >>= f) b := fun h _ _ k => (qwp_bind s f h).2 (x h _ _ (y h _ _ k))
theorem QV.program : QV P program P := fun _ _ _ k => k
theorem QV.underlying {t : TypeId} {d : TypeDesc} (e : P.underlying t = some d) : QV P (underlying t) d := QV.bind QV.program (by rw [e]; exact QV.pure d)
theorem QV.typeInfo {t : TypeId} {i : TypeInfo} (e : P.info? t = some i) : QV P (typeInfo t) i := QV.bind QV.program (by rw [e]; exact QV.pure i)
theorem QV.sizeOf {t : TypeId} {i : TypeInfo} (e : P.info? t = some i) : QV P (sizeOf t) i.size := QV.bind (QV.typeInfo e) (QV.pure _)
theorem QV.zero {t : TypeId} {i : TypeInfo} {z : Value} (e : P.info? t = some i) (hz : i.zero = some z) : QV P (zeroValue t) z := QV.bind (QV.typeInfo e) (by rw [hz]; exact QV.pure z)
def aggB : TypeDesc → Bool
  | .struct _ | .array _ _ => true
  | _ => false
theorem QV.isAgg {t : TypeId} {d : TypeDesc} (e : P.underlying t = some d) : QV P (isAgg t) (aggB d) := QV.bind (QV.underlying e) (by cases d <;> exact QV.pure _)

/-- The operation comes to 'v' whatever memory holds. -/
def YE (P : Program) (o : Oper) (ρ : Env) (v : Value) : Prop := ∀ (L' h' : H) (next : Post) (C : PPost), next (put ρ o.dst v) L' h' → aOp P o ρ L' h' next C
/-- .. in all memory that has the boxes 'L'. -/
def YR (P : Program) (o : Oper) (ρ : Env) (L : H) (v : Value) : Prop := ∀ (L' h' : H) (next : Post) (C : PPost), Grows L L' → next (put ρ o.dst v) L' h' → aOp P o ρ L' h' next C
theorem YE.of {o : Oper} {ρ : Env} {v : Value} (hq : quietOp P o.op = true) (x : QV P (execOp (ev ρ) o) (.value v)) : YE P o ρ v := fun L' h' next C k => by
  rw [aOp_quiet hq]
  exact fun _ => x _ _ _ ⟨trivial, L', h', rfl, id, .refl _ _, k⟩
theorem YE.val {o : Oper} {ρ : Env} {v : Value} {s : Sem Value} (hq : quietOp P o.op = true) (he : execOp (ev ρ) o = (do pure (.value (← s)) : Sem Next)) (x : QV P s v) : YE P o ρ v :=
  YE.of hq (by rw [he]; exact QV.bind x (QV.pure _))
variable {ρ : Env} {d : Option Tmp} {ty : TypeId} {ps : String} {af : Array Edge} {gd : Option (Nat × Bool)}
theorem yv {o : Oper} {ρ : Env} {v' v : Value} (x : YE P o ρ v') (e : v' = v) : YE P o ρ v := e ▸ x
theorem y_move {x : Operand} {v : Value} (hx : ev ρ x = v) : YE P ⟨d, .move x, ty, ps, af, gd⟩ ρ v := by subst hx; exact YE.of rfl (QV.pure _)
theorem y_assign {x : Operand} {v : Value} (hx : ev ρ x = v) : YE P ⟨d, .assign x, ty, ps, af, gd⟩ ρ v := by subst hx; exact YE.of rfl (QV.pure _)
theorem y_pick {c x y : Operand} {b : Bool} (hc : ev ρ c = .bool b) : YE P ⟨d, .pick c x y, ty, ps, af, gd⟩ ρ (bif b then ev ρ x else ev ρ y) := by
  refine YE.of rfl ?_
  show QV P (do pure (Next.value (if ← asBool (ev ρ c) then ev ρ x else ev ρ y))) _
  rw [hc]
  refine QV.bind (a := b) (QV.pure b) ?_
  cases b <;> exact QV.pure _
theorem y_pickT {c x y : Operand} {b : Bool} (hc : ev ρ c = .bool b) (e : b = true) {v : Value} (hx : ev ρ x = v) : YE P ⟨d, .pick c x y, ty, ps, af, gd⟩ ρ v := by subst e; subst hx; exact y_pick hc
theorem y_pickF {c x y : Operand} {b : Bool} (hc : ev ρ c = .bool b) (e : b = false) {v : Value} (hx : ev ρ y = v) : YE P ⟨d, .pick c x y, ty, ps, af, gd⟩ ρ v := by subst e; subst hx; exact y_pick hc
theorem y_pickB {c x y : Operand} {b p q : Bool} (hc : ev ρ c = .bool b) (hx : ev ρ x = .bool p) (hy : ev ρ y = .bool q) : YE P ⟨d, .pick c x y, ty, ps, af, gd⟩ ρ (.bool (bif b then p else q)) := by
  have := y_pick (P := P) (d := d) (ty := ty) (ps := ps) (af := af) (gd := gd) (x := x) (y := y) hc
  rw [hx, hy] at this
  cases b <;> exact this
theorem y_nil {x : Operand} {a : Addr} (hx : ev ρ x = .pointer (some a)) : YE P ⟨d, .nilCheck x, ty, ps, af, gd⟩ ρ (.pointer (some a)) := by
  refine YE.of rfl ?_
  simp only [execOp, hx]
  exact QV.pure _
theorem y_nilP {x : Operand} {p : Option Addr} {a : Addr} (hx : ev ρ x = .pointer p) (hp : p = some a) : YE P ⟨d, .nilCheck x, ty, ps, af, gd⟩ ρ (.pointer (some a)) := y_nil (hx.trans (by rw [hp]))
theorem y_not {x : Operand} {t : TypeId} {b : Bool} (hx : ev ρ x = .bool b) : YE P ⟨d, .unOp .not t x, ty, ps, af, gd⟩ ρ (.bool !b) := by
  refine YE.val rfl rfl ?_
  show QV P (Op.unary .not (ev ρ x)) _
  rw [hx]; exact QV.pure _
theorem y_neg {x : Operand} {t : TypeId} {k : IntKind} {a : Int} (hx : ev ρ x = .int k a) : YE P ⟨d, .unOp .neg t x, ty, ps, af, gd⟩ ρ (.int k (iSub k 0 a)) := by
  refine YE.val rfl rfl ?_
  show QV P (Op.unary .neg (ev ρ x)) _
  rw [hx]; exact QV.pure _
theorem y_xor1 {x : Operand} {t : TypeId} {k : IntKind} {a : Int} (hx : ev ρ x = .int k a) :
    YE P ⟨d, .unOp .xor t x, ty, ps, af, gd⟩ ρ (.int k (iNot k a)) := by
  refine YE.val rfl rfl ?_
  show QV P (Op.unary .xor (ev ρ x)) _
  rw [hx]; exact QV.pure _
/-- Two integers of one kind, each operation but the division and the shift. -/
def binI (op : BinOp) (k : IntKind) (a b : Int) : Option Value :=
  match op with
  | .add => some (.int k (iAdd k a b))
  | .sub => some (.int k (iSub k a b))
  | .mul => some (.int k (iMul k a b))
  | .and => some (.int k (iAnd k a b))
  | .or => some (.int k (iOr k a b))
  | .xor => some (.int k (iXor k a b))
  | .andNot => some (.int k (iAndNot k a b))
  | .eql => some (.bool (decide (a = b)))
  | .neq => some (.bool (!decide (a = b)))
  | .lss => some (.bool (decide (a < b)))
  | .leq => some (.bool (decide (a ≤ b)))
  | .gtr => some (.bool (decide (b < a)))
  | .geq => some (.bool (decide (b ≤ a)))
  | _ => none
theorem eqGuard_int {op : BinOp} {t : TypeId} {x y : Operand} {k : IntKind} {a : Int} {v : Value} : QV P (eqGuard op t x y (.int k a) v) () := by
  cases op <;> cases v <;> exact QV.pure _
theorem y_bin {op : BinOp} {t u : TypeId} {x y : Operand} {k : IntKind} {a b : Int} {v : Value} (hx : ev ρ x = .int k a) (hy : ev ρ y = .int k b) (hv : binI op k a b = some v) :
    YE P ⟨d, .binOp op t x y u, ty, ps, af, gd⟩ ρ v := by
  refine YE.val rfl rfl ?_
  show QV P (do eqGuard op t x y (ev ρ x) (ev ρ y); binOp op t (ev ρ x) (ev ρ y)) v
  rw [hx, hy]
  refine QV.bind eqGuard_int ?_
  unfold binI at hv
  cases op <;> cases hv <;> first | exact (by unfold binOp; simp only [ne_eq, not_true_eq_false, if_false]; exact QV.pure _) | skip
end pure
end Go.Proofs.Ytnmaknkbdfpbkaa.K
