/- The walk that computes: regions, code, functions. The walk that computes is sound: steps, meetings. The walk that computes is sound: plans, code, functions. Functions as specifications; structs as types. -/
import Derived.Test.YtiajjcboddaenaaQ3
namespace Go.Proofs.Ytiajjcboddaenaa.K
open Go

/-- What is carried where ways meet: a temporary, a cell of an own box. -/
inductive It : Type 1
  | slot (t : Nat) (τ : Ty)
  | cell (i j : Nat) (τ : Ty)
def It.ty : It → Ty
  | .slot _ τ => τ
  | .cell _ _ τ => τ
def tysI : List It → List Ty
  | [] => []
  | a :: r => a.ty :: tysI r
def getI (st : St) : List It → List SV
  | [] => []
  | .slot t _ :: r => st.σ t :: getI st r
  | .cell i j _ :: r => (match findB st.bx i with | some e => (match e.cells[j]? with | some (some v) => .v v | _ => .no) | none => .no) :: getI st r
/-- The carried temporaries, written into what is known. -/
def slotI : List It → List SV → T → T
  | .slot t _ :: r, s :: ss, u => slotI r ss (T.set deep u t s)
  | .cell .. :: r, _ :: ss, u => slotI r ss u
  | _, _, u => u
def cellI : List It → List SV → Nat → Nat → Option Value
  | .cell i j _ :: r, s :: ss, a, b => bif Nat.beq a i && Nat.beq b j then valOf? s else cellI r ss a b
  | .slot .. :: r, _ :: ss, a, b => cellI r ss a b
  | _, _, _, _ => none
abbrev DenI (its : List It) := Den (tysI its)
def freshB (its : List It) (ss : List SV) (e : Bx) (dirty : Bool) : Bx := ⟨e.key, e.ty, (List.range e.cells.length).map fun j => cellI its ss e.key j, dirty⟩
/-- The boxes behind a meeting: those of 'M' as the items tell, all others as they were. -/
def encB (its : List It) (M : List Nat) (ss : List SV) : List Bx → List Bx
  | [] => []
  | e :: r => (match memB M e.key with | true => freshB its ss e true | false => e) :: encB its M ss r
/-- The boxes where a scope begins: nothing has been written in it. -/
def clean : List Bx → List Bx
  | [] => []
  | e :: r => ⟨e.key, e.ty, e.cells, false⟩ :: clean r
/-- .. and where it is left: what was written in it or ahead of it. -/
def backB (l : List Bx) : List Bx → List Bx
  | [] => []
  | e :: r => ⟨e.key, e.ty, e.cells, e.dirty || (match findB l e.key with | some x => x.dirty | none => false)⟩ :: backB l r
/-- Is each box outside 'M' as it was? -/
def stayed (M : List Nat) (l' : List Bx) : List Bx → Bool
  | [] => true
  | e :: r => (memB M e.key || match findB l' e.key with | some x => !x.dirty | none => false) && stayed M l' r
/-- The state behind a meeting. -/
def encS (its : List It) (D : Nat → Bool) (M : List Nat) (s : DenI its) (st : St) : St := ⟨slotI its (svsD (tysI its) s) (st.tr.keep D), encB its M (svsD (tysI its) s) st.bx⟩
def inS (st : St) : St := ⟨st.tr, clean st.bx⟩
def backS (st st' : St) : St := ⟨st'.tr, backB st.bx st'.bx⟩
def meet (its : List It) (M : List Nat) (l : List Bx) (j : DenI its → HP) (st' : St) : HP := match decs (tysI its) (getI st' its), stayed M st'.bx l with
  | some s, true => j s
  | _, _ => nope

/-! Regions. -/
inductive Wh
  | seq (l : List Nat)
  | any (listed : Array Bool) (fuel : Nat)
  | part (listed : Array Bool) (fuel : Nat) (c : List Nat)
/-- One of those that are ready comes next, but none of 'c'. -/
def bPart (P : Program) (ops : Array Oper) (next : Post) (fuel : Nat) (listed : Array Bool) (c : List Nat) : Post := fun ρ L h => Bdd (un L h) → Apart L h →
  ∀ i ∈ Region.ready .any ops listed, memB c i = false → aOpI P ops noP i (aAny P ops next noP fuel (listed.setIfInBounds i true)) ρ L h
def Goal (P : Program) (ops : Array Oper) (next : Post) : Wh → Post
  | .seq l => aOps P ops next noP l
  | .any listed fuel => bAny P ops next noP fuel listed
  | .part listed fuel c => bPart P ops next fuel listed c
def Wh.same : Wh → Wh → Bool
  | .seq l, .seq m => Nat.beq l.length m.length && l == m
  | .any l n, .any m k => Nat.beq n k && l.toList == m.toList
  | _, _ => false
def adv : Wh → Nat → Wh
  | .seq (_ :: r), _ => .seq r
  | .seq [], _ => .seq []
  | .any l n, i => .any (l.setIfInBounds i true) (n - 1)
  | .part l n _, i => .any (l.setIfInBounds i true) n
/-- 'i' is told, or another comes next. -/
def skip : Wh → Nat → Wh
  | .seq l, _ => .seq l
  | .any l n, i => .part l (n - 1) [i]
  | .part l n c, i => .part l n (i :: c)
def may (P : Program) (ops : Array Oper) (w : Wh) (i how : Nat) : Bool := match w with
  | .seq (j :: _) => Nat.beq i j
  | .seq [] => false
  | .any _ 0 => false
  | .any listed (f + 1) => match how with
    | 3 => Region.ready .any ops listed == [i]
    | m => Nat.ble m 2 && Region.noSelect ops && free P ops listed i m && fewB listed (f + 1)
  | .part .. => false
def may2 (ops : Array Oper) (w : Wh) (i j : Nat) : Bool := match w with
  | .any listed (_ + 1) => Region.ready .any ops listed == [i, j]
  | .part listed _ c => (Region.ready .any ops listed).filter (fun x => !memB c x) == [i, j]
  | _ => false
def mayA (ops : Array Oper) (w : Wh) : Bool := match w with
  | .any listed (_ + 1) => !(Region.ready .any ops listed).isEmpty
  | .part .. => true
  | _ => false
def fin (ops : Array Oper) : Wh → Bool
  | .seq l => l.isEmpty
  | .any listed _ => (Region.ready .any ops listed).isEmpty
  | .part .. => false
def how' : Wh → Nat → Nat
  | .seq _, _ => 3
  | _, n => n
/-- Is an operation wanted? -/
def wantS (ops : Array Oper) (st : St) (o : Oper) : Option Bool := match o.guard with
  | none => some true
  | some (j, b) => match ops.toList[j]? with
    | some oj => match oj.dst with
      | some d => match st.σ d with | .v (.bool c) => some (bif c then b else !b) | .v (.tuple _) => some false | _ => none
      | none => none
    | none => none
inductive Plan : Type 1
  | nil
  | run (l : List Nat) (p : Plan)
  | split (g : Nat) (p q : Plan)
  | join (its : List It) (D : Nat) (M : List Nat) (p q : Plan)
  | sel (g d D : Nat) (p p' q : Plan)
  | both (i j : Nat) (p q : Plan)
  | alt (i : Nat) (p q : Plan)
section
variable {P : Program} (X : Cx P) (ops : Array Oper)
/-- One operation, and on. -/
def opS (st : St) (i how : Nat) (k : St → HP) : HP := match ops.toList[i]? with
  | some o => match wantS ops st o with
    | some true => run how (effOf P X st o) o.dst st k
    | some false => match Nat.beq how 0 || Nat.beq how 3 with
      | true => k (st.put o.dst (.v undef))
      | false => nope
    | none => nope
  | none => nope
def wpL : List Nat → Wh → St → (Wh → St → HP) → HP
  | [], w, st, k => k w st
  | n :: r, w, st, k => match may P ops w (n / 4) (n % 4) with
    | true => opS X ops st (n / 4) (how' w (n % 4)) fun st' => wpL r (adv w (n / 4)) st' k
    | false => nope
/-- .. that only computes. -/
def opP (st : St) (i how : Nat) : Option St := match ops.toList[i]? with
  | some o => match wantS ops st o with
    | some true => match effOf P X st o with
      | .ret s => some (st.put o.dst s)
      | .own s => (match how with | 0 => none | _ => some (st.put o.dst s))
      | _ => none
    | some false => match how with
      | 0 | 3 => some (st.put o.dst (.v undef))
      | _ => none
    | none => none
  | none => none
def prL : List Nat → Wh → St → Option (Wh × St)
  | [], w, st => some (w, st)
  | n :: r, w, st => match may P ops w (n / 4) (n % 4) with
    | true => match opP X ops st (n / 4) (how' w (n % 4)) with
      | some st' => prL r (adv w (n / 4)) st'
      | none => none
    | false => none
def selS (g d : Nat) (D : Nat → Bool) (st : St) (a b : St → Option (Wh × St)) : Option (Wh × St) := match st.σ g with
  | .v (.bool c) => match a (st.put (some g) (.v (.bool true))), b (st.put (some g) (.v (.bool false))) with
    | some (w1, s1), some (w2, s2) => match w1.same w2, s1.σ d, s2.σ d with
      | true, .v (.bool x), .v (.bool y) => some (w1, ⟨T.set deep (st.tr.keep D) d (.v (.bool (bif c then x else y))), st.bx⟩)
      | _, _, _ => none
    | _, _ => none
  | _ => none
def dIn (D : Nat → Bool) (i : Nat) : Bool := match ops.toList[i]? with | some o => dstIn D o | none => true
def inD (D : Nat → Bool) : Plan → Bool
  | .nil => true
  | .run l p => l.all (fun n => dIn ops D (n / 4)) && inD D p
  | .split _ p q => inD D p && inD D q
  | .join _ _ _ p q => inD D p && inD D q
  | .sel _ _ _ p p' q => inD D p && inD D p' && inD D q
  | .both i j p q => dIn ops D i && dIn ops D j && inD D p && inD D q
  | .alt i p q => dIn ops D i && inD D p && inD D q
def pr : Plan → Wh → St → Option (Wh × St)
  | .nil, w, st => some (w, st)
  | .run l p, w, st => match prL X ops l w st with | some (w', st') => pr p w' st' | none => none
  | .sel g d D p p' q, w, st => match inD ops (Nat.testBit D) p && inD ops (Nat.testBit D) p' with
    | true => match selS g d (Nat.testBit D) st (pr p w) (pr p' w) with | some (w', st') => pr q w' st' | none => none
    | false => none
  | _, _, _ => none
/-- Where a plan leads. -/
def aft : Plan → Wh → Wh
  | .nil, w => w
  | .run l p, w => aft p (l.foldl (fun w n => adv w (n / 4)) w)
  | .split _ p _, w => aft p w
  | .join _ _ _ p q, w => aft q (aft p w)
  | .sel _ _ _ p _ q, w => aft q (aft p w)
  | .both i _ p _, w => aft p (adv w i)
  | .alt i p _, w => aft p (adv w i)
def wpP : Plan → Wh → St → (Wh → St → HP) → HP
  | .nil, w, st, k => k w st
  | .run l p, w, st, k => wpL X ops l w st fun w' st' => wpP p w' st' k
  | .split g p q, w, st, k => match st.σ g with
    | .v (.bool c) => mIf c (wpP p w (st.put (some g) (.v (.bool true))) k) (wpP q w (st.put (some g) (.v (.bool false))) k)
    | _ => nope
  | .join its D M p q, w, st, k => match inD ops (Nat.testBit D) p with
    | true => mJoin (fun s : DenI its => wpP q (aft p w) (encS its (Nat.testBit D) M s st) k) fun j =>
      wpP p w (inS st) fun w' st' => match w'.same (aft p w) with | true => meet its M st.bx j st' | false => nope
    | false => nope
  | .sel g d D p p' q, w, st, k => match inD ops (Nat.testBit D) p && inD ops (Nat.testBit D) p' with
    | true => match selS g d (Nat.testBit D) st (pr X ops p w) (pr X ops p' w) with | some (w', st') => wpP q w' st' k | none => nope
    | false => nope
  | .both i j p q, w, st, k => match may2 ops w i j with
    | true => mBoth (opS X ops st i 3 fun st' => wpP p (adv w i) st' k) (opS X ops st j 3 fun st' => wpP q (adv w j) st' k)
    | false => nope
  | .alt i p q, w, st, k => match mayA ops w with
    | true => mBoth (opS X ops st i 3 fun st' => wpP p (adv w i) st' k) (wpP q (skip w i) st k)
    | false => nope
end
/-- What the walk is told of code: where ways meet, what loops carry, which conditions are known. -/
inductive Hint : Type 1
  | d
  | reg (p : Plan)
  | seq (a b : Hint)
  | join (its : List It) (D : Nat) (M : List Nat) (a b : Hint)
  | cond (a b : Hint)
  | known (a b : Hint)
  | blk (a : Hint)
  | loop (its : List It) (D : Nat) (M : List Nat) (a : Hint)
  | rng (A : List Ty) (xs : List Nat) (rt : Bool) (a b : Hint)
def autoP (n : Nat) : Plan := .run ((List.range n).map fun i => 4 * i + 3) .nil
def Hint.plan (n : Nat) : Hint → Plan
  | .reg p => p
  | _ => autoP n
def Hint.one : Hint → Hint
  | .seq a _ | .cond a _ | .known a _ | .blk a => a
  | _ => .d
def Hint.two : Hint → Hint
  | .seq _ b | .cond _ b | .known _ b => b
  | _ => .d
/-- The loop's variables of a round. -/
def setA : List Tmp → List SV → St → St
  | p :: ps, s :: ss, st => setA ps ss (st.put (some p) s)
  | _, _, st => st
/-- The ways on behind a range over a function. -/
def outX (Q : Exit → HP) (j : Nat) : List Nat → HP
  | [] => nope
  | id :: r => mIf (Nat.beq j (id + 2)) (Q (.exit id)) (outX Q j r)
def outK (xs : List Nat) (rt : Bool) (Q : Exit → HP) (j : Nat) : HP := mIf (Nat.beq j 0) (Q .normal) (match rt with | true => mIf (Nat.beq j 1) (Q .ret) (outX Q j xs) | false => outX Q j xs)
def wpc {P : Program} (X : Cx P) (n : Nat) : Code → Bool → Hint → (Exit → St → HP) → St → HP
  | .skip, _, _, Q, st => Q .normal st
  | .label _, _, _, Q, st => Q .normal st
  | .ret, _, _, Q, st => Q .ret st
  | .exit id, _, _, Q, st => Q (.exit id) st
  | .region _ ops dr, _, hint, Q, st => match fits n ops with
    | true => wpP X ops (hint.plan ops.size) (match dr with | true => .any (Array.replicate ops.size false) ops.size | false => .seq (List.range ops.size)) st
      fun w st' => match fin ops w with | true => Q .normal st' | false => nope
    | false => nope
  | .block id a, top, hint, Q, st => wpc X n a top hint.one (fun e st' => match e with | .exit id' => (match Nat.beq id' id with | true => Q .normal st' | false => Q (.exit id') st') | e => Q e st') st
  | .scope a, top, hint, Q, st => wpc X n a top hint.one (fun e st' => match e with | .goto _ => nope | e => Q e st') st
  | .cond c a b, top, hint, Q, st => match sv st c with
    | .v (.bool t) => (match hint with
      | .known ha hb => (match t with | true => wpc X n a top ha Q st | false => wpc X n b top hb Q st)
      | hint => mIf t (wpc X n a top hint.one Q st) (wpc X n b top hint.two Q st))
    | _ => nope
  | .seq a b, top, hint, Q, st => match hint with
    | .join its D M ha hb => (match dstsIn (Nat.testBit D) a with
      | true => mJoin (fun s : DenI its => wpc X n b top hb Q (encS its (Nat.testBit D) M s st)) fun j =>
        wpc X n a top ha (fun e st' => match e with | .normal => meet its M st.bx j st' | e => Q e (backS st st')) (inS st)
      | false => nope)
    | hint => wpc X n a top hint.one (fun e st' => match e with | .normal => wpc X n b top hint.two Q st' | e => Q e st') st
  | .loop a, top, hint, Q, st => match hint with
    | .loop its D M ha => (match dstsIn (Nat.testBit D) a, decs (tysI its) (getI (inS st) its) with
      | true, some s0 => mLoop (fun (rec : DenI its → HP) (s : DenI its) =>
        wpc X n a top ha (fun e st' => match e with | .normal => meet its M (inS st).bx rec st' | e => Q e (backS st st')) (encS its (Nat.testBit D) M s (inS st))) s0
      | _, _ => nope)
    | _ => nope
  | .rangeFunc g ps as bd, top, hint, Q, st => match top, hint, valOf? (sv st g), ps.toList.all fun p => Nat.blt p n with
    | true, .rng A xs rt ha hb, some fv, true => (match Nat.beq A.length ps.size with
      | true => mRangeF P (valsD A) fv (fun (x : Den A) mid kj =>
          wpc X n as false ha (fun e st1 => match e with
            | .normal => mid (wpc X n bd false hb (fun e _ => match e with | .normal => kj 0 | .ret => kj 1 | .exit id => kj (id + 2) | _ => nope) st1)
            | _ => nope) (setA ps.toList (svsD A x) ⟨st.tr, []⟩)) (outK xs rt fun e => Q e st)
      | false => nope)
    | _, _, _, _ => nope
  | _, _, _, _, _ => nope
/-- The results. -/
def resM {P : Program} (X : Cx P) (st : St) : List ResultVar → (List SV → HP) → HP
  | [], k => k []
  | .tmp t :: r, k => resM X st r fun l => k (st.σ t :: l)
  | .cell a t :: r, k => match st.σ a with
    | .box i off => (match findB st.bx i, P.underlying t, P.info? t with
      | some e, some td, some ti => (match aggB td with
        | true => (match grabO e.cells off ti.size with | some vs => resM X st r fun l => k (.v (.agg vs.toArray) :: l) | none => nope)
        | false => (match grabO e.cells off 1 with | some [v] => resM X st r fun l => k (.v v :: l) | _ => nope))
      | _, _, _ => nope)
    | .adr ad => (match tyOf X.ty t with
      | some τ => (match tyOk P t τ with | true => mLoad τ.cells ad fun x => resM X st r fun l => k (τ.sv x :: l) | false => nope)
      | none => nope)
    | _ => nope
def argG : List SV → Nat → T → T
  | [], _, t => t
  | s :: r, n, t => argG r (n + 1) (T.set deep t n s)
/-- A function whole. -/
def wpF {P : Program} (X : Cx P) (fn : Func) (A R : List Ty) (hint : Hint) (a : Den A) (K : Den R → HP) : HP := match fn.body with
  | some c => wpc X fn.ntmps c true hint (fun e st => match e with
    | .normal | .ret => resM X st fn.results.toList fun l => match decs R l with | some r => K r | none => nope
    | _ => nope) ⟨argG (svsD A a) 0 .e, []⟩
  | none => nope
end Go.Proofs.Ytiajjcboddaenaa.K
namespace Go.Proofs.Ytiajjcboddaenaa.K
open Go

theorem findB_none : ∀ {l : List Bx} {i : Nat}, findB l i = none → ¬ InK l i := by
  intro l
  induction l with
  | nil => rintro i _ ⟨e, he, _⟩; cases he
  | cons x r ih =>
    intro i h ⟨e, he, hk⟩
    simp only [findB] at h
    cases hb : Nat.beq x.key i <;> rw [hb] at h
    · rcases List.mem_cons.1 he with rfl | he
      · rw [hk, Nat.beq_refl] at hb; cases hb
      · exact ih h ⟨e, he, hk⟩
    · cases h
theorem findB_mem : ∀ {l : List Bx} {e : Bx}, (l.map Bx.key).Nodup → e ∈ l → findB l e.key = some e := by
  intro l
  induction l with
  | nil => intro e _ h; cases h
  | cons x r ih =>
    intro e nd h
    simp only [List.map_cons, List.nodup_cons] at nd
    simp only [findB]
    rcases List.mem_cons.1 h with rfl | h
    · rw [Nat.beq_refl]; rfl
    · have : Nat.beq x.key e.key = false := by
        rw [← Bool.not_eq_true, Nat.beq_eq]
        exact fun q => nd.1 (by rw [q]; exact List.mem_map.2 ⟨e, h, rfl⟩)
      rw [this]; exact ih nd.2 h
theorem key_uniq {l : List Bx} (nd : (l.map Bx.key).Nodup) {e e' : Bx} (h : e ∈ l) (h' : e' ∈ l) (k : e.key = e'.key) : e = e' := by
  have h1 := findB_mem nd h
  rw [k, findB_mem nd h'] at h1
  exact (Option.some.inj h1).symm
theorem setB_keys : ∀ (l : List Bx) (i : Nat) (c : List (Option Value)), (setB l i c).map Bx.key = l.map Bx.key := by
  intro l
  induction l with
  | nil => intro i c; rfl
  | cons x r ih =>
    intro i c
    simp only [setB]
    cases Nat.beq x.key i
    · simp only [cond_false, List.map_cons, ih]
    · rfl
theorem setB_mem : ∀ {l : List Bx} {i : Nat} {c : List (Option Value)} {x : Bx}, (l.map Bx.key).Nodup → x ∈ setB l i c → (x ∈ l ∧ x.key ≠ i) ∨ ∃ e, e ∈ l ∧ e.key = i ∧ x = ⟨e.key, e.ty, c, true⟩ := by
  intro l
  induction l with
  | nil => intro i c x _ h; cases h
  | cons y r ih =>
    intro i c x nd h
    simp only [List.map_cons, List.nodup_cons] at nd
    simp only [setB] at h
    cases hb : Nat.beq y.key i <;> rw [hb] at h
    · have hne : y.key ≠ i := fun e => by rw [← Nat.beq_eq, hb] at e; cases e
      rcases List.mem_cons.1 h with rfl | h
      · exact .inl ⟨List.mem_cons_self .., hne⟩
      · rcases ih nd.2 h with ⟨h1, h2⟩ | ⟨e, h1, h2, h3⟩
        · exact .inl ⟨List.mem_cons_of_mem _ h1, h2⟩
        · exact .inr ⟨e, List.mem_cons_of_mem _ h1, h2, h3⟩
    · rw [Nat.beq_eq] at hb
      rcases List.mem_cons.1 h with rfl | h
      · exact .inr ⟨y, List.mem_cons_self .., hb, rfl⟩
      · refine .inl ⟨List.mem_cons_of_mem _ h, fun e => nd.1 ?_⟩
        rw [hb, ← e]; exact List.mem_map.2 ⟨x, h, rfl⟩
theorem setB_has : ∀ {l : List Bx} {i : Nat} {c : List (Option Value)} {e : Bx}, e ∈ l → (e ∈ setB l i c) ∨ (e.key = i ∧ ⟨e.key, e.ty, c, true⟩ ∈ setB l i c) := by
  intro l
  induction l with
  | nil => intro i c e h; cases h
  | cons y r ih =>
    intro i c e h
    simp only [setB]
    cases hb : Nat.beq y.key i
    · rcases List.mem_cons.1 h with rfl | h
      · exact .inl (List.mem_cons_self ..)
      · exact (ih h).imp (List.mem_cons_of_mem _) fun q => ⟨q.1, List.mem_cons_of_mem _ q.2⟩
    · rcases List.mem_cons.1 h with rfl | h
      · rw [Nat.beq_eq] at hb; exact .inr ⟨hb, List.mem_cons_self ..⟩
      · exact .inl (List.mem_cons_of_mem _ h)
theorem ink_keys {l l' : List Bx} (h : l'.map Bx.key = l.map Bx.key) {i : Nat} : InK l' i ↔ InK l i := by
  have key : ∀ {a b : List Bx}, a.map Bx.key = b.map Bx.key → InK a i → InK b i := fun {a b} h ⟨e, he, hk⟩ => by
    have : i ∈ b.map Bx.key := by rw [← h, ← hk]; exact List.mem_map.2 ⟨e, he, rfl⟩
    obtain ⟨e', he', hk'⟩ := List.mem_map.1 this
    exact ⟨e', he', hk'⟩
  exact ⟨key h, key h.symm⟩

/-- How a state may turn: boxes stay, those that are not marked hold what they held. -/
structure Tr (β : Nat → Nat) (st : St) (β' : Nat → Nat) (st' : St) : Prop where
  agree : ∀ i, InK st.bx i → β' i = β i
  has : ∀ e, e ∈ st.bx → ∃ e', e' ∈ st'.bx ∧ e'.key = e.key ∧ e'.ty = e.ty ∧ e'.cells.length = e.cells.length ∧ (e'.dirty = false → e.dirty = false ∧ e'.cells = e.cells)
theorem Tr.refl (β : Nat → Nat) (st : St) : Tr β st β st := ⟨fun _ _ => rfl, fun e h => ⟨e, h, rfl, rfl, rfl, fun d => ⟨d, rfl⟩⟩⟩
theorem Tr.ink {β β' : Nat → Nat} {st st' : St} (t : Tr β st β' st') {i : Nat} (h : InK st.bx i) : InK st'.bx i := by
  obtain ⟨e, he, rfl⟩ := h
  obtain ⟨e', h1, h2, _⟩ := t.has e he
  exact ⟨e', h1, h2⟩
theorem Tr.trans {β β1 β2 : Nat → Nat} {st st1 st2 : St} (x : Tr β st β1 st1) (y : Tr β1 st1 β2 st2) : Tr β st β2 st2 := ⟨fun i h => (y.agree i (x.ink h)).trans (x.agree i h), fun e h => by
  obtain ⟨e1, h1, a1, b1, c1, d1⟩ := x.has e h
  obtain ⟨e2, h2, a2, b2, c2, d2⟩ := y.has e1 h1
  refine ⟨e2, h2, a2.trans a1, b2.trans b1, c2.trans c1, fun d => ?_⟩
  obtain ⟨p, q⟩ := d2 d
  obtain ⟨p', q'⟩ := d1 p
  exact ⟨p', q.trans q'⟩⟩
theorem put_bx (st : St) (d : Option Tmp) (s : SV) : (st.put d s).bx = st.bx := by cases d <;> rfl
theorem Tr.put (β : Nat → Nat) (st : St) (d : Option Tmp) (s : SV) : Tr β st β (st.put d s) := ⟨fun _ _ => rfl, fun e h => ⟨e, by rw [put_bx]; exact h, rfl, rfl, rfl, fun d => ⟨d, rfl⟩⟩⟩
theorem put_other (ρ : Env) (d : Option Tmp) (v : Value) (t : Nat) (h : d ≠ some t) : put ρ d v t = ρ t := by
  cases d with
  | none => rfl
  | some d =>
    have : Nat.beq t d = false := by rw [← Bool.not_eq_true, Nat.beq_eq]; exact fun e => h (by rw [e])
    simp only [K.put, this, cond_false]

theorem put_self (ρ : Env) (d : Nat) (v : Value) : put ρ (some d) v d = v := by simp only [K.put, Nat.beq_refl, cond_true]
section steps
variable {P : Program} {X : Cx P} {β : Nat → Nat} {st : St} {ρ : Env} {L : H}
theorem Ok.put (k : Ok β st ρ L) {v : Value} {s : SV} (r : Rel st.bx β v s) (d : Option Tmp) : Ok β (st.put d s) (put ρ d v) L := by
  cases d with
  | none => exact k
  | some d =>
    refine ⟨fun t => ?_, k.boxes, k.inj, k.nd⟩
    show Rel st.bx β (K.put ρ (some d) v t) ((T.set deep st.tr d s).get t)
    rcases T.get_set deep st.tr d s t with q | ⟨rfl, q⟩ | ⟨h, q⟩
    · rw [q]; trivial
    · rw [q, put_self]; exact r
    · rw [q, put_other _ _ _ _ (fun e => h (Option.some.inj e).symm)]; exact k.slots t
theorem run_step {o : Oper} {e : Eff} {how : Nat} {k : St → HP} {h : H} {next : Post} (ok : Ok β st ρ L) (eo : EffOk P o β st ρ L e) (r : run how e o.dst st k h)
    (hn : ∀ β' st' ρ' L' h', Tr β st β' st' → Ok β' st' ρ' L' → (∀ t, o.dst ≠ some t → ρ' t = ρ t) → k st' h' → next ρ' L' h') : aOp P o ρ L h next noP := by
  cases e with
  | bad => exact r.elim
  | ret s =>
    obtain ⟨v, hr, y⟩ := eo
    exact y L h next noP (hn β _ _ L h (.put ..) (ok.put hr _) (fun t ht => put_other _ _ _ _ ht) r)
  | own s =>
    obtain ⟨v, hr, y⟩ := eo
    cases how with
    | zero => exact r.elim
    | succ n => exact y L h next noP (.refl L) (hn β _ _ L h (.put ..) (ok.put hr _) (fun t ht => put_other _ _ _ _ ht) r)
  | ask W w f =>
    have r' : w (fun x => k (st.put o.dst (f x))) h := by
      match how, r with
      | 0, r => exact r
      | 1, r => exact r.elim
      | n + 2, r => exact r
    obtain ⟨x, v, is, y, kx⟩ := eo _ h r'
    exact y L h next noP (hn β _ _ L h (.put ..) (ok.put (is.rel _ _) _) (fun t ht => put_other _ _ _ _ ht) kx)
  | mem W w f =>
    have r' : w (fun x => k (st.put o.dst (f x))) h := by
      match how, r with
      | 0, r => exact r.elim
      | 1, r => exact r.elim
      | n + 2, r => exact r
    refine eo _ h next r' fun x v h' kx hv => hn β _ _ L h' (.put ..) (ok.put ?_ _) (fun t ht => put_other _ _ _ _ ht) kx
    rcases hv with hv | hv
    · rw [hv]; trivial
    · exact hv.rel _ _
  | box t c lit =>
    have r' : (match o.dst with
      | none => nope
      | some d => match findB st.bx d with
        | some _ => nope
        | none => k ⟨T.set deep (st.tr.map (clr d)) d (litSV d lit), ⟨d, t, c.map some, false⟩ :: st.bx⟩ : HP) h := by
      match how, r with
      | 0, r => exact r.elim
      | 1, r => exact r.elim
      | n + 2, r => exact r
    refine eo h next fun b hb => ?_
    cases hd : o.dst with
    | none => rw [hd] at r'; exact r'.elim
    | some d =>
      rw [hd] at r'
      simp only at r'
      cases hf : findB st.bx d with
      | some e => rw [hf] at r'; exact r'.elim
      | none =>
        rw [hf] at r'
        have fr := findB_none hf
        have hne : ∀ e, e ∈ st.bx → e.key ≠ d := fun e he q => fr ⟨e, he, q⟩
        have ninb : ∀ e, e ∈ st.bx → β e.key ≠ b := fun e he q => by
          obtain ⟨c', hc, _⟩ := ok.boxes e he
          rw [q, hb] at hc; cases hc
        let β' : Nat → Nat := fun i => if i = d then b else β i
        have bold : ∀ i, i ≠ d → β' i = β i := fun i hi => if_neg hi
        have bnew : β' d = b := if_pos rfl
        refine hn β' _ _ _ h ⟨fun i ⟨e, he, hk⟩ => bold i (hk ▸ hne e he), fun e he => ⟨e, List.mem_cons_of_mem _ he, rfl, rfl, rfl, fun q => ⟨q, rfl⟩⟩⟩ ⟨fun u => ?_, fun e he => ?_, fun i j hi hj e => ?_, ?_⟩ (fun u hu => ?_) r'
        · show Rel _ β' (K.put ρ (some d) (litV b lit) u) ((T.set deep (st.tr.map (clr d)) d (litSV d lit)).get u)
          rcases T.get_set deep (st.tr.map (clr d)) d (litSV d lit) u with q | ⟨rfl, q⟩ | ⟨hne', q⟩
          · rw [q]; trivial
          · rw [q, put_self]
            cases lit with
            | none => intro _; show _ = Value.pointer (some ⟨β' u, 0, none⟩); rw [bnew]; rfl
            | some n => intro _; show _ = Value.slice (some ⟨β' u, 0, none⟩) n n; rw [bnew]; rfl
          · rw [q, put_other _ _ _ _ (fun e => hne' (Option.some.inj e).symm), T.get_map rfl]
            have := ok.slots u
            show Rel _ β' (ρ u) (clr d (st.σ u))
            revert this
            cases st.σ u with
            | box j off =>
              intro this
              show Rel _ β' (ρ u) (bif Nat.beq j d then .no else .box j off)
              cases hj : Nat.beq j d
              · rintro ⟨e, he, hk⟩
                have hjd : j ≠ d := fun q => by rw [← Nat.beq_eq, hj] at q; cases q
                rcases List.mem_cons.1 he with rfl | he
                · exact absurd hk.symm hjd
                · rw [bold j hjd]; exact this ⟨e, he, hk⟩
              · trivial
            | lit j n =>
              intro this
              show Rel _ β' (ρ u) (bif Nat.beq j d then .no else .lit j n)
              cases hj : Nat.beq j d
              · rintro ⟨e, he, hk⟩
                have hjd : j ≠ d := fun q => by rw [← Nat.beq_eq, hj] at q; cases q
                rcases List.mem_cons.1 he with rfl | he
                · exact absurd hk.symm hjd
                · rw [bold j hjd]; exact this ⟨e, he, hk⟩
              · trivial
            | _ => exact id
        · rcases List.mem_cons.1 he with rfl | he
          · refine ⟨c.toArray, ?_, by simp, fun j v hj => ?_⟩
            · show upd L b _ (β' d) = _; rw [bnew]; exact upd_same _ _ _
            · have hj : (c.map some)[j]? = some (some v) := hj
              rw [List.getElem?_map] at hj
              cases hc : c[j]? with
              | none => rw [hc] at hj; cases hj
              | some w => rw [hc] at hj; cases hj; rw [List.getElem?_toArray]; exact hc
          · obtain ⟨c', hc, kn⟩ := ok.boxes e he
            refine ⟨c', ?_, kn⟩
            rw [bold _ (hne e he), upd_ne _ _ (ninb e he)]; exact hc
        · obtain ⟨e1, he1, rfl⟩ := hi
          obtain ⟨e2, he2, rfl⟩ := hj
          rcases List.mem_cons.1 he1 with rfl | he1 <;> rcases List.mem_cons.1 he2 with rfl | he2
          · rfl
          · rw [bold _ (hne e2 he2)] at e
            exact absurd (e.symm.trans bnew) (ninb e2 he2)
          · rw [bold _ (hne e1 he1)] at e
            exact absurd (e.trans bnew) (ninb e1 he1)
          · rw [bold _ (hne e1 he1), bold _ (hne e2 he2)] at e
            exact ok.inj _ _ ⟨e1, he1, rfl⟩ ⟨e2, he2, rfl⟩ e
        · refine List.nodup_cons.2 ⟨fun hm => ?_, ok.nd⟩
          obtain ⟨e, he, hk⟩ := List.mem_map.1 hm
          exact hne e he hk
        · exact put_other _ _ _ _ (fun e => hu (hd.trans e))
  | set i c =>
    have r' : k ⟨(st.put o.dst .no).tr, setB st.bx i c⟩ h := by
      match how, r with
      | 0, r => exact r.elim
      | 1, r => exact r.elim
      | 2, r => exact r.elim
      | 3, r => exact r
      | n + 4, r => exact r.elim
    obtain ⟨e0, c', hf, hl, kn, y⟩ := eo
    obtain ⟨h0, hk0⟩ := findB_some hf
    have ik : ∀ j, InK (setB st.bx i c) j ↔ InK st.bx j := fun j => ink_keys (setB_keys _ _ _)
    refine y h next (hn β _ _ _ h ⟨fun _ _ => rfl, fun e he => ?_⟩ ⟨fun u => ?_, fun e he => ?_, fun a b ha hb => ok.inj a b ((ik a).1 ha) ((ik b).1 hb), by rw [setB_keys]; exact ok.nd⟩ (fun t ht => put_other _ _ _ _ ht) r')
    · rcases setB_has (i := i) (c := c) he with q | ⟨q1, q2⟩
      · exact ⟨e, q, rfl, rfl, rfl, fun d => ⟨d, rfl⟩⟩
      · have : e = e0 := key_uniq ok.nd he h0 (q1.trans hk0.symm)
        subst this
        exact ⟨_, q2, rfl, rfl, hl, fun d => by cases d⟩
    · have hs : Rel (setB st.bx i c) β (ρ u) (st.σ u) := by
        have := ok.slots u
        revert this
        cases st.σ u with
        | box j off => exact fun q m => q ((ik j).1 m)
        | lit j n => exact fun q m => q ((ik j).1 m)
        | _ => exact id
      cases hd : o.dst with
      | none => exact hs
      | some d =>
        show Rel _ β (K.put ρ (some d) undef u) ((T.set deep st.tr d .no).get u)
        rcases T.get_set deep st.tr d .no u with q | ⟨rfl, q⟩ | ⟨h, q⟩
        · rw [q]; trivial
        · rw [q]; trivial
        · rw [q, put_other _ _ _ _ (fun e => h (Option.some.inj e).symm)]; exact hs
    · rcases setB_mem ok.nd he with ⟨h1, h2⟩ | ⟨e1, h1, h2, rfl⟩
      · obtain ⟨c2, hc2, kn2⟩ := ok.boxes e h1
        refine ⟨c2, ?_, kn2⟩
        rw [upd_ne]; exact hc2
        exact fun q => h2 (ok.inj _ _ ⟨e, h1, rfl⟩ ⟨e0, h0, hk0⟩ q)
      · have : e1 = e0 := key_uniq ok.nd h1 h0 (h2.trans hk0.symm)
        subst this
        refine ⟨c', ?_, kn⟩
        show upd L (β i) _ (β e1.key) = _
        rw [h2]; exact upd_same _ _ _
/-- What hangs on the temporaries alone. -/
theorem run_y {o : Oper} {e : Eff} {k : St → HP} {h : H} (ok : Ok β st ρ L) (eo : EffOk P o β st ρ L e) (r : run 0 e o.dst st k h) : ∃ v st', YE P o ρ v ∧ Tr β st β st' ∧ Ok β st' (put ρ o.dst v) L ∧ k st' h := by
  cases e with
  | ret s =>
    obtain ⟨v, hr, y⟩ := eo
    exact ⟨v, _, y, .put .., ok.put hr _, r⟩
  | ask W w f =>
    obtain ⟨x, v, is, y, kx⟩ := eo _ h (show w (fun x => k (st.put o.dst (f x))) h from r)
    exact ⟨v, _, y, .put .., ok.put (is.rel _ _) _, kx⟩
  | _ => exact r.elim
theorem run_r {o : Oper} {e : Eff} {k : St → HP} {h : H} (ok : Ok β st ρ L) (eo : EffOk P o β st ρ L e) (r : run 1 e o.dst st k h) : ∃ v st', YR P o ρ L v ∧ Tr β st β st' ∧ Ok β st' (put ρ o.dst v) L ∧ k st' h := by
  cases e with
  | ret s =>
    obtain ⟨v, hr, y⟩ := eo
    exact ⟨v, _, fun L' h' next C _ => y L' h' next C, .put .., ok.put hr _, r⟩
  | own s =>
    obtain ⟨v, hr, y⟩ := eo
    exact ⟨v, _, y, .put .., ok.put hr _, r⟩
  | _ => exact r.elim
theorem want_ok {ops : Array Oper} {o : Oper} {b : Bool} (ok : Ok β st ρ L) (h : wantS ops st o = some b) : Region.wanted o (yld ops ρ) = b := by
  unfold wantS at h
  unfold Region.wanted
  split at h
  · rename_i hg; cases h; rw [hg]
  · rename_i j w hg
    rw [hg]
    simp only
    split at h
    · rename_i oj hj
      rw [Array.getElem?_toList] at hj
      split at h
      · rename_i d hd
        have hs := ok.slots d
        have hy : yld ops ρ j = match ρ d with | .bool b => some b | _ => none := by
          unfold yld; simp only [hj, Option.bind_some, hd]; rfl
        split at h
        · rename_i c hc
          rw [hc] at hs
          have hs : ρ d = _ := hs
          rw [hy, hs]
          cases h
          cases c <;> cases w <;> rfl
        · rename_i c hc
          rw [hc] at hs
          have hs : ρ d = _ := hs
          rw [hy, hs]
          cases h
          rfl
        · cases h
      · cases h
    · cases h
variable {ops : Array Oper} {next : Post}
theorem agree_of {D : Nat → Bool} {o : Oper} {ρ' : Env} (hd : dstIn D o = true) (h : ∀ t, o.dst ≠ some t → ρ' t = ρ t) : Agree D ρ ρ' := fun t ht => h t fun e => by
  unfold dstIn at hd; rw [e] at hd; simp only at hd; rw [hd] at ht; cases ht
theorem t1n {i fuel : Nat} {listed : Array Bool} {oi : Oper} {h : H} (hi' : ops.toList[i]? = some oi) (hr : Region.ready .any ops listed = [i]) (hw : Region.wanted oi (yld ops ρ) = false)
    (x : bAny P ops next noP fuel (listed.setIfInBounds i true) (put ρ oi.dst undef) L h) : bAny P ops next noP (fuel + 1) listed ρ L h := fun bd ap => by
  have hi := at_list hi'
  refine ⟨fun h0 => (by rw [hr] at h0; cases h0), ?_⟩
  rw [hr]
  intro j hj
  obtain rfl := List.mem_singleton.1 hj
  unfold aOpI
  simp only [hi]
  rw [if_neg (by rw [hw]; exact Bool.false_ne_true)]
  exact x bd ap
theorem opS_goal {D : Nat → Bool} {w : Wh} {i how : Nat} {k : St → HP} {h : H} (hm : may P ops w i how = true) (x : opS X ops st i (how' w how) k h) (ok : Ok β st ρ L) (hd : dIn ops D i = true)
    (hn : ∀ β' st' ρ' L' h', Tr β st β' st' → Ok β' st' ρ' L' → Agree D ρ ρ' → k st' h' → Goal P ops next (adv w i) ρ' L' h') : Goal P ops next w ρ L h := by
  unfold opS at x
  cases hi : ops.toList[i]? with
  | none => rw [hi] at x; exact x.elim
  | some o =>
    rw [hi] at x
    simp only at x
    have hd : dstIn D o = true := by unfold dIn at hd; rw [hi] at hd; exact hd
    cases hw : wantS ops st o with
    | none => rw [hw] at x; exact x.elim
    | some bw =>
    rw [hw] at x
    cases bw with
    | true =>
      simp only at x
      have hw := want_ok ok hw
      have eo := effOf_ok (P := P) (X := X) ok o
      generalize effOf P X st o = e at x eo
      cases w with
      | seq l =>
        cases l with
        | nil => cases hm
        | cons j r =>
          have : i = j := by rwa [may, Nat.beq_eq] at hm
          subst this
          exact sg hi hw (run_step ok eo x fun β' st' ρ' L' h' t o' a kk => hn β' st' ρ' L' h' t o' (agree_of hd a) kk)
      | any listed fuel =>
        cases fuel with
        | zero => cases hm
        | succ f =>
          match how, hm, x with
          | 3, hm, x =>
            have hr : Region.ready .any ops listed = [i] := eq_of_beq hm
            exact t1 i hi hr hw (run_step ok eo x fun β' st' ρ' L' h' t o' a kk => hn β' st' ρ' L' h' t o' (agree_of hd a) kk)
          | 0, hm, x =>
            simp only [may, Bool.and_eq_true] at hm
            obtain ⟨v, st', y, t, o', kk⟩ := run_y ok eo x
            exact tyy i _ v hi rfl hm.1.1.2 hm.1.2 hm.2 hw y (hn β st' _ L h t o' (agree_of hd fun t ht => put_other _ _ _ _ ht) kk)
          | 1, hm, x =>
            simp only [may, Bool.and_eq_true] at hm
            obtain ⟨v, st', y, t, o', kk⟩ := run_r ok eo x
            exact trr i _ v hi rfl hm.1.1.2 hm.1.2 hm.2 hw y (hn β st' _ L h t o' (agree_of hd fun t ht => put_other _ _ _ _ ht) kk)
          | 2, hm, x =>
            simp only [may, Bool.and_eq_true] at hm
            exact tq i hi hm.1.1.2 hm.1.2 hm.2 hw (run_step ok eo x fun β' st' ρ' L' h' t o' a kk => hn β' st' ρ' L' h' t o' (agree_of hd a) kk)
          | n + 4, hm, x =>
            simp only [may, Bool.and_eq_true] at hm
            have := Nat.le_of_ble_eq_true hm.1.1.1
            omega
      | part listed fuel c => cases hm
    | false =>
      simp only at x
      have hw := want_ok ok hw
      have ok' : Ok β (st.put o.dst (.v undef)) (put ρ o.dst undef) L := ok.put (v := undef) (s := .v undef) rfl _
      have ag : Agree D ρ (put ρ o.dst undef) := agree_of hd fun t ht => put_other _ _ _ _ ht
      have fin : k (st.put o.dst (.v undef)) h := by
        revert x
        generalize how' w how = q
        intro x
        match q, x with
        | 0, x => exact x
        | 1, x => exact x.elim
        | 2, x => exact x.elim
        | 3, x => exact x
        | n + 4, x => exact x.elim
      have g := hn β _ _ L h (.put ..) ok' ag fin
      cases w with
      | seq l =>
        cases l with
        | nil => cases hm
        | cons j r =>
          have : i = j := by rwa [may, Nat.beq_eq] at hm
          subst this
          exact sn hi hw g
      | any listed fuel =>
        cases fuel with
        | zero => cases hm
        | succ f =>
          match how, hm, x with
          | 3, hm, x =>
            have hr : Region.ready .any ops listed = [i] := eq_of_beq hm
            exact t1n hi hr hw g
          | 0, hm, x =>
            simp only [may, Bool.and_eq_true] at hm
            exact tnn i _ hi rfl hm.1.1.2 hm.1.2 hm.2 hw g
          | 1, hm, x => exact x.elim
          | 2, hm, x => exact x.elim
          | n + 4, hm, x => exact x.elim
      | part listed fuel c => cases hm
/-- One that is ready, the walk of which is told. -/
theorem one_goal {D : Nat → Bool} {f i : Nat} {listed : Array Bool} {k : St → HP} {h : H} (ok : Ok β st ρ L) (x : opS X ops st i 3 k h) (hd : dIn ops D i = true) (hn : ∀ β' st' ρ' L' h', Tr β st β' st' → Ok β' st' ρ' L' → Agree D ρ ρ' → k st' h' → bAny P ops next noP f (listed.setIfInBounds i true) ρ' L' h') (bd : Bdd (un L h)) (ap : Apart L h) :
    aOpI P ops noP i (aAny P ops next noP f (listed.setIfInBounds i true)) ρ L h := by
  unfold opS at x
  cases hi : ops.toList[i]? with
  | none => rw [hi] at x; exact x.elim
  | some o =>
    rw [hi] at x
    simp only at x
    have hd : dstIn D o = true := by unfold dIn at hd; rw [hi] at hd; exact hd
    have hi' := at_list hi
    unfold aOpI
    simp only [hi']
    cases hw : wantS ops st o with
    | none => rw [hw] at x; exact x.elim
    | some bw =>
    rw [hw] at x
    cases bw with
    | true =>
      simp only at x
      have hw := want_ok ok hw
      have eo := effOf_ok (P := P) (X := X) ok o
      generalize effOf P X st o = e at x eo
      rw [if_pos hw]
      exact aOp_inv bd ap (run_step (next := bAny P ops next noP f (listed.setIfInBounds i true)) ok eo x fun β' st' ρ' L' h' t o' a kk => hn β' st' ρ' L' h' t o' (agree_of hd a) kk)
    | false =>
      simp only at x
      have hw := want_ok ok hw
      rw [if_neg (by rw [hw]; exact Bool.false_ne_true)]
      exact hn β _ _ L h (.put ..) (ok.put (v := undef) (s := .v undef) rfl _) (agree_of hd fun t ht => put_other _ _ _ _ ht) x bd ap
/-- Two that are ready. -/
theorem both_goal {D : Nat → Bool} {w : Wh} {i j : Nat} {k1 k2 : St → HP} {h : H} (hm : may2 ops w i j = true) (x1 : opS X ops st i 3 k1 h) (x2 : opS X ops st j 3 k2 h) (ok : Ok β st ρ L) (hd1 : dIn ops D i = true) (hd2 : dIn ops D j = true)
    (hn1 : ∀ β' st' ρ' L' h', Tr β st β' st' → Ok β' st' ρ' L' → Agree D ρ ρ' → k1 st' h' → Goal P ops next (adv w i) ρ' L' h')
    (hn2 : ∀ β' st' ρ' L' h', Tr β st β' st' → Ok β' st' ρ' L' → Agree D ρ ρ' → k2 st' h' → Goal P ops next (adv w j) ρ' L' h') : Goal P ops next w ρ L h := by
  cases w with
  | seq l => cases hm
  | any listed fuel =>
    cases fuel with
    | zero => cases hm
    | succ f =>
      have hr : Region.ready .any ops listed = [i, j] := eq_of_beq hm
      refine fun bd ap => ⟨fun h0 => (by rw [hr] at h0; cases h0), ?_⟩
      rw [hr]
      intro q hq
      rcases List.mem_cons.1 hq with rfl | hq
      · exact one_goal ok x1 hd1 hn1 bd ap
      · rw [List.mem_singleton] at hq
        subst hq
        exact one_goal ok x2 hd2 hn2 bd ap
  | part listed f c =>
    have hr : (Region.ready .any ops listed).filter (fun x => !memB c x) = [i, j] := eq_of_beq hm
    intro bd ap q hq hc
    have hq : q ∈ (Region.ready .any ops listed).filter (fun x => !memB c x) := List.mem_filter.2 ⟨hq, by rw [hc]; rfl⟩
    rw [hr] at hq
    rcases List.mem_cons.1 hq with rfl | hq
    · exact one_goal ok x1 hd1 hn1 bd ap
    · rw [List.mem_singleton] at hq
      subst hq
      exact one_goal ok x2 hd2 hn2 bd ap
/-- One that is ready, and the others. -/
theorem alt_goal {D : Nat → Bool} {w : Wh} {i : Nat} {k1 : St → HP} {h : H} (hm : mayA ops w = true) (x1 : opS X ops st i 3 k1 h) (ok : Ok β st ρ L) (hd1 : dIn ops D i = true)
    (hn1 : ∀ β' st' ρ' L' h', Tr β st β' st' → Ok β' st' ρ' L' → Agree D ρ ρ' → k1 st' h' → Goal P ops next (adv w i) ρ' L' h') (g : Goal P ops next (skip w i) ρ L h) : Goal P ops next w ρ L h := by
  cases w with
  | seq l => cases hm
  | any listed fuel =>
    cases fuel with
    | zero => cases hm
    | succ f =>
      have hr : (!(Region.ready .any ops listed).isEmpty) = true := hm
      refine fun bd ap => ⟨fun h0 => (by rw [h0] at hr; cases hr), fun q hq => ?_⟩
      by_cases e : q = i
      · subst e; exact one_goal ok x1 hd1 hn1 bd ap
      · exact g bd ap q hq (by simp only [memB, List.any_cons, List.any_nil, Bool.or_false]; exact Bool.eq_false_iff.2 fun z => e (by rw [Nat.beq_eq] at z; exact z))
  | part listed f c =>
    intro bd ap q hq hc
    by_cases e : q = i
    · subst e; exact one_goal ok x1 hd1 hn1 bd ap
    · refine g bd ap q hq ?_
      simp only [memB, List.any_cons] at hc ⊢
      rw [hc, Bool.or_false]
      exact Bool.eq_false_iff.2 fun z => e (by rw [Nat.beq_eq] at z; exact z)
end steps
end Go.Proofs.Ytiajjcboddaenaa.K
namespace Go.Proofs.Ytiajjcboddaenaa.K
open Go

def Same (s s' : SV) : Prop := ∃ v, s.is v ∧ s'.is v
theorem is_eq {s : SV} {v x : Value} {l : List Bx} {β : Nat → Nat} (h : s.is v) (r : Rel l β x s) : x = v := by
  cases s <;> first | (exact r.trans (Eq.symm h)) | exact h.elim
inductive SameL : List SV → List SV → Prop
  | nil : SameL [] []
  | cons {a b : SV} {l m : List SV} : Same a b → SameL l m → SameL (a :: l) (b :: m)
theorem decs_same : ∀ {A : List Ty} {l : List SV} {a : Den A}, decs A l = some a → SameL l (svsD A a) := by
  have one : ∀ {τ : Ty} {s : SV} {a : τ.T}, τ.dec s = some a → Same s (τ.sv a) := fun {τ s a} e => ⟨_, τ.law _ _ e, τ.svl a⟩
  intro A
  induction A with
  | nil =>
    intro l a e
    cases l with
    | nil => exact .nil
    | cons => cases e
  | cons t r ih =>
    intro l a e
    cases r with
    | nil =>
      match l, e with
      | [x], e => exact .cons (one e) .nil
      | x :: y :: r, e => cases e
    | cons u r =>
      match l, e with
      | x :: xs, e =>
        have e : (match t.dec x, decs (u :: r) xs with | some p, some q => some (p, q) | _, _ => none) = some a := e
        split at e
        · rename_i p q h1 h2
          cases e
          exact .cons (one h1) (ih h2)
        · cases e
theorem slotI_ok {st' : St} : ∀ {its : List It} {ss : List SV}, SameL (getI st' its) ss → ∀ (t : T) (u : Nat), (slotI its ss t).get u = .no ∨ Same (st'.σ u) ((slotI its ss t).get u) ∨ (slotI its ss t).get u = t.get u := by
  intro its
  induction its with
  | nil => intro ss _ t u; cases ss <;> exact .inr (.inr rfl)
  | cons i r ih =>
    intro ss h t u
    cases i with
    | slot a τ =>
      match ss, h with
      | s :: ss, .cons h1 h2 =>
        show (slotI r ss (T.set deep t a s)).get u = _ ∨ Same _ ((slotI r ss (T.set deep t a s)).get u) ∨ (slotI r ss (T.set deep t a s)).get u = t.get u
        rcases ih h2 (T.set deep t a s) u with q | q | q
        · exact .inl q
        · exact .inr (.inl q)
        · rw [q]
          rcases T.get_set deep t a s u with g | ⟨rfl, g⟩ | ⟨_, g⟩
          · exact .inl g
          · rw [g]; exact .inr (.inl h1)
          · exact .inr (.inr g)
    | cell a b τ =>
      match ss, h with
      | s :: ss, .cons _ h2 => exact ih h2 t u
theorem cellI_ok {st' : St} : ∀ {its : List It} {ss : List SV}, SameL (getI st' its) ss → ∀ {i j : Nat} {v : Value}, cellI its ss i j = some v → ∃ e, findB st'.bx i = some e ∧ e.cells[j]? = some (some v) := by
  intro its
  induction its with
  | nil => intro ss _ i j v h; cases ss <;> cases h
  | cons x r ih =>
    intro ss h i j v hv
    cases x with
    | slot t τ =>
      match ss, h with
      | s :: ss, .cons _ h2 => exact ih h2 hv
    | cell a b τ =>
      match ss, h with
      | s :: ss, .cons h1 h2 =>
        replace hv : (bif Nat.beq i a && Nat.beq j b then valOf? s else cellI r ss i j) = some v := hv
        cases hb : Nat.beq i a && Nat.beq j b <;> rw [hb] at hv
        · exact ih h2 hv
        · rw [Bool.and_eq_true, Nat.beq_eq, Nat.beq_eq] at hb
          obtain ⟨rfl, rfl⟩ := hb
          obtain ⟨w, a1, a2⟩ := h1
          have hw : v = w := by
            replace hv : valOf? s = some v := hv
            cases s <;> first | (cases hv; exact (Eq.symm a2)) | cases hv
          subst hw
          revert a1
          cases hf : findB st'.bx i with
          | none => exact fun a1 => a1.elim
          | some e =>
            simp only
            intro a1
            refine ⟨e, rfl, ?_⟩
            revert a1
            cases hc : e.cells[j]? with
            | none => exact fun a1 => a1.elim
            | some o => cases o with
              | none => exact fun a1 => a1.elim
              | some w => intro a1; have a1 : v = w := a1; rw [a1]
theorem encB_keys (its : List It) (M : List Nat) (ss : List SV) : ∀ l, (encB its M ss l).map Bx.key = l.map Bx.key := by
  intro l
  induction l with
  | nil => rfl
  | cons e r ih =>
    simp only [encB, List.map_cons, ih]
    cases memB M e.key <;> rfl
theorem encB_mem {its : List It} {M : List Nat} {ss : List SV} : ∀ {l : List Bx} {x : Bx}, x ∈ encB its M ss l → ∃ e, e ∈ l ∧ x = (match memB M e.key with | true => freshB its ss e true | false => e) := by
  intro l
  induction l with
  | nil => intro x h; cases h
  | cons e r ih =>
    intro x h
    rcases List.mem_cons.1 h with rfl | h
    · exact ⟨e, List.mem_cons_self .., rfl⟩
    · obtain ⟨e', h1, h2⟩ := ih h
      exact ⟨e', List.mem_cons_of_mem _ h1, h2⟩
theorem encB_has {its : List It} {M : List Nat} {ss : List SV} : ∀ {l : List Bx} {e : Bx}, e ∈ l → (match memB M e.key with | true => freshB its ss e true | false => e) ∈ encB its M ss l := by
  intro l
  induction l with
  | nil => intro x h; cases h
  | cons y r ih =>
    intro e h
    rcases List.mem_cons.1 h with rfl | h
    · exact List.mem_cons_self ..
    · exact List.mem_cons_of_mem _ (ih h)
theorem clean_keys : ∀ l, (clean l).map Bx.key = l.map Bx.key := by
  intro l
  induction l with
  | nil => rfl
  | cons e r ih => simp only [clean, List.map_cons, ih]
theorem clean_mem : ∀ {l : List Bx} {x : Bx}, x ∈ clean l → ∃ e, e ∈ l ∧ x = ⟨e.key, e.ty, e.cells, false⟩ := by
  intro l
  induction l with
  | nil => intro x h; cases h
  | cons e r ih =>
    intro x h
    rcases List.mem_cons.1 h with rfl | h
    · exact ⟨e, List.mem_cons_self .., rfl⟩
    · obtain ⟨e', h1, h2⟩ := ih h
      exact ⟨e', List.mem_cons_of_mem _ h1, h2⟩
theorem clean_has : ∀ {l : List Bx} {e : Bx}, e ∈ l → (⟨e.key, e.ty, e.cells, false⟩ : Bx) ∈ clean l := by
  intro l
  induction l with
  | nil => intro x h; cases h
  | cons y r ih =>
    intro e h
    rcases List.mem_cons.1 h with rfl | h
    · exact List.mem_cons_self ..
    · exact List.mem_cons_of_mem _ (ih h)
theorem backB_keys (l : List Bx) : ∀ m, (backB l m).map Bx.key = m.map Bx.key := by
  intro m
  induction m with
  | nil => rfl
  | cons e r ih => simp only [backB, List.map_cons, ih]
theorem backB_mem {l : List Bx} : ∀ {m : List Bx} {x : Bx}, x ∈ backB l m → ∃ e, e ∈ m ∧ x.key = e.key ∧ x.ty = e.ty ∧ x.cells = e.cells := by
  intro m
  induction m with
  | nil => intro x h; cases h
  | cons e r ih =>
    intro x h
    rcases List.mem_cons.1 h with rfl | h
    · exact ⟨e, List.mem_cons_self .., rfl, rfl, rfl⟩
    · obtain ⟨e', h1, h2⟩ := ih h
      exact ⟨e', List.mem_cons_of_mem _ h1, h2⟩
theorem backB_has {l : List Bx} : ∀ {m : List Bx} {e : Bx}, e ∈ m → ∃ x, x ∈ backB l m ∧ x.key = e.key ∧ x.ty = e.ty ∧ x.cells = e.cells ∧ (x.dirty = false → e.dirty = false ∧ ∀ y, findB l e.key = some y → y.dirty = false) := by
  intro m
  induction m with
  | nil => intro x h; cases h
  | cons y r ih =>
    intro e h
    rcases List.mem_cons.1 h with rfl | h
    · refine ⟨_, List.mem_cons_self .., rfl, rfl, rfl, fun d => ?_⟩
      rw [Bool.or_eq_false_iff] at d
      refine ⟨d.1, fun y hy => ?_⟩
      have := d.2
      rw [hy] at this
      exact this
    · obtain ⟨x, h1, h2⟩ := ih h
      exact ⟨x, List.mem_cons_of_mem _ h1, h2⟩
theorem stayed_spec {M : List Nat} {l' : List Bx} : ∀ {l : List Bx}, stayed M l' l = true → ∀ e, e ∈ l → memB M e.key = true ∨ ∃ x, findB l' e.key = some x ∧ x.dirty = false := by
  intro l
  induction l with
  | nil => intro _ e h; cases h
  | cons y r ih =>
    intro h e he
    simp only [stayed, Bool.and_eq_true, Bool.or_eq_true] at h
    rcases List.mem_cons.1 he with rfl | he
    · refine h.1.imp id fun q => ?_
      cases hf : findB l' e.key with
      | none => rw [hf] at q; cases q
      | some x => rw [hf] at q; exact ⟨x, rfl, by simpa using q⟩
    · exact ih h.2 e he

section meets
variable {β : Nat → Nat} {st : St} {ρ : Env} {L : H}
/-- Only the marks differ. -/
theorem Ok.marks {bx' : List Bx} (k : Ok β st ρ L) (hk : bx'.map Bx.key = st.bx.map Bx.key) (hm : ∀ x, x ∈ bx' → ∃ e, e ∈ st.bx ∧ x.key = e.key ∧ x.ty = e.ty ∧ x.cells = e.cells) : Ok β ⟨st.tr, bx'⟩ ρ L := by
  have ik : ∀ i, InK bx' i ↔ InK st.bx i := fun i => ink_keys hk
  refine ⟨fun t => ?_, fun x hx => ?_, fun i j hi hj => k.inj i j ((ik i).1 hi) ((ik j).1 hj), by show (bx'.map Bx.key).Nodup; rw [hk]; exact k.nd⟩
  · have := k.slots t
    revert this
    show Rel st.bx β (ρ t) (st.σ t) → Rel bx' β (ρ t) (st.σ t)
    cases st.σ t with
    | box j off => exact fun q m => q ((ik j).1 m)
    | lit j n => exact fun q m => q ((ik j).1 m)
    | _ => exact id
  · obtain ⟨e, he, h1, h2, h3⟩ := hm x hx
    obtain ⟨c, hc, kn⟩ := k.boxes e he
    exact ⟨c, by rw [h1, h2]; exact hc, by rw [h3]; exact kn⟩
theorem Ok.inS (k : Ok β st ρ L) : Ok β (K.inS st) ρ L := k.marks (clean_keys _) fun x hx => by
  obtain ⟨e, he, rfl⟩ := clean_mem hx
  exact ⟨e, he, rfl, rfl, rfl⟩
theorem Ok.backS {st0 : St} (k : Ok β st ρ L) : Ok β (K.backS st0 st) ρ L := k.marks (backB_keys _ _) fun _ hx => backB_mem hx
theorem ink_clean {l : List Bx} {i : Nat} : InK (clean l) i ↔ InK l i := ink_keys (clean_keys l)
theorem Tr.back {β' : Nat → Nat} {st' : St} (nd : (st.bx.map Bx.key).Nodup) (t : Tr β (K.inS st) β' st') : Tr β st β' (K.backS st st') := ⟨fun i h => t.agree i (ink_clean.2 h), fun e he => by
  obtain ⟨e', h1, h2, h3, h4, h5⟩ := t.has _ (clean_has he)
  obtain ⟨x, g1, g2, g3, g4, g5⟩ := backB_has (l := st.bx) h1
  refine ⟨x, g1, g2.trans h2, g3.trans h3, by rw [g4]; exact h4, fun d => ?_⟩
  obtain ⟨d1, d2⟩ := g5 d
  have h2 : e'.key = e.key := h2
  exact ⟨d2 e (by rw [h2]; exact findB_mem nd he), g4.trans (h5 d1).2⟩⟩
/-- Where ways meet, the state is as it is told behind. -/
theorem meet_ok {β' : Nat → Nat} {st' : St} {ρ' : Env} {L' : H} {its : List It} {D : Nat → Bool} {M : List Nat} {s : DenI its} (ok : Ok β st ρ L) (ok' : Ok β' st' ρ' L') (ag : ∀ i, InK st.bx i → β' i = β i)
    (has : ∀ e, e ∈ st.bx → ∃ e', e' ∈ st'.bx ∧ e'.key = e.key ∧ e'.ty = e.ty ∧ e'.cells.length = e.cells.length ∧ (e'.dirty = false → e'.cells = e.cells)) (agD : Agree D ρ ρ')
    (hs : decs (tysI its) (getI st' its) = some s) (hst : stayed M st'.bx st.bx = true) : Ok β' (encS its D M s st) ρ' L' ∧ Tr β st β' (encS its D M s st) := by
  have sm := decs_same hs
  have ik : ∀ i, InK (encB its M (svsD (tysI its) s) st.bx) i ↔ InK st.bx i := fun i => ink_keys (encB_keys _ _ _ _)
  have ik' : ∀ i, InK st.bx i → InK st'.bx i := fun i ⟨e, he, hk⟩ => by
    obtain ⟨e', h1, h2, _⟩ := has e he
    exact ⟨e', h1, h2.trans hk⟩
  refine ⟨⟨fun u => ?_, fun x hx => ?_, fun i j hi hj => ok'.inj i j (ik' i ((ik i).1 hi)) (ik' j ((ik j).1 hj)), by show ((encB _ _ _ _).map Bx.key).Nodup; rw [encB_keys]; exact ok.nd⟩, ⟨ag, fun e he => ?_⟩⟩
  · show Rel (encB _ _ _ _) β' (ρ' u) ((slotI its (svsD (tysI its) s) (st.tr.keep D)).get u)
    rcases slotI_ok sm (st.tr.keep D) u with q | ⟨v, q1, q2⟩ | q
    · rw [q]; trivial
    · have : ρ' u = v := is_eq q1 (ok'.slots u)
      rw [this]; exact q2.rel _ _
    · rw [q, T.get_keep]
      cases hD : D u with
      | true => rw [if_pos rfl]; trivial
      | false =>
        rw [if_neg Bool.false_ne_true, agD u hD]
        have := ok.slots u
        revert this
        show Rel st.bx β (ρ u) (st.σ u) → Rel _ β' (ρ u) (st.σ u)
        cases st.σ u with
        | box j off => intro q m; rw [ag j ((ik j).1 m)]; exact q ((ik j).1 m)
        | lit j n => intro q m; rw [ag j ((ik j).1 m)]; exact q ((ik j).1 m)
        | _ => exact id
  · obtain ⟨e, he, rfl⟩ := encB_mem hx
    obtain ⟨e', h1, h2, h3, h4, h5⟩ := has e he
    obtain ⟨c, hc, kn⟩ := ok'.boxes e' h1
    cases hM : memB M e.key with
    | true =>
      refine ⟨c, by show L' (β' e.key) = some (.cells c e.ty (0, 0)); rw [← h2, ← h3]; exact hc, ?_, fun j v hj => ?_⟩
      · show c.size = ((List.range e.cells.length).map _).length
        rw [List.length_map, List.length_range, ← h4]; exact kn.1
      · replace hj : ((List.range e.cells.length).map fun j => cellI its (svsD (tysI its) s) e.key j)[j]? = some (some v) := hj
        rw [List.getElem?_map] at hj
        cases hr : (List.range e.cells.length)[j]? with
        | none => rw [hr] at hj; cases hj
        | some q =>
          rw [hr] at hj
          have hq : q = j := by
            rw [List.getElem?_range] at hr
            · exact (Option.some.inj hr).symm
            · have := lt_of_get hr
              simpa using this
          subst hq
          replace hj : some (cellI its (svsD (tysI its) s) e.key q) = some (some v) := hj
          obtain ⟨e2, f1, f2⟩ := cellI_ok sm (Option.some.inj hj)
          obtain ⟨f3, f4⟩ := findB_some f1
          have : e2 = e' := key_uniq ok'.nd f3 h1 (f4.trans h2.symm)
          subst this
          exact kn.2 _ _ f2
    | false =>
      show BoxOk β' L' e
      rcases stayed_spec hst e he with q | ⟨x, q1, q2⟩
      · rw [hM] at q; cases q
      · obtain ⟨f3, f4⟩ := findB_some q1
        have : x = e' := key_uniq ok'.nd f3 h1 (f4.trans h2.symm)
        subst this
        refine ⟨c, by rw [← h2, ← h3]; exact hc, by rw [← h5 q2]; exact kn⟩
  · refine ⟨_, encB_has he, ?_⟩
    cases hM : memB M e.key with
    | true => exact ⟨rfl, rfl, by show ((List.range e.cells.length).map _).length = _; rw [List.length_map, List.length_range], fun d => by cases d⟩
    | false => exact ⟨rfl, rfl, rfl, fun d => ⟨d, rfl⟩⟩
theorem Tr.cleaned {β' : Nat → Nat} {st' : St} (t : Tr β (K.inS st) β' st') : ∀ e, e ∈ st.bx → ∃ e', e' ∈ st'.bx ∧ e'.key = e.key ∧ e'.ty = e.ty ∧ e'.cells.length = e.cells.length ∧ (e'.dirty = false → e'.cells = e.cells) := fun e he => by
  obtain ⟨e', h1, h2, h3, h4, h5⟩ := t.has _ (clean_has he)
  exact ⟨e', h1, h2, h3, h4, fun d => (h5 d).2⟩
theorem Tr.cleaned' {β' : Nat → Nat} {st' : St} (t : Tr β st β' st') : ∀ e, e ∈ st.bx → ∃ e', e' ∈ st'.bx ∧ e'.key = e.key ∧ e'.ty = e.ty ∧ e'.cells.length = e.cells.length ∧ (e'.dirty = false → e'.cells = e.cells) := fun e he => by
  obtain ⟨e', h1, h2, h3, h4, h5⟩ := t.has _ he
  exact ⟨e', h1, h2, h3, h4, fun d => (h5 d).2⟩
theorem stayed_clean (M : List Nat) (nd : (st.bx.map Bx.key).Nodup) : stayed M (clean st.bx) (clean st.bx) = true := by
  have nd' : ((clean st.bx).map Bx.key).Nodup := by rw [clean_keys]; exact nd
  have key : ∀ l, (∀ e, e ∈ l → e ∈ clean st.bx) → stayed M (clean st.bx) l = true := by
    intro l
    induction l with
    | nil => intro _; rfl
    | cons e r ih =>
      intro h
      have he := h e (List.mem_cons_self ..)
      have h1 := findB_mem nd' he
      obtain ⟨x, _, hx⟩ := clean_mem he
      have hd : e.dirty = false := by rw [hx]
      simp only [stayed, h1, hd, ih fun e he => h e (List.mem_cons_of_mem _ he)]
      simp
  exact key _ fun e he => he
end meets

theorem tr_bx {β β' : Nat → Nat} {st : St} {σ' : T} (ag : ∀ i, InK st.bx i → β' i = β i) : Tr β st β' ⟨σ', st.bx⟩ := ⟨ag, fun e he => ⟨e, he, rfl, rfl, rfl, fun d => ⟨d, rfl⟩⟩⟩
theorem meet_elim {its : List It} {M : List Nat} {l : List Bx} {j : DenI its → HP} {st' : St} {h : H} (x : meet its M l j st' h) : ∃ s, decs (tysI its) (getI st' its) = some s ∧ stayed M st'.bx l = true ∧ j s h := by
  unfold meet at x
  cases h1 : decs (tysI its) (getI st' its) with
  | none => rw [h1] at x; exact x.elim
  | some s =>
    rw [h1] at x
    cases h2 : stayed M st'.bx l with
    | false => rw [h2] at x; exact x.elim
    | true => rw [h2] at x; exact ⟨s, rfl, rfl, x⟩
section plans
variable {P : Program} {X : Cx P} {ops : Array Oper} {next : Post}
theorem same_eq {a b : Wh} (h : a.same b = true) : a = b := by
  unfold Wh.same at h
  split at h
  · rw [Bool.and_eq_true] at h; rw [eq_of_beq h.2]
  · rw [Bool.and_eq_true, Nat.beq_eq] at h
    rw [h.1, Array.toList_inj.1 (eq_of_beq h.2)]
  · cases h
theorem dstIn_and {D D' : Nat → Bool} {o : Oper} (h : dstIn D o = true) (h' : dstIn D' o = true) : dstIn (fun t => D t && D' t) o = true := by
  unfold dstIn at *
  split <;> rename_i hd
  · rw [hd] at h h'; simp only at h h' ⊢; rw [h, h']; rfl
  · rfl
theorem dIn_and {D D' : Nat → Bool} {i : Nat} (h : dIn ops D i = true) (h' : dIn ops D' i = true) : dIn ops (fun t => D t && D' t) i = true := by
  unfold dIn at *
  split <;> rename_i hd
  · rw [hd] at h h'; exact dstIn_and h h'
  · rfl
theorem inD_and {D D' : Nat → Bool} : ∀ {p : Plan}, inD ops D p = true → inD ops D' p = true → inD ops (fun t => D t && D' t) p = true := by
  intro p
  induction p with
  | nil => exact fun _ _ => rfl
  | run l p ih =>
    intro h h'
    simp only [inD, Bool.and_eq_true, List.all_eq_true] at h h' ⊢
    exact ⟨fun x hx => dIn_and (h.1 x hx) (h'.1 x hx), ih h.2 h'.2⟩
  | split g p q ihp ihq =>
    intro h h'
    simp only [inD, Bool.and_eq_true] at h h' ⊢
    exact ⟨ihp h.1 h'.1, ihq h.2 h'.2⟩
  | join its D M p q ihp ihq =>
    intro h h'
    simp only [inD, Bool.and_eq_true] at h h' ⊢
    exact ⟨ihp h.1 h'.1, ihq h.2 h'.2⟩
  | sel g d D p p' q ihp ihp' ihq =>
    intro h h'
    simp only [inD, Bool.and_eq_true] at h h' ⊢
    exact ⟨⟨ihp h.1.1 h'.1.1, ihp' h.1.2 h'.1.2⟩, ihq h.2 h'.2⟩
  | both i j p q ihp ihq =>
    intro h h'
    simp only [inD, Bool.and_eq_true] at h h' ⊢
    exact ⟨⟨⟨dIn_and h.1.1.1 h'.1.1.1, dIn_and h.1.1.2 h'.1.1.2⟩, ihp h.1.2 h'.1.2⟩, ihq h.2 h'.2⟩
  | alt i p q ihp ihq =>
    intro h h'
    simp only [inD, Bool.and_eq_true] at h h' ⊢
    exact ⟨⟨dIn_and h.1.1 h'.1.1, ihp h.1.2 h'.1.2⟩, ihq h.2 h'.2⟩
theorem wpL_sound {D : Nat → Bool} : ∀ (l : List Nat) {w : Wh} {st : St} {k : Wh → St → HP} {h : H} {β : Nat → Nat} {ρ : Env} {L : H}, wpL X ops l w st k h → Ok β st ρ L → (l.all fun n => dIn ops D (n / 4)) = true →
    (∀ w' st' β' ρ' L' h', Tr β st β' st' → Ok β' st' ρ' L' → Agree D ρ ρ' → k w' st' h' → Goal P ops next w' ρ' L' h') → Goal P ops next w ρ L h := by
  intro l
  induction l with
  | nil => exact fun x ok _ hn => hn _ _ _ _ _ _ (Tr.refl _ _) ok (Agree.refl _ _) x
  | cons n r ih =>
    intro w st k h β ρ L x ok hd hn
    rw [List.all_cons, Bool.and_eq_true] at hd
    simp only [wpL] at x
    cases hm : may P ops w (n / 4) (n % 4) with
    | false => rw [hm] at x; exact x.elim
    | true =>
      rw [hm] at x
      exact opS_goal hm x ok hd.1 fun β' st' ρ' L' h' t ok' a kk => ih kk ok' hd.2 fun w2 st2 β2 ρ2 L2 h2 t2 ok2 a2 k2 => hn _ _ _ _ _ _ (t.trans t2) ok2 (a.trans a2) k2
theorem opP_opS {st st' : St} {i how : Nat} {k : St → HP} {h : H} (x : opP X ops st i how = some st') (kk : k st' h) : opS X ops st i how k h := by
  unfold opP at x
  unfold opS
  cases hi : ops.toList[i]? with
  | none => rw [hi] at x; cases x
  | some o =>
    rw [hi] at x
    simp only at x ⊢
    cases hw : wantS ops st o with
    | none => rw [hw] at x; cases x
    | some b =>
      rw [hw] at x
      cases b with
      | true =>
        simp only at x ⊢
        cases he : effOf P X st o with
        | ret s => rw [he] at x; cases x; exact kk
        | own s =>
          rw [he] at x
          match how, x with
          | 0, x => cases x
          | n + 1, x => cases x; exact kk
        | _ => rw [he] at x; cases x
      | false =>
        simp only at x ⊢
        match how, x with
        | 0, x => cases x; exact kk
        | 1, x => cases x
        | 2, x => cases x
        | 3, x => cases x; exact kk
        | n + 4, x => cases x
theorem opP_bx {st st' : St} {i how : Nat} (x : opP X ops st i how = some st') : st'.bx = st.bx := by
  unfold opP at x
  cases hi : ops.toList[i]? with
  | none => rw [hi] at x; cases x
  | some o =>
    rw [hi] at x
    simp only at x
    cases hw : wantS ops st o with
    | none => rw [hw] at x; cases x
    | some b =>
      rw [hw] at x
      cases b with
      | true =>
        simp only at x
        cases he : effOf P X st o with
        | ret s => rw [he] at x; cases x; exact put_bx ..
        | own s =>
          rw [he] at x
          match how, x with
          | 0, x => cases x
          | n + 1, x => cases x; exact put_bx ..
        | _ => rw [he] at x; cases x
      | false =>
        simp only at x
        match how, x with
        | 0, x => cases x; exact put_bx ..
        | 1, x => cases x
        | 2, x => cases x
        | 3, x => cases x; exact put_bx ..
        | n + 4, x => cases x
theorem prL_wpL : ∀ (l : List Nat) {w w' : Wh} {st st' : St} {k : Wh → St → HP} {h : H}, prL X ops l w st = some (w', st') → k w' st' h → wpL X ops l w st k h ∧ st'.bx = st.bx := by
  intro l
  induction l with
  | nil => intro w w' st st' k h x kk; cases x; exact ⟨kk, rfl⟩
  | cons n r ih =>
    intro w w' st st' k h x kk
    simp only [prL] at x
    simp only [wpL]
    cases hm : may P ops w (n / 4) (n % 4) with
    | false => rw [hm] at x; cases x
    | true =>
      rw [hm] at x
      simp only at x ⊢
      cases ho : opP X ops st (n / 4) (how' w (n % 4)) with
      | none => rw [ho] at x; cases x
      | some s1 =>
        rw [ho] at x
        obtain ⟨q1, q2⟩ := ih (k := k) x kk
        exact ⟨opP_opS ho q1, q2.trans (opP_bx ho)⟩
theorem selS_spec {g d : Nat} {D : Nat → Bool} {st st' : St} {a b : St → Option (Wh × St)} {w' : Wh} (h : selS g d D st a b = some (w', st')) :
    ∃ c s1 s2 x y, st.σ g = .v (.bool c) ∧ a (st.put (some g) (.v (.bool true))) = some (w', s1) ∧ b (st.put (some g) (.v (.bool false))) = some (w', s2) ∧ s1.σ d = .v (.bool x) ∧ s2.σ d = .v (.bool y) ∧
      st' = ⟨T.set deep (st.tr.keep D) d (.v (.bool (bif c then x else y))), st.bx⟩ := by
  unfold selS at h
  split at h
  · rename_i c hc
    split at h
    · rename_i w1 s1 w2 s2 h1 h2
      split at h
      · rename_i x y hs hx hy
        have := same_eq hs
        subst this
        cases h
        exact ⟨c, s1, s2, x, y, hc, h1, h2, hx, hy, rfl⟩
      · cases h
    · cases h
  · cases h
theorem pr_wpP : ∀ (p : Plan) {w w' : Wh} {st st' : St} {k : Wh → St → HP} {h : H}, pr X ops p w st = some (w', st') → k w' st' h → wpP X ops p w st k h ∧ st'.bx = st.bx := by
  intro p
  induction p with
  | nil => intro w w' st st' k h x kk; cases x; exact ⟨kk, rfl⟩
  | run l p ih =>
    intro w w' st st' k h x kk
    simp only [pr] at x
    split at x
    · rename_i w1 s1 h1
      obtain ⟨q1, q2⟩ := ih (k := k) x kk
      obtain ⟨r1, r2⟩ := prL_wpL (k := fun w' st' => wpP X ops p w' st' k) l h1 q1
      exact ⟨r1, q2.trans r2⟩
    · cases x
  | sel g d D p p' q ihp ihp' ihq =>
    intro w w' st st' k h x kk
    simp only [pr] at x
    simp only [wpP]
    cases hi : inD ops (Nat.testBit D) p && inD ops (Nat.testBit D) p' with
    | false => rw [hi] at x; cases x
    | true =>
      rw [hi] at x
      simp only at x ⊢
      cases hs : selS g d (Nat.testBit D) st (pr X ops p w) (pr X ops p' w) with
      | none => rw [hs] at x; cases x
      | some z =>
        obtain ⟨w1, s1⟩ := z
        rw [hs] at x
        obtain ⟨q1, q2⟩ := ihq (k := k) x kk
        refine ⟨q1, q2.trans ?_⟩
        obtain ⟨c, _, _, _, _, _, _, _, _, _, rfl⟩ := selS_spec hs
        rfl
  | _ => intro w w' st st' k h x kk; cases x
theorem lit_ok {β : Nat → Nat} {st : St} {ρ : Env} {L : H} {g : Nat} {c : Bool} (ok : Ok β st ρ L) (h : st.σ g = .v (.bool c)) : Ok β (st.put (some g) (.v (.bool c))) ρ L := by
  refine ⟨fun t => ?_, ok.boxes, ok.inj, ok.nd⟩
  show Rel st.bx β (ρ t) ((T.set deep st.tr g (.v (.bool c))).get t)
  rcases T.get_set deep st.tr g (.v (.bool c)) t with q | ⟨rfl, q⟩ | ⟨_, q⟩
  · rw [q]; trivial
  · rw [q]
    have := ok.slots t
    rw [h] at this; exact this
  · rw [q]; exact ok.slots t
theorem wpP_sound : ∀ (p : Plan) {D : Nat → Bool} {w : Wh} {st : St} {k : Wh → St → HP} {h : H} {β : Nat → Nat} {ρ : Env} {L : H}, inD ops D p = true → wpP X ops p w st k h → Ok β st ρ L →
    (∀ w' st' β' ρ' L' h', Tr β st β' st' → Ok β' st' ρ' L' → Agree D ρ ρ' → k w' st' h' → Goal P ops next w' ρ' L' h') → Goal P ops next w ρ L h := by
  intro p
  induction p with
  | nil => exact fun {D w st k h β ρ L} _ x ok hn => hn _ _ _ _ _ _ (Tr.refl _ _) ok (Agree.refl _ _) x
  | run l p ih =>
    intro D w st k h β ρ L hd x ok hn
    simp only [inD, Bool.and_eq_true] at hd
    exact wpL_sound l x ok hd.1 fun w' st' β' ρ' L' h' t ok' a kk => ih hd.2 kk ok' fun w2 st2 β2 ρ2 L2 h2 t2 ok2 a2 k2 => hn _ _ _ _ _ _ (t.trans t2) ok2 (a.trans a2) k2
  | split g p q ihp ihq =>
    intro D w st k h β ρ L hd x ok hn
    simp only [inD, Bool.and_eq_true] at hd
    simp only [wpP] at x
    cases hc : st.σ g with
    | v z =>
      cases z with
      | bool c =>
        rw [hc] at x
        cases c with
        | true => exact ihp hd.1 (x.1 rfl) (lit_ok ok hc) fun w2 st2 β2 ρ2 L2 h2 t2 ok2 a2 k2 => hn _ _ _ _ _ _ ((Tr.put β st _ _).trans t2) ok2 a2 k2
        | false => exact ihq hd.2 (x.2 rfl) (lit_ok ok hc) fun w2 st2 β2 ρ2 L2 h2 t2 ok2 a2 k2 => hn _ _ _ _ _ _ ((Tr.put β st _ _).trans t2) ok2 a2 k2
      | _ => rw [hc] at x; exact x.elim
    | _ => rw [hc] at x; exact x.elim
  | join its Dm M p q ihp ihq =>
    intro D w st k h β ρ L hd x ok hn
    simp only [inD, Bool.and_eq_true] at hd
    simp only [wpP] at x
    cases hi : inD ops (Nat.testBit Dm) p with
    | false => rw [hi] at x; exact x.elim
    | true =>
      rw [hi] at x
      refine ihp (inD_and hd.1 hi) x ok.inS fun w' st' β' ρ' L' h' t ok' a kk => ?_
      have a1 : Agree D ρ ρ' := fun t ht => a t (by show (D t && _) = false; rw [ht]; rfl)
      have a2 : Agree (Nat.testBit Dm) ρ ρ' := fun t ht => a t (by show (D t && Nat.testBit Dm t) = false; rw [ht, Bool.and_false])
      cases hs : w'.same (aft p w) with
      | false => rw [hs] at kk; exact kk.elim
      | true =>
        rw [hs] at kk
        have := same_eq hs
        subst this
        obtain ⟨s, h1, h2, kk⟩ := meet_elim kk
        · obtain ⟨m1, m2⟩ := meet_ok ok ok' (fun i hi => t.agree i (ink_clean.2 hi)) t.cleaned a2 h1 h2
          exact ihq hd.2 kk m1 fun w2 st2 β2 ρ2 L2 h2 t2 ok2 a3 k2 => hn _ _ _ _ _ _ (m2.trans t2) ok2 (a1.trans a3) k2
  | sel g d Dm p p' q ihp ihp' ihq =>
    intro D w st k h β ρ L hd x ok hn
    simp only [inD, Bool.and_eq_true] at hd
    simp only [wpP] at x
    cases hi : inD ops (Nat.testBit Dm) p && inD ops (Nat.testBit Dm) p' with
    | false => rw [hi] at x; exact x.elim
    | true =>
      rw [hi] at x
      rw [Bool.and_eq_true] at hi
      simp only at x
      cases hs : selS g d (Nat.testBit Dm) st (pr X ops p w) (pr X ops p' w) with
      | none => rw [hs] at x; exact x.elim
      | some z =>
        obtain ⟨w1, s1⟩ := z
        rw [hs] at x
        simp only at x
        obtain ⟨c, sa, sb, u, v, hc, ha, hb, hu, hv, rfl⟩ := selS_spec hs
        have fin : ∀ (b : Bool), c = b → ∀ (s' : St) (z : Bool), s'.bx = st.bx → s'.σ d = .v (.bool z) → z = (bif c then u else v) → ∀ (r : Plan), (∀ {D : Nat → Bool} {w : Wh} {st : St} {k : Wh → St → HP} {h : H} {β : Nat → Nat} {ρ : Env} {L : H}, inD ops D r = true → wpP X ops r w st k h → Ok β st ρ L →
            (∀ w' st' β' ρ' L' h', Tr β st β' st' → Ok β' st' ρ' L' → Agree D ρ ρ' → k w' st' h' → Goal P ops next w' ρ' L' h') → Goal P ops next w ρ L h) → inD ops D r = true → inD ops (Nat.testBit Dm) r = true →
            wpP X ops r w (st.put (some g) (.v (.bool b))) (fun w' st' h' => w' = w1 ∧ st' = s' ∧ h' = h) h → Goal P ops next w ρ L h := fun b hcb s' z hbx hz hze r ih hr1 hr2 hw => by
          subst hcb
          refine ih (inD_and hr1 hr2) hw (lit_ok ok hc) fun w' st' β' ρ' L' h' t ok' a kk => ?_
          obtain ⟨rfl, rfl, rfl⟩ := kk
          have a1 : Agree D ρ ρ' := fun t ht => a t (by show (D t && _) = false; rw [ht]; rfl)
          have a2 : Agree (Nat.testBit Dm) ρ ρ' := fun t ht => a t (by show (D t && Nat.testBit Dm t) = false; rw [ht, Bool.and_false])
          have tt : Tr β st β' st' := (Tr.put β st _ _).trans t
          have bx' : st'.bx = st.bx := hbx
          refine ihq hd.2 x (β := β') (ρ := ρ') (L := L') ⟨fun t => ?_, ?_, ?_, ?_⟩ fun w2 st2 β2 ρ2 L2 h2 t2 ok2 a3 k2 => hn _ _ _ _ _ _ ((tr_bx tt.agree).trans t2) ok2 (a1.trans a3) k2
          · show Rel st.bx β' (ρ' t) ((T.set deep (st.tr.keep (Nat.testBit Dm)) d (.v (.bool (bif c then u else v)))).get t)
            rcases T.get_set deep (st.tr.keep (Nat.testBit Dm)) d (.v (.bool (bif c then u else v))) t with q | ⟨rfl, q⟩ | ⟨_, q⟩
            · rw [q]; trivial
            · rw [q, ← hze]
              have := ok'.slots t
              rw [hz] at this
              exact this
            · rw [q, T.get_keep]
              cases hD : Nat.testBit Dm t with
              | true => rw [if_pos rfl]; trivial
              | false =>
                rw [if_neg Bool.false_ne_true, a2 t hD]
                have := ok.slots t
                revert this
                show Rel st.bx β (ρ t) (st.σ t) → Rel st.bx β' (ρ t) (st.σ t)
                cases st.σ t with
                | box j off => intro q m; rw [tt.agree j m]; exact q m
                | lit j n => intro q m; rw [tt.agree j m]; exact q m
                | _ => exact id
          · show ∀ e, e ∈ st.bx → _; rw [← bx']; exact ok'.boxes
          · show ∀ i j, InK st.bx i → InK st.bx j → _; rw [← bx']; exact ok'.inj
          · show (st.bx.map Bx.key).Nodup; exact ok.nd
        cases hcc : c with
        | true =>
          obtain ⟨q1, q2⟩ := pr_wpP p (k := fun w' st' h' => w' = w1 ∧ st' = sa ∧ h' = h) ha ⟨rfl, rfl, rfl⟩
          exact fin true hcc sa u q2 hu (by rw [hcc]; rfl) p ihp hd.1.1 hi.1 q1
        | false =>
          obtain ⟨q1, q2⟩ := pr_wpP p' (k := fun w' st' h' => w' = w1 ∧ st' = sb ∧ h' = h) hb ⟨rfl, rfl, rfl⟩
          exact fin false hcc sb v q2 hv (by rw [hcc]; rfl) p' ihp' hd.1.2 hi.2 q1
  | both i j p q ihp ihq =>
    intro D w st k h β ρ L hd x ok hn
    simp only [inD, Bool.and_eq_true] at hd
    simp only [wpP] at x
    cases hm : may2 ops w i j with
    | false => rw [hm] at x; exact x.elim
    | true =>
      rw [hm] at x
      exact both_goal hm x.1 x.2 ok hd.1.1.1 hd.1.1.2
        (fun β' st' ρ' L' h' t ok' a kk => ihp hd.1.2 kk ok' fun w2 st2 β2 ρ2 L2 h2 t2 ok2 a2 k2 => hn _ _ _ _ _ _ (t.trans t2) ok2 (a.trans a2) k2)
        (fun β' st' ρ' L' h' t ok' a kk => ihq hd.2 kk ok' fun w2 st2 β2 ρ2 L2 h2 t2 ok2 a2 k2 => hn _ _ _ _ _ _ (t.trans t2) ok2 (a.trans a2) k2)
  | alt i p q ihp ihq =>
    intro D w st k h β ρ L hd x ok hn
    simp only [inD, Bool.and_eq_true] at hd
    simp only [wpP] at x
    cases hm : mayA ops w with
    | false => rw [hm] at x; exact x.elim
    | true =>
      rw [hm] at x
      exact alt_goal hm x.1 ok hd.1.1
        (fun β' st' ρ' L' h' t ok' a kk => ihp hd.1.2 kk ok' fun w2 st2 β2 ρ2 L2 h2 t2 ok2 a2 k2 => hn _ _ _ _ _ _ (t.trans t2) ok2 (a.trans a2) k2)
        (ihq hd.2 x.2 ok hn)
theorem inD_all : ∀ (p : Plan), inD ops (fun _ => true) p = true := by
  have one : ∀ i, dIn ops (fun _ => true) i = true := fun i => by
    unfold dIn dstIn
    split
    · split <;> rfl
    · rfl
  intro p
  induction p with
  | nil => rfl
  | run l p ih => simp only [inD, ih, Bool.and_true, List.all_eq_true]; exact fun x _ => one _
  | split g p q ihp ihq => simp only [inD, ihp, ihq]; rfl
  | join its D M p q ihp ihq => simp only [inD, ihp, ihq]; rfl
  | sel g d D p p' q ihp ihp' ihq => simp only [inD, ihp, ihp', ihq]; rfl
  | both i j p q ihp ihq => simp only [inD, ihp, ihq, one]; rfl
  | alt i p q ihp ihq => simp only [inD, ihp, ihq, one]; rfl
end plans
end Go.Proofs.Ytiajjcboddaenaa.K
namespace Go.Proofs.Ytiajjcboddaenaa.K
open Go

theorem decs_v : ∀ {A : List Ty} {l : List Value} {a : Den A}, decs A (l.map SV.v) = some a → l = valsD A a := by
  have one : ∀ {τ : Ty} {v : Value} {a : τ.T}, τ.dec (.v v) = some a → v = τ.val a := fun {τ v a} e => (τ.law _ _ e).symm
  intro A
  induction A with
  | nil =>
    intro l a e
    cases l with
    | nil => rfl
    | cons => cases e
  | cons t r ih =>
    intro l a e
    cases r with
    | nil =>
      match l, e with
      | [x], e => show [x] = [t.val a]; rw [one e]
      | x :: y :: r, e => cases e
    | cons u r =>
      match l, e with
      | x :: xs, e =>
        have e : (match t.dec (.v x), decs (u :: r) (xs.map SV.v) with | some p, some q => some (p, q) | _, _ => none) = some a := e
        split at e
        · rename_i p q h1 h2
          cases e
          show x :: xs = t.val p :: valsD (u :: r) q
          rw [one h1, ← ih h2]
        · cases e
section code
variable {P : Program} {X : Cx P} {n : Nat}
def PostOf (β : Nat → Nat) (st : St) (Q : Exit → St → HP) : Exit → Post := fun e ρ' L' h' => ∃ β' st', Tr β st β' st' ∧ Ok β' st' ρ' L' ∧ Q e st' h'
theorem fin_goal {ops : Array Oper} {next : Post} {w : Wh} {ρ : Env} {L h : H} (hf : fin ops w = true) (k : next ρ L h) : Goal P ops next w ρ L h := by
  cases w with
  | seq l =>
    have : l = [] := List.isEmpty_iff.1 hf
    subst this; exact k
  | any listed f => exact td (List.isEmpty_iff.1 hf) k
  | part listed f c => cases hf
theorem setA_ok {β : Nat → Nat} {L : H} : ∀ {A : List Ty} (x : Den A) (ps : List Tmp) {st : St} {ρ : Env}, Ok β st ρ L → Ok β (setA ps (svsD A x) st) (putL ρ ps (valsD A x)) L := by
  intro A
  induction A with
  | nil => intro x ps st ρ k; cases ps <;> exact k
  | cons t r ih =>
    intro x ps st ρ k
    cases ps with
    | nil => cases r <;> exact k
    | cons p ps =>
      cases r with
      | nil => cases ps <;> exact k.put ((t.svl x).rel _ _) (some p)
      | cons u r => exact ih x.2 ps (k.put ((t.svl x.1).rel _ _) (some p))
theorem outX_ok {Q : Exit → HP} {R : Exit → Post} {ρ : Env} {L : H} (hQ : ∀ e h, Q e h → R e ρ L h) : ∀ (xs : List Nat) {id : Nat} {h : H}, outX Q (id + 2) xs h → R (.exit id) ρ L h := by
  intro xs
  induction xs with
  | nil => exact fun x => x.elim
  | cons a r ih =>
    intro id h x
    by_cases e : id = a
    · subst e; exact hQ _ _ (x.1 (Nat.beq_refl _))
    · exact ih (x.2 (by rw [← Bool.not_eq_true, Nat.beq_eq]; omega))
theorem outX_no {Q : Exit → HP} {j : Nat} (hj : j < 2) : ∀ (xs : List Nat) {h : H}, ¬ outX Q j xs h := by
  intro xs
  induction xs with
  | nil => exact fun x => x.elim
  | cons a r ih => exact fun x => ih (x.2 (by rw [← Bool.not_eq_true, Nat.beq_eq]; omega))
theorem outK_ok {Q : Exit → HP} {R : Exit → Post} {ρ : Env} {L : H} (hQ : ∀ e h, Q e h → R e ρ L h) {xs : List Nat} {rt : Bool} : ∀ (j : Nat) {h : H}, outK xs rt Q j h → jumpQ R j ρ L h
  | 0, _, x => hQ _ _ (x.1 rfl)
  | 1, _, x => by
    have x := x.2 rfl
    cases rt with
    | true => exact hQ _ _ (x.1 rfl)
    | false => exact (outX_no (by omega) _ x).elim
  | id + 2, _, x => by
    have x := x.2 rfl
    cases rt with
    | true => exact outX_ok hQ xs (x.2 rfl)
    | false => exact outX_ok hQ xs x
theorem valsD_len : ∀ {A : List Ty} (a : Den A), (valsD A a).length = A.length := by
  intro A
  induction A with
  | nil => intro a; rfl
  | cons t r ih =>
    intro a
    cases r with
    | nil => rfl
    | cons u r => show (valsD (u :: r) a.2).length + 1 = _; rw [ih]; rfl
theorem wpc_sound : ∀ (c : Code) {top : Bool} {hint : Hint} {Q : Exit → St → HP} {st : St} {h : H} {β : Nat → Nat} {ρ : Env} {L : H}, wpc X n c top hint Q st h → Ok β st ρ L → cwp P n noP c top (PostOf β st Q) ρ L h := by
  intro c
  induction c with
  | skip => exact fun x ok => ⟨_, _, .refl .., ok, x⟩
  | label l => exact fun x ok => ⟨_, _, .refl .., ok, x⟩
  | ret => exact fun x ok => ⟨_, _, .refl .., ok, x⟩
  | exit id => exact fun x ok => ⟨_, _, .refl .., ok, x⟩
  | region id ops dr =>
    intro top hint Q st h β ρ L x ok
    simp only [wpc] at x
    cases hf : fits n ops with
    | false => rw [hf] at x; exact x.elim
    | true =>
      rw [hf] at x
      have g := fun w0 (x : wpP X ops (hint.plan ops.size) w0 st (fun w st' => match fin ops w with | true => Q .normal st' | false => nope) h) =>
        wpP_sound (next := PostOf β st Q .normal) (hint.plan ops.size) (inD_all _) x ok fun w' st' β' ρ' L' h' t ok' _ kk => by
          cases hw : fin ops w' with
          | false => rw [hw] at kk; exact kk.elim
          | true => rw [hw] at kk; exact fin_goal hw ⟨β', st', t, ok', kk⟩
      cases dr with
      | false => exact ⟨hf, g _ x⟩
      | true => exact ⟨X.mixed, hf, g _ x⟩
  | block id a ih =>
    intro top hint Q st h β ρ L x ok
    simp only [wpc] at x
    refine cwp_mono a _ _ _ (fun e ρ' L' h' k => ?_) _ _ _ (ih x ok)
    obtain ⟨β', st', t, ok', q⟩ := k
    cases e with
    | exit id' =>
      simp only at q
      show (bif Nat.beq id' id then PostOf β st Q .normal else PostOf β st Q (.exit id')) ρ' L' h'
      cases hb : Nat.beq id' id <;> rw [hb] at q <;> exact ⟨β', st', t, ok', q⟩
    | _ => exact ⟨β', st', t, ok', q⟩
  | scope a ih =>
    intro top hint Q st h β ρ L x ok
    simp only [wpc] at x
    refine cwp_mono a _ _ _ (fun e ρ' L' h' k => ?_) _ _ _ (ih x ok)
    obtain ⟨β', st', t, ok', q⟩ := k
    cases e with
    | goto l => exact q.elim
    | _ => exact ⟨β', st', t, ok', q⟩
  | cond c a b iha ihb =>
    intro top hint Q st h β ρ L x ok
    simp only [wpc] at x
    cases hc : sv st c with
    | v z =>
      cases z with
      | bool t =>
        rw [hc] at x
        have hv := ok.v hc
        have dflt : ∀ ha hb, mIf t (wpc X n a top ha Q st) (wpc X n b top hb Q st) h → cwp P n noP (.cond c a b) top (PostOf β st Q) ρ L h := fun ha hb x =>
          ⟨t, hv, fun e => iha (x.1 e) ok, fun e => ihb (x.2 e) ok⟩
        cases hint with
        | known ha hb =>
          simp only at x
          refine ⟨t, hv, fun e => ?_, fun e => ?_⟩
          · subst e; exact iha x ok
          · subst e; exact ihb x ok
        | _ => exact dflt _ _ x
      | _ => rw [hc] at x; exact x.elim
    | _ => rw [hc] at x; exact x.elim
  | seq a b iha ihb =>
    intro top hint Q st h β ρ L x ok
    have dflt : ∀ ha hb, wpc X n a top ha (fun e st' => match e with | .normal => wpc X n b top hb Q st' | e => Q e st') st h → cwp P n noP (.seq a b) top (PostOf β st Q) ρ L h := fun ha hb x => by
      refine cwp_mono a _ _ _ (fun e ρ' L' h' k => ?_) _ _ _ (iha x ok)
      obtain ⟨β', st', t, ok', q⟩ := k
      cases e with
      | normal =>
        refine drop.of (cwp_mono b _ _ _ (fun e ρ2 L2 h2 k => ?_) _ _ _ (ihb q ok'))
        obtain ⟨β2, st2, t2, ok2, q2⟩ := k
        exact ⟨β2, st2, t.trans t2, ok2, q2⟩
      | _ => exact ⟨β', st', t, ok', q⟩
    simp only [wpc] at x
    cases hint with
    | join its D M ha hb =>
      simp only at x
      cases hD : dstsIn (Nat.testBit D) a with
      | false => rw [hD] at x; exact x.elim
      | true =>
        rw [hD] at x
        refine cwp_mono a _ _ _ (fun e ρ' L' h' k => ?_) _ _ _ (cwp_agree a _ hD _ _ _ _ (iha x ok.inS))
        obtain ⟨ag, β', st', t, ok', q⟩ := k
        cases e with
        | normal =>
          obtain ⟨s, h1, h2, kk⟩ := meet_elim q
          obtain ⟨m1, m2⟩ := meet_ok ok ok' (fun i hi => t.agree i (ink_clean.2 hi)) t.cleaned ag h1 h2
          refine drop.of (cwp_mono b _ _ _ (fun e ρ2 L2 h2 k => ?_) _ _ _ (ihb kk m1))
          obtain ⟨β2, st2, t2, ok2, q2⟩ := k
          exact ⟨β2, st2, m2.trans t2, ok2, q2⟩
        | _ => exact ⟨β', _, t.back ok.nd, ok'.backS, q⟩
    | _ => exact dflt _ _ x
  | loop a ih =>
    intro top hint Q st h β ρ L x ok
    simp only [wpc] at x
    cases hint with
    | loop its D M ha =>
      simp only at x
      cases hD : dstsIn (Nat.testBit D) a with
      | false => rw [hD] at x; exact x.elim
      | true =>
        rw [hD] at x
        cases hs : decs (tysI its) (getI (inS st) its) with
        | none => rw [hs] at x; exact x.elim
        | some s0 =>
          rw [hs] at x
          simp only at x
          obtain ⟨N, x⟩ := x
          refine ⟨N, ?_⟩
          obtain ⟨m1, m2⟩ := meet_ok (D := Nat.testBit D) (M := M) ok.inS ok.inS (fun _ _ => rfl) (Tr.refl β (inS st)).cleaned' (Agree.refl _ ρ) hs (stayed_clean M ok.nd)
          generalize hF : (fun (rec : DenI its → HP) (s : DenI its) => wpc X n a top ha (fun e st' => match e with | .normal => meet its M (inS st).bx rec st' | e => Q e (backS st st')) (encS its (Nat.testBit D) M s (inS st))) = F at x
          have key : ∀ N s β1 ρ1 L1 h1, loopF F N s h1 → Ok β1 (encS its (Nat.testBit D) M s (inS st)) ρ1 L1 → Tr β (inS st) β1 (encS its (Nat.testBit D) M s (inS st)) → Agree (Nat.testBit D) ρ ρ1 → iter (fun Q => cwp P n noP a top Q) (PostOf β st Q) N ρ1 L1 h1 := by
            intro N
            induction N with
            | zero => intro s β1 ρ1 L1 h1 x; exact x.elim
            | succ N ihN =>
              intro s β1 ρ1 L1 h1 x ok1 t1 ag1
              have x : F (loopF F N) s h1 := x
              rw [← hF] at x
              refine cwp_mono a _ _ _ (fun e ρ' L' h' k => ?_) _ _ _ (cwp_agree a _ hD _ _ _ _ (ih x ok1))
              obtain ⟨ag, β', st', t, ok', q⟩ := k
              have tt := t1.trans t
              cases e with
              | normal =>
                obtain ⟨s', g1, g2, kk⟩ := meet_elim q
                obtain ⟨m1, m2⟩ := meet_ok ok.inS ok' tt.agree tt.cleaned' (ag1.trans ag) g1 g2
                rw [hF] at kk
                exact drop.of (ihN s' β' ρ' L' h' kk m1 m2 (ag1.trans ag))
              | _ => exact ⟨β', _, tt.back ok.nd, ok'.backS, q⟩
          exact key N s0 β ρ L h x m1 m2 (.refl _ _)
    | _ => exact x.elim
  | rangeFunc g ps as bd iha ihb =>
    intro top hint Q st h β ρ L x ok
    simp only [wpc] at x
    have main : ∀ A xs rt ha hb fv, valOf? (sv st g) = some fv → (ps.toList.all fun p => Nat.blt p n) = true → (match Nat.beq A.length ps.size with
      | true => mRangeF P (valsD A) fv (fun (x : Den A) mid kj =>
          wpc X n as false ha (fun e st1 => match e with
            | .normal => mid (wpc X n bd false hb (fun e _ => match e with | .normal => kj 0 | .ret => kj 1 | .exit id => kj (id + 2) | _ => nope) st1)
            | _ => nope) (setA ps.toList (svsD A x) ⟨st.tr, []⟩)) (outK xs rt fun e => Q e st)
      | false => nope : HP) h → cwp P n noP (.rangeFunc g ps as bd) true (PostOf β st Q) ρ L h := fun A xs rt ha hb fv h1 h2 x => by
      cases hl : Nat.beq A.length ps.size with
      | false => rw [hl] at x; exact x.elim
      | true =>
        rw [hl] at x
        obtain ⟨f, fn, first, cap, rfl, cal, key⟩ := x
        refine ⟨rfl, fun _ _ x => x, h2, f, fn, first, cap, valOf_ok ok h1, ⟨cal.here, cal.name, cal.body⟩, fun l ob bz hf yl => (key l ob bz hf fun x kb h' h0 k => yl (valsD A x) kb h' (by rw [valsD_len]; exact Nat.eq_of_beq_eq_true hl) h0 ?_).mono (fun v h'' ⟨j, hj, kk⟩ => ⟨j, hj, fun o => outK_ok (fun e h q => ⟨β, st, .refl .., ok, q⟩) j (kk o)⟩) fun _ _ k => k⟩
        have ok0 : Ok β ⟨st.tr, []⟩ ρ (fun _ => none) := by
          refine ⟨fun t => ?_, fun e he => (by cases he), fun i j ⟨e, he, _⟩ => (by cases he), List.nodup_nil⟩
          have := ok.slots t
          show Rel [] β (ρ t) (st.σ t)
          cases hs : st.σ t <;> rw [hs] at this <;> first | exact this | (rintro ⟨e, he, _⟩; cases he)
        refine cwp_mono as _ _ _ (fun e ρ1 L1 h1 q => ?_) _ _ _ (iha k (setA_ok x ps.toList ok0))
        obtain ⟨β1, st1, t1, ok1, q⟩ := q
        cases e with
        | normal =>
          refine ⟨q.1, cwp_mono bd _ _ _ (fun e ρ2 L2 h2 q2 => ?_) _ _ _ (ihb q.2 ok1)⟩
          obtain ⟨β2, st2, t2, ok2, q2⟩ := q2
          cases e <;> first | exact q2.elim | exact q2
        | _ => exact q.elim
    cases top with
    | false => exact x.elim
    | true =>
      cases hint with
      | rng A xs rt ha hb =>
        cases h1 : valOf? (sv st g) with
        | none => rw [h1] at x; exact x.elim
        | some fv =>
          cases h2 : (ps.toList.all fun p => Nat.blt p n) with
          | false => rw [h1, h2] at x; exact x.elim
          | true => rw [h1, h2] at x; exact main A xs rt ha hb fv h1 h2 x
      | _ => exact x.elim
  | _ => exact fun x _ => x.elim
inductive Fits : List SV → List Value → Prop
  | nil : Fits [] []
  | cons {a : SV} {v : Value} {l : List SV} {m : List Value} : (∀ w, a.is w → v = w) → Fits l m → Fits (a :: l) (v :: m)
theorem decs_fits : ∀ {A : List Ty} {l : List SV} {vs : List Value} {a : Den A}, decs A l = some a → Fits l vs → vs = valsD A a := by
  intro A
  induction A with
  | nil =>
    intro l vs a e f
    cases l with
    | nil => cases f; rfl
    | cons => cases e
  | cons t r ih =>
    intro l vs a e f
    cases r with
    | nil =>
      match l, vs, e, f with
      | [x], [v], e, .cons h .nil => show [v] = [t.val a]; rw [h _ (t.law _ _ e)]
      | x :: y :: r, _, e, _ => cases e
    | cons u r =>
      match l, vs, e, f with
      | x :: xs, v :: vs, e, .cons h f =>
        have e : (match t.dec x, decs (u :: r) xs with | some p, some q => some (p, q) | _, _ => none) = some a := e
        split at e
        · rename_i p q h1 h2
          cases e
          show v :: vs = t.val p :: valsD (u :: r) q
          rw [h _ (t.law _ _ h1), ← ih h2 f]
        · cases e
theorem resM_ok {β : Nat → Nat} {st : St} {ρ : Env} {L h : H} (ok : Ok β st ρ L) (ap : Apart L h) : ∀ {rs : List ResultVar} {k : List SV → HP}, resM X st rs k h → ∃ vs l, RdsL P (un L h) ρ rs vs ∧ Fits l vs ∧ k l h := by
  intro rs
  induction rs with
  | nil => intro k e; exact ⟨[], [], trivial, .nil, e⟩
  | cons r rs ih =>
    intro k e
    cases r with
    | tmp t =>
      obtain ⟨vs, l, a, b, c⟩ := ih (k := fun l => k (st.σ t :: l)) e
      exact ⟨ρ t :: vs, _, ⟨rfl, a⟩, .cons (fun _ hw => is_eq hw (ok.slots t)) b, c⟩
    | cell a t =>
      simp only [resM] at e
      cases h2 : st.σ a with
      | box i off =>
        rw [h2] at e
        simp only at e
        cases h3 : findB st.bx i with
        | none => rw [h3] at e; exact e.elim
        | some b =>
          cases h4 : P.underlying t with
          | none => rw [h3, h4] at e; exact e.elim
          | some td =>
            cases h5 : P.info? t with
            | none => rw [h3, h4, h5] at e; exact e.elim
            | some ti =>
              rw [h3, h4, h5] at e
              simp only at e
              obtain ⟨c, hc, kn⟩ := ok.at h3
              have ha : ρ a = .pointer (some ⟨β i, off, none⟩) := ok.box (x := .tmp a) h2 h3
              cases hg : aggB td with
              | true =>
                rw [hg] at e
                simp only at e
                cases hw : grabO b.cells off ti.size with
                | none => rw [hw] at e; exact e.elim
                | some ws =>
                  rw [hw] at e
                  obtain ⟨vs, l, p, q, kk⟩ := ih e
                  exact ⟨_ :: vs, _, ⟨⟨_, ha, rds_load_agg h4 hg h5 rfl (un_left hc) (grabO_grab kn hw)⟩, p⟩, .cons (a := .v (.agg ws.toArray)) (fun _ hw => Eq.symm hw) q, kk⟩
              | false =>
                rw [hg] at e
                simp only at e
                have one : ∀ v, grabO b.cells off 1 = some [v] → resM X st rs (fun l => k (.v v :: l)) h → ∃ vs l, RdsL P (un L h) ρ (.cell a t :: rs) vs ∧ Fits l vs ∧ k l h := fun v hw e => by
                  obtain ⟨vs, l, p, q, kk⟩ := ih e
                  exact ⟨_ :: vs, _, ⟨⟨_, ha, rds_load_scalar h4 hg rfl (un_left hc) (grab_one (grabO_grab kn hw))⟩, p⟩, .cons (a := .v v) (fun _ hw => Eq.symm hw) q, kk⟩
                cases hw : grabO b.cells off 1 with
                | none => rw [hw] at e; exact e.elim
                | some ws =>
                  rw [hw] at e
                  match ws, hw, e with
                  | [v], hw, e => exact one v hw e
                  | [], _, e => exact e.elim
                  | _ :: _ :: _, _, e => exact e.elim
      | adr ad =>
        rw [h2] at e
        simp only at e
        have ha : ρ a = .pointer (some ad) := ok.adr (x := .tmp a) h2
        cases hτ : tyOf X.ty t with
        | none => rw [hτ] at e; exact e.elim
        | some τ =>
          rw [hτ] at e
          simp only at e
          cases ho : tyOk P t τ with
          | false => rw [ho] at e; exact e.elim
          | true =>
            rw [ho] at e
            obtain ⟨td, hu, hor⟩ := tyOk_spec ho
            obtain ⟨x, hat, e⟩ := e
            obtain ⟨hsp, c, et, fz, hb, hg⟩ := At_un ap hat
            obtain ⟨vs, l, p, q, kk⟩ := ih e
            refine ⟨τ.val x :: vs, _, ⟨⟨ad, ha, ?_⟩, p⟩, .cons (fun w hw => is_eq hw ((τ.svl x).rel st.bx β)) q, kk⟩
            rcases hor with ⟨h1, h2⟩ | ⟨ti, hi, h1, h2, h3⟩
            · rcases τ.hc with ⟨c1, _⟩ | ⟨_, c2⟩
              · rw [h2] at c1; cases c1
              · rw [c2] at hg
                exact rds_load_scalar hu h1 hsp hb (grab_one hg)
            · rcases τ.hc with ⟨_, c2⟩ | ⟨c1, _⟩
              · rw [(c2 x).1]
                rw [(c2 x).2, ← h3] at hg
                exact rds_load_agg hu h1 hi hsp hb hg
              · rw [h2] at c1; cases c1
      | _ => rw [h2] at e; exact e.elim
theorem argG_ok : ∀ {A : List Ty} {a : Den A} (n : Nat) (t : T) (u : Nat), (argG (svsD A a) n t).get u = .no ∨ (∃ v, ((argG (svsD A a) n t).get u).is v ∧ n ≤ u ∧ (valsD A a)[u - n]? = some v) ∨ (argG (svsD A a) n t).get u = t.get u := by
  have step : ∀ (n : Nat) (t : T) (s : SV) (v : Value) (g : T) (u : Nat), s.is v → (g.get u = .no ∨ (∃ v, (g.get u).is v ∧ n + 1 ≤ u ∧ False) ∨ g.get u = (T.set deep t n s).get u) → (g.get u = .no ∨ ((g.get u).is v ∧ u = n) ∨ g.get u = t.get u) := fun n t s v g u hs h => by
    rcases h with q | ⟨_, _, _, q⟩ | q
    · exact .inl q
    · exact q.elim
    · rcases T.get_set deep t n s u with w | ⟨w1, w⟩ | ⟨_, w⟩
      · exact .inl (q.trans w)
      · refine .inr (.inl ⟨?_, w1⟩); rw [q, w]; exact hs
      · exact .inr (.inr (q.trans w))
  intro A
  induction A with
  | nil => intro a n t u; exact .inr (.inr rfl)
  | cons x r ih =>
    intro a n t u
    cases r with
    | nil =>
      rcases step n t (x.sv a) (x.val a) (T.set deep t n (x.sv a)) u (x.svl a) (.inr (.inr rfl)) with q | ⟨q1, q2⟩ | q
      · exact .inl q
      · subst q2; exact .inr (.inl ⟨_, q1, Nat.le_refl _, by rw [Nat.sub_self]; rfl⟩)
      · exact .inr (.inr q)
    | cons w r =>
      rcases ih (a := a.2) (n + 1) (T.set deep t n (x.sv a.1)) u with q | ⟨v, q1, q2, q3⟩ | q
      · exact .inl q
      · refine .inr (.inl ⟨v, q1, by omega, ?_⟩)
        rw [show u - n = (u - (n + 1)) + 1 by omega]; exact q3
      · rcases step n t (x.sv a.1) (x.val a.1) (argG (svsD (x :: w :: r) a) n t) u (x.svl a.1) (.inr (.inr q)) with q | ⟨q1, q2⟩ | q
        · exact .inl q
        · subst q2; exact .inr (.inl ⟨_, q1, Nat.le_refl _, by rw [Nat.sub_self]; rfl⟩)
        · exact .inr (.inr q)
theorem wpF_ok (X : Cx P) {f : FuncId} {fn : Func} (hf : P.funcs[f]? = some fn) {A R : List Ty} (hn : Nat.ble A.length fn.ntmps = true) {hint : Hint} {a : Den A} {K : Den R → HP} {h : H} (hm : wpF X fn A R hint a K h) :
    ACall P f (valsD A a).toArray h (fun v h' => ∃ r, v = outV (valsD R r) ∧ K r h') noP := by
  unfold wpF at hm
  cases hb : fn.body with
  | none => rw [hb] at hm; exact hm.elim
  | some c =>
    rw [hb] at hm
    simp only at hm
    refine ac_func hf hb (by simp only [List.size_toArray, valsD_len]; exact Nat.le_of_ble_eq_true hn) (cwp_sound c _ _ _ _ _ (cwp_mono c _ _ _ (fun e ρ' L' h' k => ?_) _ _ _ (wpc_sound c hm (β := fun i => i) (ρ := start (valsD A a).toArray) (L := fun _ => none) ⟨fun t => ?_, fun e he => (by cases he), fun i j ⟨e, he, _⟩ => (by cases he), List.nodup_nil⟩)))
    · obtain ⟨β', st', t, ok', q⟩ := k
      have fin : (resM X st' fn.results.toList fun l => (match decs R l with | some r => K r | none => nope : HP)) h' → Out P fn (fun v h' => ∃ r, v = outV (valsD R r) ∧ K r h') ρ' L' h' := fun q => out_one (rs := fn.results.toList) rfl fun ap => by
        obtain ⟨vs, l, p1, p2, p3⟩ := resM_ok ok' ap q
        cases h2 : decs R l with
        | none => rw [h2] at p3; exact p3.elim
        | some r =>
          rw [h2] at p3
          have := decs_fits h2 p2
          subst this
          exact ⟨_, p1, r, rfl, p3⟩
      cases e with
      | normal => exact fin q
      | ret => exact fin q
      | _ => exact q.elim
    · show Rel [] _ (start (valsD A a).toArray t) ((argG (svsD A a) 0 .e).get t)
      rcases argG_ok (a := a) 0 .e t with q | ⟨v, q1, _, q2⟩ | q
      · rw [q]; trivial
      · have : start (valsD A a).toArray t = v := by
          simp only [start, Array.getD_eq_getD_getElem?, List.getElem?_toArray, Nat.sub_zero] at q2 ⊢
          rw [q2, Option.getD_some]
        rw [this]; exact q1.rel _ _
      · rw [q]; trivial
end code
def decStruct (tys : List Ty) {S : Type} (mk : Den tys → S) : SV → Option S
  | .v (.agg c) => match decs tys (c.toList.map SV.v) with | some x => some (mk x) | none => none
  | _ => none
/-- A struct: 'tys' its leaves. -/
def tStruct {S : Type} (tys : List Ty) (val : S → Value) (cells : S → List Value) (mk : Den tys → S) (h1 : ∀ x, val x = .agg (cells x).toArray) (h2 : ∀ x, (cells x).length = tys.length) (h3 : ∀ y, cells (mk y) = valsD tys y) : Ty :=
  ⟨S, val, cells, decStruct tys mk, fun x => .v (val x), tys.length, true,
    fun s x e => (by
      unfold decStruct at e
      split at e
      · rename_i c
        split at e
        · rename_i y hy
          cases e
          show val _ = Value.agg c
          rw [h1, h3, ← decs_v hy]
        · cases e
      · cases e), fun _ => rfl, .inl ⟨rfl, fun x => ⟨h1 x, h2 x⟩⟩⟩
def mkSpec {P : Program} (X : Cx P) (f : FuncId) (fn : Func) (A R : List Ty) (pure : Bool) (hint : Hint) (m : Den A → (Den R → HP) → HP) (hm : ∀ a K h, m a K h = wpF X fn A R hint a K h) (c : Callee P f fn) (hn : Nat.ble A.length fn.ntmps = true) : Spec P :=
  ⟨f, A, R, pure, m, fun a K h x => wpF_ok X c.here hn ((hm a K h).mp x), ⟨fn, c⟩⟩
end Go.Proofs.Ytiajjcboddaenaa.K
