/- The walk that computes: regions, code, functions. -/
import Derived.Test.YtlnlmideghepnaaQ3
namespace Go.Proofs.Ytlnlmideghepnaa.K
open Go

/-- What is carried where ways meet: a temporary, a cell of an own box. -/
inductive It : Type 1
  | slot (t : Nat) (τ : Ty)
  | cell (i j : Nat) (τ : Ty)
def It.ty : It → Ty
  | .slot _ τ => τ
  | .cell _ _ τ => τ
def tysI : List It → List Ty
  | [] => []
  | a :: r => a.ty :: tysI r
def getI (st : St) : List It → List SV
  | [] => []
  | .slot t _ :: r => st.σ t :: getI st r
  | .cell i j _ :: r => (match findB st.bx i with | some e => (match e.cells[j]? with | some (some v) => .v v | _ => .no) | none => .no) :: getI st r
/-- The carried temporaries, written into what is known. -/
def slotI : List It → List SV → T → T
  | .slot t _ :: r, s :: ss, u => slotI r ss (T.set deep u t s)
  | .cell .. :: r, _ :: ss, u => slotI r ss u
  | _, _, u => u
def cellI : List It → List SV → Nat → Nat → Option Value
  | .cell i j _ :: r, s :: ss, a, b => bif Nat.beq a i && Nat.beq b j then valOf? s else cellI r ss a b
  | .slot .. :: r, _ :: ss, a, b => cellI r ss a b
  | _, _, _, _ => none
abbrev DenI (its : List It) := Den (tysI its)
def freshB (its : List It) (ss : List SV) (e : Bx) (dirty : Bool) : Bx := ⟨e.key, e.ty, (List.range e.cells.length).map fun j => cellI its ss e.key j, dirty⟩
/-- The boxes behind a meeting: those of 'M' as the items tell, all others as they were. -/
def encB (its : List It) (M : List Nat) (ss : List SV) : List Bx → List Bx
  | [] => []
  | e :: r => (match memB M e.key with | true => freshB its ss e true | false => e) :: encB its M ss r
/-- The boxes where a scope begins: nothing has been written in it. -/
def clean : List Bx → List Bx
  | [] => []
  | e :: r => ⟨e.key, e.ty, e.cells, false⟩ :: clean r
/-- .. and where it is left: what was written in it or ahead of it. -/
def backB (l : List Bx) : List Bx → List Bx
  | [] => []
  | e :: r => ⟨e.key, e.ty, e.cells, e.dirty || (match findB l e.key with | some x => x.dirty | none => false)⟩ :: backB l r
/-- Is each box outside 'M' as it was? -/
def stayed (M : List Nat) (l' : List Bx) : List Bx → Bool
  | [] => true
  | e :: r => (memB M e.key || match findB l' e.key with | some x => !x.dirty | none => false) && stayed M l' r
/-- The state behind a meeting. -/
def encS (its : List It) (D : Nat → Bool) (M : List Nat) (s : DenI its) (st : St) : St := ⟨slotI its (svsD (tysI its) s) (st.tr.keep D), encB its M (svsD (tysI its) s) st.bx⟩
def inS (st : St) : St := ⟨st.tr, clean st.bx⟩
def backS (st st' : St) : St := ⟨st'.tr, backB st.bx st'.bx⟩
def meet (its : List It) (M : List Nat) (l : List Bx) (j : DenI its → HP) (st' : St) : HP := match decs (tysI its) (getI st' its), stayed M st'.bx l with
  | some s, true => j s
  | _, _ => nope

/-! Regions. -/
inductive Wh
  | seq (l : List Nat)
  | any (listed : Array Bool) (fuel : Nat)
  | part (listed : Array Bool) (fuel : Nat) (c : List Nat)
/-- One of those that are ready comes next, but none of 'c'. -/
def bPart (P : Program) (ops : Array Oper) (next : Post) (fuel : Nat) (listed : Array Bool) (c : List Nat) : Post := fun ρ L h => Bdd (un L h) → Apart L h →
  ∀ i ∈ Region.ready .any ops listed, memB c i = false → aOpI P ops noP i (aAny P ops next noP fuel (listed.setIfInBounds i true)) ρ L h
def Goal (P : Program) (ops : Array Oper) (next : Post) : Wh → Post
  | .seq l => aOps P ops next noP l
  | .any listed fuel => bAny P ops next noP fuel listed
  | .part listed fuel c => bPart P ops next fuel listed c
def Wh.same : Wh → Wh → Bool
  | .seq l, .seq m => Nat.beq l.length m.length && l == m
  | .any l n, .any m k => Nat.beq n k && l.toList == m.toList
  | _, _ => false
def adv : Wh → Nat → Wh
  | .seq (_ :: r), _ => .seq r
  | .seq [], _ => .seq []
  | .any l n, i => .any (l.setIfInBounds i true) (n - 1)
  | .part l n _, i => .any (l.setIfInBounds i true) n
/-- 'i' is told, or another comes next. -/
def skip : Wh → Nat → Wh
  | .seq l, _ => .seq l
  | .any l n, i => .part l (n - 1) [i]
  | .part l n c, i => .part l n (i :: c)
def may (P : Program) (ops : Array Oper) (w : Wh) (i how : Nat) : Bool := match w with
  | .seq (j :: _) => Nat.beq i j
  | .seq [] => false
  | .any _ 0 => false
  | .any listed (f + 1) => match how with
    | 3 => Region.ready .any ops listed == [i]
    | m => Nat.ble m 2 && Region.noSelect ops && free P ops listed i m && fewB listed (f + 1)
  | .part .. => false
def may2 (ops : Array Oper) (w : Wh) (i j : Nat) : Bool := match w with
  | .any listed (_ + 1) => Region.ready .any ops listed == [i, j]
  | .part listed _ c => (Region.ready .any ops listed).filter (fun x => !memB c x) == [i, j]
  | _ => false
def mayA (ops : Array Oper) (w : Wh) : Bool := match w with
  | .any listed (_ + 1) => !(Region.ready .any ops listed).isEmpty
  | .part .. => true
  | _ => false
def fin (ops : Array Oper) : Wh → Bool
  | .seq l => l.isEmpty
  | .any listed _ => (Region.ready .any ops listed).isEmpty
  | .part .. => false
def how' : Wh → Nat → Nat
  | .seq _, _ => 3
  | _, n => n
/-- Is an operation wanted? -/
def wantS (ops : Array Oper) (st : St) (o : Oper) : Option Bool := match o.guard with
  | none => some true
  | some (j, b) => match ops.toList[j]? with
    | some oj => match oj.dst with
      | some d => match st.σ d with | .v (.bool c) => some (bif c then b else !b) | .v (.tuple _) => some false | _ => none
      | none => none
    | none => none
inductive Plan : Type 1
  | nil
  | run (l : List Nat) (p : Plan)
  | split (g : Nat) (p q : Plan)
  | join (its : List It) (D : Nat) (M : List Nat) (p q : Plan)
  | sel (g d D : Nat) (p p' q : Plan)
  | both (i j : Nat) (p q : Plan)
  | alt (i : Nat) (p q : Plan)
section
variable {P : Program} (X : Cx P) (ops : Array Oper)
/-- One operation, and on. -/
def opS (st : St) (i how : Nat) (k : St → HP) : HP := match ops.toList[i]? with
  | some o => match wantS ops st o with
    | some true => run how (effOf P X st o) o.dst st k
    | some false => match Nat.beq how 0 || Nat.beq how 3 with
      | true => k (st.put o.dst (.v undef))
      | false => nope
    | none => nope
  | none => nope
def wpL : List Nat → Wh → St → (Wh → St → HP) → HP
  | [], w, st, k => k w st
  | n :: r, w, st, k => match may P ops w (n / 4) (n % 4) with
    | true => opS X ops st (n / 4) (how' w (n % 4)) fun st' => wpL r (adv w (n / 4)) st' k
    | false => nope
/-- .. that only computes. -/
def opP (st : St) (i how : Nat) : Option St := match ops.toList[i]? with
  | some o => match wantS ops st o with
    | some true => match effOf P X st o with
      | .ret s => some (st.put o.dst s)
      | .own s => (match how with | 0 => none | _ => some (st.put o.dst s))
      | _ => none
    | some false => match how with
      | 0 | 3 => some (st.put o.dst (.v undef))
      | _ => none
    | none => none
  | none => none
def prL : List Nat → Wh → St → Option (Wh × St)
  | [], w, st => some (w, st)
  | n :: r, w, st => match may P ops w (n / 4) (n % 4) with
    | true => match opP X ops st (n / 4) (how' w (n % 4)) with
      | some st' => prL r (adv w (n / 4)) st'
      | none => none
    | false => none
def selS (g d : Nat) (D : Nat → Bool) (st : St) (a b : St → Option (Wh × St)) : Option (Wh × St) := match st.σ g with
  | .v (.bool c) => match a (st.put (some g) (.v (.bool true))), b (st.put (some g) (.v (.bool false))) with
    | some (w1, s1), some (w2, s2) => match w1.same w2, s1.σ d, s2.σ d with
      | true, .v (.bool x), .v (.bool y) => some (w1, ⟨T.set deep (st.tr.keep D) d (.v (.bool (bif c then x else y))), st.bx⟩)
      | _, _, _ => none
    | _, _ => none
  | _ => none
def dIn (D : Nat → Bool) (i : Nat) : Bool := match ops.toList[i]? with | some o => dstIn D o | none => true
def inD (D : Nat → Bool) : Plan → Bool
  | .nil => true
  | .run l p => l.all (fun n => dIn ops D (n / 4)) && inD D p
  | .split _ p q => inD D p && inD D q
  | .join _ _ _ p q => inD D p && inD D q
  | .sel _ _ _ p p' q => inD D p && inD D p' && inD D q
  | .both i j p q => dIn ops D i && dIn ops D j && inD D p && inD D q
  | .alt i p q => dIn ops D i && inD D p && inD D q
def pr : Plan → Wh → St → Option (Wh × St)
  | .nil, w, st => some (w, st)
  | .run l p, w, st => match prL X ops l w st with | some (w', st') => pr p w' st' | none => none
  | .sel g d D p p' q, w, st => match inD ops (Nat.testBit D) p && inD ops (Nat.testBit D) p' with
    | true => match selS g d (Nat.testBit D) st (pr p w) (pr p' w) with | some (w', st') => pr q w' st' | none => none
    | false => none
  | _, _, _ => none
/-- Where a plan leads. -/
def aft : Plan → Wh → Wh
  | .nil, w => w
  | .run l p, w => aft p (l.foldl (fun w n => adv w (n / 4)) w)
  | .split _ p _, w => aft p w
  | .join _ _ _ p q, w => aft q (aft p w)
  | .sel _ _ _ p _ q, w => aft q (aft p w)
  | .both i _ p _, w => aft p (adv w i)
  | .alt i p _, w => aft p (adv w i)
def wpP : Plan → Wh → St → (Wh → St → HP) → HP
  | .nil, w, st, k => k w st
  | .run l p, w, st, k => wpL X ops l w st fun w' st' => wpP p w' st' k
  | .split g p q, w, st, k => match st.σ g with
    | .v (.bool c) => mIf c (wpP p w (st.put (some g) (.v (.bool true))) k) (wpP q w (st.put (some g) (.v (.bool false))) k)
    | _ => nope
  | .join its D M p q, w, st, k => match inD ops (Nat.testBit D) p with
    | true => mJoin (fun s : DenI its => wpP q (aft p w) (encS its (Nat.testBit D) M s st) k) fun j =>
      wpP p w (inS st) fun w' st' => match w'.same (aft p w) with | true => meet its M st.bx j st' | false => nope
    | false => nope
  | .sel g d D p p' q, w, st, k => match inD ops (Nat.testBit D) p && inD ops (Nat.testBit D) p' with
    | true => match selS g d (Nat.testBit D) st (pr X ops p w) (pr X ops p' w) with | some (w', st') => wpP q w' st' k | none => nope
    | false => nope
  | .both i j p q, w, st, k => match may2 ops w i j with
    | true => mBoth (opS X ops st i 3 fun st' => wpP p (adv w i) st' k) (opS X ops st j 3 fun st' => wpP q (adv w j) st' k)
    | false => nope
  | .alt i p q, w, st, k => match mayA ops w with
    | true => mBoth (opS X ops st i 3 fun st' => wpP p (adv w i) st' k) (wpP q (skip w i) st k)
    | false => nope
end
/-- What the walk is told of code: where ways meet, what loops carry, which conditions are known. -/
inductive Hint : Type 1
  | d
  | reg (p : Plan)
  | seq (a b : Hint)
  | join (its : List It) (D : Nat) (M : List Nat) (a b : Hint)
  | cond (a b : Hint)
  | known (a b : Hint)
  | blk (a : Hint)
  | loop (its : List It) (D : Nat) (M : List Nat) (a : Hint)
def autoP (n : Nat) : Plan := .run ((List.range n).map fun i => 4 * i + 3) .nil
def Hint.plan (n : Nat) : Hint → Plan
  | .reg p => p
  | _ => autoP n
def Hint.one : Hint → Hint
  | .seq a _ | .cond a _ | .known a _ | .blk a => a
  | _ => .d
def Hint.two : Hint → Hint
  | .seq _ b | .cond _ b | .known _ b => b
  | _ => .d
def wpc {P : Program} (X : Cx P) (n : Nat) : Code → Hint → (Exit → St → HP) → St → HP
  | .skip, _, Q, st => Q .normal st
  | .label _, _, Q, st => Q .normal st
  | .ret, _, Q, st => Q .ret st
  | .exit id, _, Q, st => Q (.exit id) st
  | .region _ ops dr, hint, Q, st => match fits n ops with
    | true => wpP X ops (hint.plan ops.size) (match dr with | true => .any (Array.replicate ops.size false) ops.size | false => .seq (List.range ops.size)) st
      fun w st' => match fin ops w with | true => Q .normal st' | false => nope
    | false => nope
  | .block id a, hint, Q, st => wpc X n a hint.one (fun e st' => match e with | .exit id' => (match Nat.beq id' id with | true => Q .normal st' | false => Q (.exit id') st') | e => Q e st') st
  | .scope a, hint, Q, st => wpc X n a hint.one (fun e st' => match e with | .goto _ => nope | e => Q e st') st
  | .cond c a b, hint, Q, st => match sv st c with
    | .v (.bool t) => (match hint with
      | .known ha hb => (match t with | true => wpc X n a ha Q st | false => wpc X n b hb Q st)
      | hint => mIf t (wpc X n a hint.one Q st) (wpc X n b hint.two Q st))
    | _ => nope
  | .seq a b, hint, Q, st => match hint with
    | .join its D M ha hb => (match dstsIn (Nat.testBit D) a with
      | true => mJoin (fun s : DenI its => wpc X n b hb Q (encS its (Nat.testBit D) M s st)) fun j =>
        wpc X n a ha (fun e st' => match e with | .normal => meet its M st.bx j st' | e => Q e (backS st st')) (inS st)
      | false => nope)
    | hint => wpc X n a hint.one (fun e st' => match e with | .normal => wpc X n b hint.two Q st' | e => Q e st') st
  | .loop a, hint, Q, st => match hint with
    | .loop its D M ha => (match dstsIn (Nat.testBit D) a, decs (tysI its) (getI (inS st) its) with
      | true, some s0 => mLoop (fun (rec : DenI its → HP) (s : DenI its) =>
        wpc X n a ha (fun e st' => match e with | .normal => meet its M (inS st).bx rec st' | e => Q e (backS st st')) (encS its (Nat.testBit D) M s (inS st))) s0
      | _, _ => nope)
    | _ => nope
  | _, _, _, _ => nope
/-- The results. -/
def resS (P : Program) (st : St) : List ResultVar → Option (List SV)
  | [] => some []
  | .tmp t :: r => match resS P st r with | some l => some (st.σ t :: l) | none => none
  | .cell a t :: r => match resS P st r, st.σ a with
    | some l, .box i off => match findB st.bx i, P.underlying t, P.info? t with
      | some e, some td, some ti => match aggB td with
        | true => match grabO e.cells off ti.size with | some vs => some (.v (.agg vs.toArray) :: l) | none => none
        | false => match grabO e.cells off 1 with | some [v] => some (.v v :: l) | _ => none
      | _, _, _ => none
    | _, _ => none
def argG : List SV → Nat → T → T
  | [], _, t => t
  | s :: r, n, t => argG r (n + 1) (T.set deep t n s)
/-- A function whole. -/
def wpF {P : Program} (X : Cx P) (fn : Func) (A R : List Ty) (hint : Hint) (a : Den A) (K : Den R → HP) : HP := match fn.body with
  | some c => wpc X fn.ntmps c hint (fun e st => match e with
    | .normal | .ret => (match resS P st fn.results.toList with
      | some l => (match decs R l with | some r => K r | none => nope)
      | none => nope)
    | _ => nope) ⟨argG (svsD A a) 0 .e, []⟩
  | none => nope
end Go.Proofs.Ytlnlmideghepnaa.K
