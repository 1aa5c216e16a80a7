/- A walk that computes: values of temporaries, own boxes, types, effects of operations. -/
import Derived.Test.YtlnlmideghepnaaK11
namespace Go.Proofs.Ytlnlmideghepnaa.K
open Go

abbrev HP := H → Prop
/-! A falsehood of great height: the kernel unfolds what mentions it ahead of any printed function. -/
def no0 : Prop := False
def no1 := no0
def no2 := no1
def no3 := no2
def no4 := no3
def no5 := no4
def no6 := no5
def no7 := no6
def no8 := no7
def no9 := no8
def no10 := no9
def no11 := no10
def no12 := no11
def no13 := no12
def no14 := no13
def no15 := no14
def no16 := no15
def no17 := no16
def no18 := no17
def no19 := no18
def no20 := no19
def no21 := no20
def no22 := no21
def no23 := no22
def no24 := no23
def no25 := no24
def no26 := no25
def no27 := no26
def no28 := no27
def no29 := no28
def no30 := no29
def no31 := no30
def no32 := no31
def no33 := no32
def no34 := no33
def no35 := no34
def no36 := no35
def no37 := no36
def no38 := no37
def no39 := no38
def no40 := no39
def no41 := no40
def no42 := no41
def no43 := no42
def no44 := no43
def no45 := no44
def no46 := no45
def no47 := no46
def no48 := no47
def no49 := no48
def no50 := no49
def no51 := no50
def no52 := no51
def no53 := no52
def no54 := no53
def no55 := no54
def no56 := no55
def no57 := no56
def no58 := no57
def no59 := no58
def no60 := no59
def no61 := no60
def no62 := no61
def no63 := no62
def no64 := no63
def no65 := no64
def no66 := no65
def no67 := no66
def no68 := no67
def no69 := no68
def no70 := no69
def no71 := no70
def no72 := no71
def no73 := no72
def no74 := no73
def no75 := no74
def no76 := no75
def no77 := no76
def no78 := no77
def no79 := no78
def no80 := no79
def no81 := no80
def no82 := no81
def no83 := no82
def no84 := no83
def no85 := no84
def no86 := no85
def no87 := no86
def no88 := no87
def no89 := no88
def no90 := no89
def no91 := no90
def no92 := no91
def no93 := no92
def no94 := no93
def no95 := no94
def no96 := no95
def no97 := no96
def no98 := no97
def no99 := no98
def no100 := no99
def no101 := no100
def no102 := no101
def no103 := no102
def no104 := no103
def no105 := no104
def no106 := no105
def no107 := no106
def no108 := no107
def no109 := no108
def no110 := no109
def no111 := no110
def no112 := no111
def no113 := no112
def no114 := no113
def no115 := no114
def no116 := no115
def no117 := no116
def no118 := no117
def no119 := no118
def no120 := no119
def no121 := no120
def no122 := no121
def no123 := no122
def no124 := no123
def no125 := no124
def no126 := no125
def no127 := no126
def no128 := no127
def no129 := no128
def no130 := no129
def no131 := no130
def no132 := no131
def no133 := no132
def no134 := no133
def no135 := no134
def no136 := no135
def no137 := no136
def no138 := no137
def no139 := no138
def no140 := no139
def no141 := no140
def no142 := no141
def no143 := no142
def no144 := no143
def no145 := no144
def no146 := no145
def no147 := no146
def no148 := no147
def no149 := no148
def no150 := no149
def no151 := no150
def no152 := no151
def no153 := no152
def no154 := no153
def no155 := no154
def no156 := no155
def no157 := no156
def no158 := no157
def no159 := no158
def no160 := no159
def nope : HP := fun _ => no160
/-- A value of one cell that is known to be one. -/
abbrev PV := { v : Value // plainVal v = true ∧ v.cells = #[v] }
/-- What is known of a temporary: nothing, a value, a plain value of no known form, an address, a place in an own box, a slice over an own box. -/
inductive SV
  | no
  | v (v : Value)
  | pl (x : PV)
  | adr (a : Addr)
  | box (i off : Nat)
  | lit (i n : Nat)
/-- An own box: its name (the temporary that it was made for), its type, what is known of its cells. -/
structure Bx where
  key : Nat
  ty : TypeId
  cells : List (Option Value)
  dirty : Bool
/-- What is known of the temporaries, as a tree by their numbers: the root's is 0, on the left 2 n + 1, on the right 2 n + 2. -/
inductive T
  | e
  | n (l : T) (v : SV) (r : T)
def T.left : T → T
  | .e => .e
  | .n l _ _ => l
def T.val : T → SV
  | .e => .no
  | .n _ v _ => v
def T.right : T → T
  | .e => .e
  | .n _ _ r => r
def T.get : T → Nat → SV
  | .e, _ => .no
  | .n l v r, k => bif Nat.beq k 0 then v else bif Nat.beq (k % 2) 1 then l.get (k / 2) else r.get (k / 2 - 1)
def T.set : Nat → T → Nat → SV → T
  | 0, _, _, _ => .e
  | f + 1, t, k, v => bif Nat.beq k 0 then .n t.left v t.right else bif Nat.beq (k % 2) 1 then .n (T.set f t.left (k / 2) v) t.val t.right else .n t.left t.val (T.set f t.right (k / 2 - 1) v)
/-- All but what 'D' names. -/
def T.keep : T → (Nat → Bool) → T
  | .e, _ => .e
  | .n l v r, D => .n (l.keep fun k => D (2 * k + 1)) (bif D 0 then .no else v) (r.keep fun k => D (2 * k + 2))
def T.map (f : SV → SV) : T → T
  | .e => .e
  | .n l v r => .n (l.map f) (f v) (r.map f)
structure St where
  tr : T
  bx : List Bx
def St.σ (st : St) (t : Nat) : SV := st.tr.get t
theorem T.get_eq (t : T) (k : Nat) : t.get k = if k = 0 then t.val else if k % 2 = 1 then t.left.get (k / 2) else t.right.get (k / 2 - 1) := by
  have hb : ∀ a b : Nat, Nat.beq a b = decide (a = b) := fun a b => by
    rw [Bool.eq_iff_iff, Nat.beq_eq, decide_eq_true_eq]
  cases t with
  | e =>
    show SV.no = if k = 0 then .no else if k % 2 = 1 then .no else .no
    split <;> first | rfl | (split <;> rfl)
  | n l v r =>
    show (bif Nat.beq k 0 then v else bif Nat.beq (k % 2) 1 then l.get (k / 2) else r.get (k / 2 - 1)) = _
    rw [hb, hb]
    by_cases h0 : k = 0
    · simp [h0, T.val]
    · by_cases h1 : k % 2 = 1 <;> simp [h0, h1, T.left, T.right]
theorem T.get_set : ∀ (f : Nat) (t : T) (k : Nat) (v : SV) (k' : Nat), (T.set f t k v).get k' = .no ∨ (k' = k ∧ (T.set f t k v).get k' = v) ∨ (k' ≠ k ∧ (T.set f t k v).get k' = t.get k') := by
  have hb : ∀ a b : Nat, Nat.beq a b = decide (a = b) := fun a b => by
    rw [Bool.eq_iff_iff, Nat.beq_eq, decide_eq_true_eq]
  intro f
  induction f with
  | zero => intro t k v k'; exact .inl rfl
  | succ f ih =>
    intro t k v k'
    have hs : T.set (f + 1) t k v = if k = 0 then .n t.left v t.right else if k % 2 = 1 then .n (T.set f t.left (k / 2) v) t.val t.right else .n t.left t.val (T.set f t.right (k / 2 - 1) v) := by
      show (bif Nat.beq k 0 then T.n t.left v t.right else bif Nat.beq (k % 2) 1 then T.n (T.set f t.left (k / 2) v) t.val t.right else T.n t.left t.val (T.set f t.right (k / 2 - 1) v)) = _
      rw [hb, hb]
      by_cases h0 : k = 0
      · simp [h0]
      · by_cases h1 : k % 2 = 1 <;> simp [h0, h1]
    rw [hs]
    by_cases h0 : k = 0
    · rw [if_pos h0]
      rw [T.get_eq]
      by_cases g0 : k' = 0
      · rw [if_pos g0]; exact .inr (.inl ⟨by omega, rfl⟩)
      · rw [if_neg g0]
        refine .inr (.inr ⟨by omega, ?_⟩)
        rw [T.get_eq t k', if_neg g0]; rfl
    · rw [if_neg h0]
      by_cases h1 : k % 2 = 1
      · rw [if_pos h1, T.get_eq]
        by_cases g0 : k' = 0
        · rw [if_pos g0]
          refine .inr (.inr ⟨by omega, ?_⟩)
          rw [T.get_eq t k', if_pos g0]; rfl
        · rw [if_neg g0]
          by_cases g1 : k' % 2 = 1
          · rw [if_pos g1]
            show (T.set f t.left (k / 2) v).get (k' / 2) = _ ∨ _ ∧ (T.set f t.left (k / 2) v).get (k' / 2) = _ ∨ _ ∧ (T.set f t.left (k / 2) v).get (k' / 2) = _
            rcases ih t.left (k / 2) v (k' / 2) with q | ⟨q1, q2⟩ | ⟨q1, q2⟩
            · exact .inl q
            · exact .inr (.inl ⟨by omega, q2⟩)
            · refine .inr (.inr ⟨fun e => q1 (by rw [e]), ?_⟩)
              rw [q2, T.get_eq t k', if_neg g0, if_pos g1]
          · rw [if_neg g1]
            refine .inr (.inr ⟨fun e => g1 (by rw [e]; exact h1), ?_⟩)
            rw [T.get_eq t k', if_neg g0, if_neg g1]; rfl
      · rw [if_neg h1, T.get_eq]
        by_cases g0 : k' = 0
        · rw [if_pos g0]
          refine .inr (.inr ⟨by omega, ?_⟩)
          rw [T.get_eq t k', if_pos g0]; rfl
        · rw [if_neg g0]
          by_cases g1 : k' % 2 = 1
          · rw [if_pos g1]
            refine .inr (.inr ⟨fun e => h1 (by rw [← e]; exact g1), ?_⟩)
            rw [T.get_eq t k', if_neg g0, if_pos g1]; rfl
          · rw [if_neg g1]
            show (T.set f t.right (k / 2 - 1) v).get (k' / 2 - 1) = _ ∨ _ ∧ (T.set f t.right (k / 2 - 1) v).get (k' / 2 - 1) = _ ∨ _ ∧ (T.set f t.right (k / 2 - 1) v).get (k' / 2 - 1) = _
            rcases ih t.right (k / 2 - 1) v (k' / 2 - 1) with q | ⟨q1, q2⟩ | ⟨q1, q2⟩
            · exact .inl q
            · exact .inr (.inl ⟨by omega, q2⟩)
            · refine .inr (.inr ⟨fun e => q1 (by rw [e]), ?_⟩)
              rw [q2, T.get_eq t k', if_neg g0, if_neg g1]
theorem T.get_keep : ∀ (t : T) (D : Nat → Bool) (k : Nat), (t.keep D).get k = if D k then .no else t.get k := by
  intro t
  induction t with
  | e => intro D k; show SV.no = if D k then .no else .no; split <;> rfl
  | n l v r ihl ihr =>
    intro D k
    rw [T.get_eq, T.get_eq (.n l v r) k]
    show (if k = 0 then (bif D 0 then .no else v) else if k % 2 = 1 then (l.keep fun k => D (2 * k + 1)).get (k / 2) else (r.keep fun k => D (2 * k + 2)).get (k / 2 - 1)) = _
    rw [ihl, ihr]
    by_cases h0 : k = 0
    · subst h0; simp only [if_true]; cases D 0 <;> rfl
    · rw [if_neg h0, if_neg h0]
      by_cases h1 : k % 2 = 1
      · rw [if_pos h1, if_pos h1, show 2 * (k / 2) + 1 = k by omega]; rfl
      · rw [if_neg h1, if_neg h1, show 2 * (k / 2 - 1) + 2 = k by omega]; rfl
theorem T.get_map {f : SV → SV} (hf : f .no = .no) : ∀ (t : T) (k : Nat), (t.map f).get k = f (t.get k) := by
  intro t
  induction t with
  | e => intro k; exact hf.symm
  | n l v r ihl ihr =>
    intro k
    rw [T.get_eq, T.get_eq (.n l v r) k]
    show (if k = 0 then f v else if k % 2 = 1 then (l.map f).get (k / 2) else (r.map f).get (k / 2 - 1)) = _
    rw [ihl, ihr]
    by_cases h0 : k = 0
    · rw [if_pos h0, if_pos h0]; rfl
    · rw [if_neg h0, if_neg h0]
      by_cases h1 : k % 2 = 1
      · rw [if_pos h1, if_pos h1]; rfl
      · rw [if_neg h1, if_neg h1]; rfl
/-- The depth of the trees: more than the temporaries of any function. -/
def deep : Nat := 16

def InK (l : List Bx) (i : Nat) : Prop := ∃ e, e ∈ l ∧ e.key = i
def Rel (l : List Bx) (β : Nat → Nat) (x : Value) : SV → Prop
  | .no => True
  | .v v => x = v
  | .pl v => x = v.1
  | .adr a => x = .pointer (some a)
  | .box i off => InK l i → x = .pointer (some ⟨β i, off, none⟩)
  | .lit i n => InK l i → x = .slice (some ⟨β i, 0, none⟩) n n
def Known (c : Array Value) (l : List (Option Value)) : Prop := c.size = l.length ∧ ∀ (j : Nat) (v : Value), l[j]? = some (some v) → c[j]? = some v
def BoxOk (β : Nat → Nat) (L : H) (e : Bx) : Prop := ∃ c, L (β e.key) = some (.cells c e.ty (0, 0)) ∧ Known c e.cells
structure Ok (β : Nat → Nat) (st : St) (ρ : Env) (L : H) : Prop where
  slots : ∀ t, Rel st.bx β (ρ t) (st.σ t)
  boxes : ∀ e, e ∈ st.bx → BoxOk β L e
  inj : ∀ i j, InK st.bx i → InK st.bx j → β i = β j → i = j
  nd : (st.bx.map Bx.key).Nodup

def findB : List Bx → Nat → Option Bx
  | [], _ => none
  | e :: r, i => bif Nat.beq e.key i then some e else findB r i
def setB : List Bx → Nat → List (Option Value) → List Bx
  | [], _, _ => []
  | e :: r, i, c => bif Nat.beq e.key i then ⟨e.key, e.ty, c, true⟩ :: r else e :: setB r i c
def takeS : Nat → List (Option Value) → Option (List Value)
  | 0, _ => some []
  | n + 1, some v :: r => match takeS n r with | some l => some (v :: l) | none => none
  | _, _ => none
def grabO (l : List (Option Value)) (off n : Nat) : Option (List Value) := takeS n (l.drop off)
def layO : List (Option Value) → Nat → List Value → List (Option Value)
  | [], _, _ => []
  | _ :: r, 0, v :: vs => some v :: layO r 0 vs
  | c :: r, 0, [] => c :: r
  | c :: r, n + 1, vs => c :: layO r n vs

/-- A value that stands for itself. -/
def SV.is (s : SV) (v : Value) : Prop := match s with | .v u => v = u | .pl x => v = x.1 | .adr a => v = .pointer (some a) | _ => False
/-- A type of the printed functions: how its values lie in a temporary and in memory. -/
structure Ty : Type 1 where
  T : Type
  val : T → Value
  cells : T → List Value
  dec : SV → Option T
  sv : T → SV
  n : Nat
  agg : Bool
  law : ∀ s x, dec s = some x → s.is (val x)
  svl : ∀ x, (sv x).is (val x)
  hc : (agg = true ∧ ∀ x, val x = .agg (cells x).toArray ∧ (cells x).length = n) ∨ (agg = false ∧ ∀ x, cells x = [val x])
def tInt (k : IntKind) : Ty := ⟨Int, .int k, cInt k, fun | .v (.int j n) => bif decide (j = k) then some n else none | _ => none, fun x => .v (.int k x), 1, false,
  fun s x e => (by
    split at e
    · rename_i j n
      cases h : decide (j = k) <;> rw [h] at e
      · cases e
      · cases e; have := of_decide_eq_true h; subst this; rfl
    · cases e), fun _ => rfl, .inr ⟨rfl, fun _ => rfl⟩⟩
def tBool : Ty := ⟨Bool, .bool, cBool, fun | .v (.bool b) => some b | _ => none, fun x => .v (.bool x), 1, false, fun s x e => (by split at e <;> cases e; rfl), fun _ => rfl, .inr ⟨rfl, fun _ => rfl⟩⟩
def tStr : Ty := ⟨ByteArray, .string, cStr, fun | .v (.string b) => some b | _ => none, fun x => .v (.string x), 1, false, fun s x e => (by split at e <;> cases e; rfl), fun _ => rfl, .inr ⟨rfl, fun _ => rfl⟩⟩
def tSl : Ty := ⟨Sl, Sl.val, cSl, fun | .v (.slice a l c) => some ⟨a, l, c⟩ | _ => none, fun x => .v x.val, 1, false, fun s x e => (by split at e <;> cases e; rfl), fun _ => rfl, .inr ⟨rfl, fun _ => rfl⟩⟩
def tPtr : Ty := ⟨Option Addr, .pointer, cPtr, fun | .v (.pointer p) => some p | .adr a => some (some a) | _ => none, fun x => .v (.pointer x), 1, false, fun s x e => (by split at e <;> cases e <;> rfl), fun _ => rfl, .inr ⟨rfl, fun _ => rfl⟩⟩
def tMap : Ty := ⟨Option Nat, .map, cMap, fun | .v (.map p) => some p | _ => none, fun x => .v (.map x), 1, false, fun s x e => (by split at e <;> cases e; rfl), fun _ => rfl, .inr ⟨rfl, fun _ => rfl⟩⟩
def cPV (x : PV) : List Value := [x.1]
/-- The form of a value of a function or an interface. -/
def asPV : Value → Option PV
  | .func a b c => some ⟨.func a b c, rfl, rfl⟩
  | .nilFunc => some ⟨.nilFunc, rfl, rfl⟩
  | .iface a b => some ⟨.iface a b, rfl, rfl⟩
  | .nilIface => some ⟨.nilIface, rfl, rfl⟩
  | _ => none
def tPV : Ty := ⟨PV, Subtype.val, cPV, fun | .pl x => some x | .v w => asPV w | _ => none, SV.pl, 1, false,
  fun s x e => (by
    split at e
    · cases e; rfl
    · unfold asPV at e; split at e <;> cases e <;> rfl
    · cases e), fun _ => rfl, .inr ⟨rfl, fun _ => rfl⟩⟩
/-- An address that is known to be one. -/
def tAdr : Ty := ⟨Addr, fun a => .pointer (some a), fun a => [.pointer (some a)], fun | .adr a => some a | .v (.pointer (some a)) => some a | _ => none, SV.adr, 1, false, fun s x e => (by split at e <;> cases e <;> rfl), fun _ => rfl, .inr ⟨rfl, fun _ => rfl⟩⟩
def tyOf : List (Nat × Ty) → Nat → Option Ty
  | [], _ => none
  | (i, τ) :: r, t => bif Nat.beq i t then some τ else tyOf r t

/-! Rows of types. -/
def Den : List Ty → Type
  | [] => Unit
  | [t] => t.T
  | t :: u :: r => t.T × Den (u :: r)
def valsD : (l : List Ty) → Den l → List Value
  | [], _ => []
  | [t], x => [t.val x]
  | t :: u :: r, x => t.val x.1 :: valsD (u :: r) x.2
def svsD : (l : List Ty) → Den l → List SV
  | [], _ => []
  | [t], x => [t.sv x]
  | t :: u :: r, x => t.sv x.1 :: svsD (u :: r) x.2
def decs : (l : List Ty) → List SV → Option (Den l)
  | [], [] => some ()
  | [t], [s] => t.dec s
  | t :: u :: r, s :: ss => match t.dec s, decs (u :: r) ss with | some x, some y => some (x, y) | _, _ => none
  | _, _ => none
/-- A function whose ways are known. -/
structure Spec (P : Program) : Type 1 where
  f : FuncId
  A : List Ty
  R : List Ty
  pure : Bool
  m : Den A → (Den R → HP) → HP
  ok : ∀ a K h, m a K h → ACall P f (valsD A a).toArray h (fun v h' => ∃ r, v = outV (valsD R r) ∧ K r h') noP
  callee : ∃ fn, Callee P f fn
structure Cx (P : Program) : Type 1 where
  ty : List (Nat × Ty)
  fs : List (Spec P)
  own : List Nat
  ents : List (Nat × Nat × Nat)
  mixed : P.follows .mixedOrders = true
def spec {P : Program} : List (Spec P) → FuncId → Option (Spec P)
  | [], _ => none
  | s :: r, f => bif Nat.beq s.f f then some s else spec r f

/-! What an operation does. -/
inductive Eff : Type 1
  | bad
  | ret (s : SV)
  | ask (X : Type) (w : (X → HP) → HP) (f : X → SV)
  | own (s : SV)
  | mem (X : Type) (w : (X → HP) → HP) (f : X → SV)
  | box (t : TypeId) (c : List Value) (lit : Option Nat)
  | set (i : Nat) (c : List (Option Value))
def St.put (st : St) (d : Option Tmp) (s : SV) : St := match d with
  | none => st
  | some d => ⟨T.set deep st.tr d s, st.bx⟩
def clr (i : Nat) : SV → SV
  | .box j o => bif Nat.beq j i then .no else .box j o
  | .lit j n => bif Nat.beq j i then .no else .lit j n
  | s => s
def litSV (d : Nat) : Option Nat → SV
  | none => .box d 0
  | some n => .lit d n
/-- The effect's run. 'how': 0 as what hangs on the temporaries alone, 1 on the own boxes too, 2 as what writes nothing, 3 as anything. -/
def run (how : Nat) (e : Eff) (d : Option Tmp) (st : St) (k : St → HP) : HP := match e with
  | .bad => nope
  | .ret s => k (st.put d s)
  | .own s => match Nat.beq how 0 with
    | true => nope
    | false => k (st.put d s)
  | .ask _ w f => match Nat.beq how 1 with
    | true => nope
    | false => w fun x => k (st.put d (f x))
  | .mem _ w f => match Nat.ble 2 how with
    | false => nope
    | true => w fun x => k (st.put d (f x))
  | .box t c lit => match Nat.ble 2 how with
    | false => nope
    | true => match d with
      | none => nope
      | some d => match findB st.bx d with
        | some _ => nope
        | none => k ⟨T.set deep (st.tr.map (clr d)) d (litSV d lit), ⟨d, t, c.map some, false⟩ :: st.bx⟩
  | .set i c => match Nat.beq how 3 with
    | true => k ⟨(st.put d .no).tr, setB st.bx i c⟩
    | false => nope

def sv (st : St) : Operand → SV
  | .tmp t => st.σ t
  | .const v => .v v
  | .global g => .adr ⟨g, 0, none⟩
  | .func f => .v (.func (.func f) #[] #[])
/-- The cells of a value, if each is of a plain form. -/
def plains (s : SV) : Option (List Value) := match s with
  | .v (.agg c) => bif c.toList.all plainVal then some c.toList else none
  | .v (.tuple _) => none
  | .v v => some [v]
  | .pl x => some [x.1]
  | .adr a => some [.pointer (some a)]
  | _ => none
def tyOk (P : Program) (t : TypeId) (τ : Ty) : Bool := match P.underlying t, P.info? t with
  | some td, some ti => match τ.agg with
    | true => aggB td && Nat.beq ti.size τ.n
    | false => !aggB td
  | _, _ => false
def mv : SV → Eff
  | .no => .bad
  | s => .ret s
section effs
variable (P : Program) (X : Cx P) (st : St)
def eLoad (t : TypeId) (x : Operand) : Eff := match sv st x with
  | .box i off => match findB st.bx i, P.underlying t, P.info? t with
    | some e, some td, some ti => match aggB td with
      | true => match grabO e.cells off ti.size with | some l => .own (.v (.agg l.toArray)) | none => .bad
      | false => match grabO e.cells off 1 with | some [v] => .own (.v v) | _ => .bad
    | _, _, _ => .bad
  | .adr a => match tyOf X.ty t with
    | some τ => match tyOk P t τ with | true => .mem τ.T (mLoad τ.cells a) τ.sv | false => .bad
    | none => .bad
  | _ => .bad
def eStore (t : TypeId) (x y : Operand) : Eff := match plains (sv st y), P.info? t with
  | some l, some ti => match Nat.beq l.length ti.size with
    | true => match sv st x with
      | .box i off => match findB st.bx i with
        | some e => match Nat.ble (off + l.length) e.cells.length with | true => .set i (layO e.cells off l) | false => .bad
        | none => .bad
      | .adr a => .mem Unit (fun k => mStore a l (k ())) (fun _ => .no)
      | _ => .bad
    | false => .bad
  | _, _ => .bad
def newE (d : Option Tmp) (t : TypeId) (c : Array Value) : Eff := match d with
  | some d => match memB X.own d with
    | true => .box t c.toList none
    | false => .mem Addr (mNew t c) .adr
  | none => .bad
def eAlloc (d : Option Tmp) (t : TypeId) : Eff := match P.info? t with
  | some ti => match ti.zero with | some z => newE P X d t z.cells | none => .bad
  | none => .bad
def eBox (d : Option Tmp) (t : TypeId) (x : Operand) : Eff := match sv st x with
  | .v w => newE P X d t w.cells
  | .pl x => newE P X d t #[x.1]
  | .adr a => newE P X d t #[.pointer (some a)]
  | _ => .bad
def ePick (c x y : Operand) : Eff := match sv st c with
  | .v (.bool b) => mv (bif b then sv st x else sv st y)
  | _ => .bad
def eNil (x : Operand) : Eff := match sv st x with
  | .adr a => .ret (.adr a)
  | .v (.pointer p) => .ask Addr (mDeref p) .adr
  | _ => .bad
def eFieldAddr (t : TypeId) (x : Operand) (i : Nat) : Eff := match P.underlying t with
  | some (.struct fs) => match fs.toList[i]? with
    | some f => match P.info? f.type with
      | some ti => match Nat.beq ti.size 0 with
        | false => match sv st x with
          | .adr a => .ret (.adr (a.add f.offset))
          | .box i off => match findB st.bx i with | some _ => .ret (.box i (off + f.offset)) | none => .bad
          | _ => .bad
        | true => .bad
      | none => .bad
    | none => .bad
  | _ => .bad
def eField (t : TypeId) (x : Operand) (i : Nat) : Eff := match P.underlying t, sv st x with
  | some (.struct fs), .v (.agg cs) => match fs.toList[i]? with
    | some f => match P.underlying f.type, P.info? f.type with
      | some td, some ti => match aggB td with
        | true => .ret (.v (.agg ((cs.toList.drop f.offset).take ti.size).toArray))
        | false => match cs.toList[f.offset]? with | some v => .ret (.v v) | none => .bad
      | _, _ => .bad
    | none => .bad
  | _, _ => .bad
def eExtract (x : Operand) (i : Nat) : Eff := match sv st x with
  | .v (.tuple vs) => match vs.toList[i]? with | some v => .ret (.v v) | none => .bad
  | _ => .bad
def eUn (op : UnOp) (x : Operand) : Eff := match op, sv st x with
  | .not, .v (.bool b) => .ret (.v (.bool !b))
  | .neg, .v (.int k a) => .ret (.v (.int k (iSub k 0 a)))
  | .xor, .v (.int k a) => .ret (.v (.int k (iNot k a)))
  | _, _ => .bad
/-- The kind of a conversion's source. -/
def eConv (s t : TypeId) (x : Operand) : Eff := match P.underlying s, P.underlying t, sv st x with
  | some _, some (.int k), .v (.int _ a) => .ret (.v (.int k (k.wrap a)))
  | some (.slice e), some .string, .v (.slice a l c) => match P.underlying e with
    | some (.int .u8) => .mem ByteArray (mText ⟨a, l, c⟩) (fun x => .v (.string x))
    | _ => .bad
  | some .string, some (.slice e), .v (.string b) => match P.underlying e with
    | some (.int .u8) => .mem Sl (mBytes e b) (fun x => .v x.val)
    | _ => .bad
  | _, _, _ => .bad
/-- Equality of two values of a type, by its text. -/
def partV (P : Program) (f : Field) (cs : Array Value) : Option Value := match P.underlying f.type, P.info? f.type with
  | some td, some ti => match aggB td with
    | true => some (.agg (cs.extract f.offset (f.offset + ti.size)))
    | false => cs.toList[f.offset]?
  | _, _ => none
def eqFs (P : Program) (eq : TypeId → Value → Value → Option Bool) : List Field → Array Value → Array Value → Option Bool
  | [], _, _ => some true
  | f :: r, xs, ys => match f.name == "_", partV P f xs, partV P f ys with
    | false, some x, some y => match eq f.type x y, eqFs P eq r xs ys with
      | some p, some q => some (p && q)
      | _, _ => none
    | _, _, _ => none
def eqV (P : Program) : Nat → TypeId → Value → Value → Option Bool
  | 0, _, _, _ => none
  | n + 1, t, x, y => match P.underlying t with
    | some (.int _) => match x, y with | .int j a, .int k b => (match decide (j = k) with | true => some (decide (a = b)) | false => none) | _, _ => none
    | some .bool => match x, y with | .bool a, .bool b => some (a == b) | _, _ => none
    | some .string => match x, y with | .string a, .string b => some (a == b) | _, _ => none
    | some (.struct fs) => match P.stoodInHeld t, x, y with
      | false, .agg xs, .agg ys => eqFs P (eqV P n) fs.toList xs ys
      | _, _, _ => none
    | _ => none
def isNilConst : Operand → Bool
  | .const (.pointer none) | .const (.map none) => true
  | .const (.slice none _ _) => true
  | _ => false
def eBin (op : BinOp) (t : TypeId) (x y : Operand) : Eff := match sv st x, sv st y with
  | .v (.int k a), .v (.int j b) => match op with
    | .shl => match y with
      | .const (.int _ n) => (match decide (0 ≤ n) with | true => .ret (.v (.int k (iShl k a n))) | false => .bad)
      | _ => .ask Unit (fun q => mNN b (q ())) (fun _ => .v (.int k (iShl k a b)))
    | .shr => match y with
      | .const (.int _ n) => (match decide (0 ≤ n) with | true => .ret (.v (.int k (iShr k a n))) | false => .bad)
      | _ => .ask Unit (fun q => mNN b (q ())) (fun _ => .v (.int k (iShr k a b)))
    | .quo => match decide (k = j) with
      | true => (match y with
        | .const (.int _ n) => (match decide (n = 0) with | false => .ret (.v (.int k (iQuo k a n))) | true => .bad)
        | _ => .ask Unit (fun q => mNZ b (q ())) (fun _ => .v (.int k (iQuo k a b))))
      | false => .bad
    | .rem => match decide (k = j) with
      | true => (match y with
        | .const (.int _ n) => (match decide (n = 0) with | false => .ret (.v (.int k (iRem k a n))) | true => .bad)
        | _ => .ask Unit (fun q => mNZ b (q ())) (fun _ => .v (.int k (iRem k a b))))
      | false => .bad
    | op => match decide (k = j) with
      | true => (match binI op k a b with | some v => .ret (.v v) | none => .bad)
      | false => .bad
  | .v (.string a), .v (.string b) => match op with
    | .add => .ask ByteArray (mCat a b) (fun x => .v (.string x))
    | op => (match binS op a b with | some v => .ret (.v v) | none => .bad)
  | .v (.bool a), .v (.bool b) => match P.underlying t, op with
    | some .bool, .eql => .ret (.v (.bool (a == b)))
    | some .bool, .neq => .ret (.v (.bool (!(a == b))))
    | _, _ => .bad
  | .v (.pointer p), .v (.pointer _) => match isNilConst y, P.underlying t, op with
    | true, some (.pointer _), .eql => .ret (.v (.bool p.isNone))
    | true, some (.pointer _), .neq => .ret (.v (.bool (!p.isNone)))
    | _, _, _ => .bad
  | .adr p, .v (.pointer _) => match isNilConst y, P.underlying t, op with
    | true, some (.pointer _), .eql => .ret (.v (.bool (some p).isNone))
    | true, some (.pointer _), .neq => .ret (.v (.bool (!(some p).isNone)))
    | _, _, _ => .bad
  | .v (.slice p _ _), .v (.slice _ _ _) => match isNilConst y, P.underlying t, op with
    | true, some (.slice _), .eql => .ret (.v (.bool p.isNone))
    | true, some (.slice _), .neq => .ret (.v (.bool (!p.isNone)))
    | _, _, _ => .bad
  | .v (.map p), .v (.map _) => match isNilConst y, P.underlying t, op with
    | true, some (.map _ _), .eql => .ret (.v (.bool p.isNone))
    | true, some (.map _ _), .neq => .ret (.v (.bool (!p.isNone)))
    | _, _, _ => .bad
  | .v (.agg xs), .v (.agg ys) => match P.eqGuardType P.depth t, eqV P 40 t (.agg xs) (.agg ys), op with
    | false, some b, .eql => .ret (.v (.bool b))
    | false, some b, .neq => .ret (.v (.bool (!b)))
    | _, _, _ => .bad
  | _, _ => .bad
/-- The values of operands, each written out. -/
def valOf? : SV → Option Value
  | .v v => some v
  | .pl x => some x.1
  | .adr a => some (.pointer (some a))
  | _ => none
def valsOf : List Operand → Option (List Value)
  | [] => some []
  | x :: r => match valOf? (sv st x), valsOf r with | some v, some l => some (v :: l) | _, _ => none
def partsOf : List (Nat × Operand) → Option (List (Nat × Value))
  | [] => some []
  | (i, x) :: r => match valOf? (sv st x), partsOf r with | some v, some l => some ((i, v) :: l) | _, _ => none
def eBuild (t : TypeId) (l : List (Nat × Operand)) : Eff := match P.underlying t, P.info? t with
  | some (.struct fs), some ti => match ti.zero, sizesOf P fs.toList, partsOf st l with
    | some z, some pl, some vl => match Instr.fill (fun i => pl.toArray[i]?) z.cells vl with
      | some cs => .ret (.v (.agg cs))
      | none => .bad
    | _, _, _ => .bad
  | _, _ => .bad
def eLit (d : Option Tmp) (t : TypeId) (n : Nat) (l : List (Nat × Operand)) : Eff := match P.underlying t with
  | some (.slice e) => match P.info? e with
    | some ti => match ti.zero, partsOf st l, Nat.ble (n * ti.size) (2 ^ 24) with
      | some z, some vl, true => match Instr.fill (fun i => some (i * ti.size, ti.size)) ((List.range (n * ti.size)).map fun j => (if n * ti.size = 0 then #[] else z.cells)[j % (if n * ti.size = 0 then #[] else z.cells).size]!).toArray vl with
        | some cs => match d with
          | some d => match memB X.own d with
            | true => .box e cs.toList (some n)
            | false => .mem Addr (mNew e cs) (fun a => .v (.slice (some a) n n))
          | none => .bad
        | none => .bad
      | _, _, _ => .bad
    | none => .bad
  | _ => .bad
def eIdxAddr (t : TypeId) (x j : Operand) : Eff := match P.underlying t, sv st x, sv st j with
  | some (.slice e), .v (.slice a l c), .v (.int _ i) => match P.info? e with
    | some ti => .ask Addr (mIdx ⟨a, l, c⟩ i ti.size) .adr
    | none => .bad
  | some (.array n e), .adr a, .v (.int _ i) => match P.info? e with
    | some ti => .ask Addr (mIdx ⟨some a, n, n⟩ i ti.size) .adr
    | none => .bad
  | _, _, _ => .bad
def eIdx (t : TypeId) (x j : Operand) : Eff := match P.underlying t, sv st x, sv st j with
  | some .string, .v (.string s), .v (.int _ i) => .ask Int (mByte s i) (fun x => .v (.int .u8 x))
  | _, _, _ => .bad
def bnd? (dflt : Int) : Option Operand → Option Int
  | none => some dflt
  | some x => match sv st x with | .v (.int _ n) => some n | _ => none
def eCut (t : TypeId) (x : Operand) (l r : Option Operand) : Eff := match P.underlying t, sv st x with
  | some (.slice e), .v (.slice a n c) => match P.info? e, bnd? st 0 l, bnd? st n r with
    | some ti, some lo, some hi => .ask Sl (mCut ⟨a, n, c⟩ lo hi ti.size) (fun s => .v s.val)
    | _, _, _ => .bad
  | some (.array n e), .adr a => match P.info? e, bnd? st 0 l, bnd? st n r with
    | some ti, some lo, some hi => .ask Sl (mCut ⟨some a, n, n⟩ lo hi ti.size) (fun s => .v s.val)
    | _, _, _ => .bad
  | some .string, .v (.string s) => match bnd? st 0 l, bnd? st s.size r with
    | some lo, some hi => .ask ByteArray (mSub s lo hi) (fun s => .v (.string s))
    | _, _ => .bad
  | _, _ => .bad
def eCut3 (t : TypeId) (x : Operand) (l : Option Operand) (r m : Operand) : Eff := match P.underlying t, sv st x with
  | some (.slice e), .v (.slice a n c) => match P.info? e, bnd? st 0 l, sv st r, sv st m with
    | some ti, some lo, .v (.int _ hi), .v (.int _ mx) => .ask Sl (mCut3 ⟨a, n, c⟩ lo hi mx ti.size) (fun s => .v s.val)
    | _, _, _, _ => .bad
  | _, _ => .bad
def eMakeSl (t : TypeId) (x y : Operand) : Eff := match P.underlying t, sv st x, sv st y with
  | some (.slice e), .v (.int _ n), .v (.int _ c) => match P.info? e with
    | some ti => match ti.zero with
      | some z => match Nat.beq z.cells.size ti.size with
        | true => .mem Sl (mMake e ti.bytes z.cells n c) (fun s => .v s.val)
        | false => .bad
      | none => .bad
    | none => .bad
  | _, _, _ => .bad
/-- Maps: what a key must be; the types of an entry. -/
def flatC : Value → Bool
  | .int _ _ => true
  | .string _ => true
  | .bool _ => true
  | _ => false
def flatV : Value → Bool
  | .agg cs => cs.toList.all flatC
  | v => flatC v
def keyOk (kt : TypeId) (kv : Value) : Bool := match eqV P 40 kt kv kv with
  | some _ => flatV kv
  | none => false
def entTy : List (Nat × Nat × Nat) → Nat → Option (Nat × Nat)
  | [], _ => none
  | (i, p) :: r, d => bif Nat.beq i d then some p else entTy r d
def eLookup (t : TypeId) (x key : Operand) (ok : Bool) : Eff := match P.underlying t, sv st x, valOf? (sv st key) with
  | some (.map kt et), .v (.map m), some kv => match keyOk P kt kv, P.info? et, tyOf X.ty et with
    | true, some ti, some τ => match ti.zero with
      | some z => match τ.dec (.v z) with
        | some z0 => match ok with
          | true => .mem (τ.T × Bool) (mLookup (eqV P 40 kt) τ.val z0 m kv) (fun r => .v (.tuple #[τ.val r.1, .bool r.2]))
          | false => .mem (τ.T × Bool) (mLookup (eqV P 40 kt) τ.val z0 m kv) (fun r => τ.sv r.1)
        | none => .bad
      | none => .bad
    | _, _, _ => .bad
  | _, _, _ => .bad
def eMapSet (t : TypeId) (x key val : Operand) : Eff := match P.underlying t, sv st x, valOf? (sv st key), valOf? (sv st val) with
  | some (.map kt _), .v (.map m), some kv, some w => match keyOk P kt kv with
    | true => .mem Unit (fun k => mMapSet (eqV P 40 kt) m kv w (k ())) (fun _ => .no)
    | false => .bad
  | _, _, _, _ => .bad
def eRange (t : TypeId) (x : Operand) : Eff := match P.underlying t, sv st x with
  | some (.map _ _), .v (.map m) => .mem Addr (mRange m) .adr
  | _, _ => .bad
def eNext (x : Operand) : Eff := match sv st x with
  | .adr a => .mem (Bool × List Value) (mNext a) (fun r => .v (.tuple ⟨.bool r.1 :: r.2⟩))
  | _ => .bad
def eEntry (d : Option Tmp) (x : Operand) : Eff := match d, sv st x with
  | some d, .adr a => match entTy X.ents d with
    | some (kt, et) => match tyOf X.ty kt, tyOf X.ty et with
      | some τ, some σ => .mem (τ.T × σ.T) (mEntry τ.val σ.val a) (fun r => .v (.tuple #[τ.val r.1, σ.val r.2]))
      | _, _ => .bad
    | none => .bad
  | _, _ => .bad
def eFunc (fn : Fn) (first cap : List Operand) : Eff := match fn, valsOf st first, valsOf st cap with
  | .func f, some fl, some vl => .ret (.v (.func (.func f) fl.toArray vl.toArray))
  | _, _, _ => .bad
def eBuiltin (b : Builtin) (args : List Operand) (ts : List TypeId) : Eff := match b, args, ts with
  | .len, [x], [t] => match P.underlying t, sv st x with
    | some .string, .v (.string s) => .ret (.v (.int .i64 s.size))
    | some (.slice _), .v (.slice _ l _) => .ret (.v (.int .i64 l))
    | some (.map _ _), .v (.map m) => .mem Int (mMapLen m) (fun n => .v (.int .i64 n))
    | _, _ => .bad
  | .clear, [x], [t] => match P.underlying t, sv st x with
    | some (.slice e), .v (.slice a l c) => match P.info? e with
      | some ti => match ti.zero with
        | some z => match z.cells.toList.all plainVal with
          | true => .mem Unit (fun k => mClear z.cells ⟨a, l, c⟩ (k ())) (fun _ => .no)
          | false => .bad
        | none => .bad
      | none => .bad
    | _, _ => .bad
  | .delete, [x, y], [t, _] => match P.underlying t, sv st x, valOf? (sv st y) with
    | some (.map kt _), .v (.map m), some kv => match keyOk P kt kv with
      | true => .mem Unit (fun k => mMapDel (eqV P 40 kt) m kv (k ())) (fun _ => .no)
      | false => .bad
    | _, _, _ => .bad
  | .min, [x, y], _ => match sv st x, sv st y with
    | .v (.int k a), .v (.int j b) => (match decide (k = j) with | true => .ret (.v (.int k (iMin a b))) | false => .bad)
    | _, _ => .bad
  | .max, [x, y], _ => match sv st x, sv st y with
    | .v (.int k a), .v (.int j b) => (match decide (k = j) with | true => .ret (.v (.int k (iMax a b))) | false => .bad)
    | _, _ => .bad
  | .append, [x, y], [t, t'] => match P.underlying t, P.underlying t', sv st x with
    | some (.slice e), some (.slice _), .v (.slice a l c) => match P.info? e with
      | some ti => match ti.zero, Nat.beq ti.bytes 0 with
        | some z, false => match sv st y with
          | .lit i n => match findB st.bx i with
            | some b => match grabO b.cells 0 (n * ti.size) with
              | some new => (match new.all plainVal with | true => .mem Sl (mApp e ti.size ti.bytes z.cells n new ⟨a, l, c⟩) (fun s => .v s.val) | false => .bad)
              | none => .bad
            | none => .bad
          | .v (.slice a' l' c') => .mem Sl (mAppend e ti.size ti.bytes z.cells ⟨a, l, c⟩ ⟨a', l', c'⟩) (fun s => .v s.val)
          | _ => .bad
        | _, _ => .bad
      | none => .bad
    | _, _, _ => .bad
  | _, _, _ => .bad
def svsOf : List Operand → List SV
  | [] => []
  | x :: r => sv st x :: svsOf r
/-- The types of a call's results. -/
def resTys (P : Program) (l : List (Nat × Ty)) (t : TypeId) : Option (List Ty) := match P.underlying t with
  | some (.tuple ts) => ts.toList.mapM (tyOf l)
  | _ => match tyOf l t with | some τ => some [τ] | none => none
def eCall (o : Oper) (c : Call) : Eff := match c.callee with
  | .builtin b => eBuiltin P st b c.args.toList c.argTypes.toList
  | .value (.func f) => match spec X.fs f with
    | some s => match decs s.A (svsOf st c.args.toList) with
      | some a => match s.pure with
        | true => .ask (Den s.R) (mPure (s.m a)) (fun r => .v (outV (valsD s.R r)))
        | false => .mem (Den s.R) (s.m a) (fun r => .v (outV (valsD s.R r)))
      | none => .bad
    | none => .bad
  | .value x => match valOf? (sv st x), valsOf st c.args.toList, resTys P X.ty o.type with
    | some fv, some vl, some R => .mem (Den R) (mCallV P (fun r => outV (valsD R r)) fv vl) (fun r => .v (outV (valsD R r)))
    | _, _, _ => .bad
  | _ => .bad
def effOf (o : Oper) : Eff := match o.op with
  | .move x => mv (sv st x)
  | .assign x => mv (sv st x)
  | .pick c x y => ePick st c x y
  | .load t x => eLoad P X st t x
  | .store t x y => eStore P st t x y
  | .alloc t => eAlloc P X o.dst t
  | .box t x => eBox P X st o.dst t x
  | .nilCheck x => eNil st x
  | .fieldAddr t x i => eFieldAddr P st t x i
  | .field t x i => eField P st t x i
  | .extract x i => eExtract st x i
  | .unOp op _ x => eUn st op x
  | .binOp op t x y _ => eBin P st op t x y
  | .convert s t x => eConv P st s t x
  | .build t l => eBuild P st t l.toList
  | .buildSlice t n l => eLit P X st o.dst t n l.toList
  | .indexAddr t x j => eIdxAddr P st t x j
  | .index t x j => eIdx P st t x j
  | .slice t x l r none => eCut P st t x l r
  | .slice t x l (some r) (some m) => eCut3 P st t x l r m
  | .makeSlice t x y => eMakeSl P st t x y
  | .makeMap _ none => .mem (Option Nat) mMakeMap (fun r => .v (.map r))
  | .lookup t x y ok => eLookup P X st t x y ok
  | .mapUpdate t x y z => eMapSet P st t x y z
  | .range t x => eRange P st t x
  | .next x false => eNext st x
  | .entry x => eEntry P X st o.dst x
  | .makeFunc fn first cap => eFunc st fn first.toList cap.toList
  | .call c => eCall P X st o c
  | _ => .bad
end effs
end Go.Proofs.Ytlnlmideghepnaa.K
