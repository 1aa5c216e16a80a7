/- A walk that computes: values of temporaries, own boxes, types, effects of operations. What the effects of operations say is what the model's operations do. What the effects of operations say is what the model's operations do: the rest. -/
import Derived.Test.YtiajjcboddaenaaK12
import Derived.Test.YtiajjcboddaenaaL1
namespace Go.Proofs.Ytiajjcboddaenaa.K
open Go

abbrev HP := H → Prop
/-! A falsehood of great height: the kernel unfolds what mentions it ahead of any printed function. -/
def no0 : Prop := False
def no1 := no0
def no2 := no1
def no3 := no2
def no4 := no3
def no5 := no4
def no6 := no5
def no7 := no6
def no8 := no7
def no9 := no8
def no10 := no9
def no11 := no10
def no12 := no11
def no13 := no12
def no14 := no13
def no15 := no14
def no16 := no15
def no17 := no16
def no18 := no17
def no19 := no18
def no20 := no19
def no21 := no20
def no22 := no21
def no23 := no22
def no24 := no23
def no25 := no24
def no26 := no25
def no27 := no26
def no28 := no27
def no29 := no28
def no30 := no29
def no31 := no30
def no32 := no31
def no33 := no32
def no34 := no33
def no35 := no34
def no36 := no35
def no37 := no36
def no38 := no37
def no39 := no38
def no40 := no39
def no41 := no40
def no42 := no41
def no43 := no42
def no44 := no43
def no45 := no44
def no46 := no45
def no47 := no46
def no48 := no47
def no49 := no48
def no50 := no49
def no51 := no50
def no52 := no51
def no53 := no52
def no54 := no53
def no55 := no54
def no56 := no55
def no57 := no56
def no58 := no57
def no59 := no58
def no60 := no59
def no61 := no60
def no62 := no61
def no63 := no62
def no64 := no63
def no65 := no64
def no66 := no65
def no67 := no66
def no68 := no67
def no69 := no68
def no70 := no69
def no71 := no70
def no72 := no71
def no73 := no72
def no74 := no73
def no75 := no74
def no76 := no75
def no77 := no76
def no78 := no77
def no79 := no78
def no80 := no79
def no81 := no80
def no82 := no81
def no83 := no82
def no84 := no83
def no85 := no84
def no86 := no85
def no87 := no86
def no88 := no87
def no89 := no88
def no90 := no89
def no91 := no90
def no92 := no91
def no93 := no92
def no94 := no93
def no95 := no94
def no96 := no95
def no97 := no96
def no98 := no97
def no99 := no98
def no100 := no99
def no101 := no100
def no102 := no101
def no103 := no102
def no104 := no103
def no105 := no104
def no106 := no105
def no107 := no106
def no108 := no107
def no109 := no108
def no110 := no109
def no111 := no110
def no112 := no111
def no113 := no112
def no114 := no113
def no115 := no114
def no116 := no115
def no117 := no116
def no118 := no117
def no119 := no118
def no120 := no119
def no121 := no120
def no122 := no121
def no123 := no122
def no124 := no123
def no125 := no124
def no126 := no125
def no127 := no126
def no128 := no127
def no129 := no128
def no130 := no129
def no131 := no130
def no132 := no131
def no133 := no132
def no134 := no133
def no135 := no134
def no136 := no135
def no137 := no136
def no138 := no137
def no139 := no138
def no140 := no139
def no141 := no140
def no142 := no141
def no143 := no142
def no144 := no143
def no145 := no144
def no146 := no145
def no147 := no146
def no148 := no147
def no149 := no148
def no150 := no149
def no151 := no150
def no152 := no151
def no153 := no152
def no154 := no153
def no155 := no154
def no156 := no155
def no157 := no156
def no158 := no157
def no159 := no158
def no160 := no159
def nope : HP := fun _ => no160
/-- A value of one cell that is known to be one. -/
abbrev PV := { v : Value // plainVal v = true ∧ v.cells = #[v] }
/-- What is known of a temporary: nothing, a value, a plain value of no known form, an address, a place in an own box, a slice over an own box. -/
inductive SV
  | no
  | v (v : Value)
  | pl (x : PV)
  | adr (a : Addr)
  | box (i off : Nat)
  | lit (i n : Nat)
/-- An own box: its name (the temporary that it was made for), its type, what is known of its cells. -/
structure Bx where
  key : Nat
  ty : TypeId
  cells : List (Option Value)
  dirty : Bool
/-- What is known of the temporaries, as a tree by their numbers: the root's is 0, on the left 2 n + 1, on the right 2 n + 2. -/
inductive T
  | e
  | n (l : T) (v : SV) (r : T)
def T.left : T → T
  | .e => .e
  | .n l _ _ => l
def T.val : T → SV
  | .e => .no
  | .n _ v _ => v
def T.right : T → T
  | .e => .e
  | .n _ _ r => r
def T.get : T → Nat → SV
  | .e, _ => .no
  | .n l v r, k => bif Nat.beq k 0 then v else bif Nat.beq (k % 2) 1 then l.get (k / 2) else r.get (k / 2 - 1)
def T.set : Nat → T → Nat → SV → T
  | 0, _, _, _ => .e
  | f + 1, t, k, v => bif Nat.beq k 0 then .n t.left v t.right else bif Nat.beq (k % 2) 1 then .n (T.set f t.left (k / 2) v) t.val t.right else .n t.left t.val (T.set f t.right (k / 2 - 1) v)
/-- All but what 'D' names. -/
def T.keep : T → (Nat → Bool) → T
  | .e, _ => .e
  | .n l v r, D => .n (l.keep fun k => D (2 * k + 1)) (bif D 0 then .no else v) (r.keep fun k => D (2 * k + 2))
def T.map (f : SV → SV) : T → T
  | .e => .e
  | .n l v r => .n (l.map f) (f v) (r.map f)
structure St where
  tr : T
  bx : List Bx
def St.σ (st : St) (t : Nat) : SV := st.tr.get t
theorem T.get_eq (t : T) (k : Nat) : t.get k = if k = 0 then t.val else if k % 2 = 1 then t.left.get (k / 2) else t.right.get (k / 2 - 1) := by
  have hb : ∀ a b : Nat, Nat.beq a b = decide (a = b) := fun a b => by
    rw [Bool.eq_iff_iff, Nat.beq_eq, decide_eq_true_eq]
  cases t with
  | e =>
    show SV.no = if k = 0 then .no else if k % 2 = 1 then .no else .no
    split <;> first | rfl | (split <;> rfl)
  | n l v r =>
    show (bif Nat.beq k 0 then v else bif Nat.beq (k % 2) 1 then l.get (k / 2) else r.get (k / 2 - 1)) = _
    rw [hb, hb]
    by_cases h0 : k = 0
    · simp [h0, T.val]
    · by_cases h1 : k % 2 = 1 <;> simp [h0, h1, T.left, T.right]
theorem T.get_set : ∀ (f : Nat) (t : T) (k : Nat) (v : SV) (k' : Nat), (T.set f t k v).get k' = .no ∨ (k' = k ∧ (T.set f t k v).get k' = v) ∨ (k' ≠ k ∧ (T.set f t k v).get k' = t.get k') := by
  have hb : ∀ a b : Nat, Nat.beq a b = decide (a = b) := fun a b => by
    rw [Bool.eq_iff_iff, Nat.beq_eq, decide_eq_true_eq]
  intro f
  induction f with
  | zero => intro t k v k'; exact .inl rfl
  | succ f ih =>
    intro t k v k'
    have hs : T.set (f + 1) t k v = if k = 0 then .n t.left v t.right else if k % 2 = 1 then .n (T.set f t.left (k / 2) v) t.val t.right else .n t.left t.val (T.set f t.right (k / 2 - 1) v) := by
      show (bif Nat.beq k 0 then T.n t.left v t.right else bif Nat.beq (k % 2) 1 then T.n (T.set f t.left (k / 2) v) t.val t.right else T.n t.left t.val (T.set f t.right (k / 2 - 1) v)) = _
      rw [hb, hb]
      by_cases h0 : k = 0
      · simp [h0]
      · by_cases h1 : k % 2 = 1 <;> simp [h0, h1]
    rw [hs]
    by_cases h0 : k = 0
    · rw [if_pos h0]
      rw [T.get_eq]
      by_cases g0 : k' = 0
      · rw [if_pos g0]; exact .inr (.inl ⟨by omega, rfl⟩)
      · rw [if_neg g0]
        refine .inr (.inr ⟨by omega, ?_⟩)
        rw [T.get_eq t k', if_neg g0]; rfl
    · rw [if_neg h0]
      by_cases h1 : k % 2 = 1
      · rw [if_pos h1, T.get_eq]
        by_cases g0 : k' = 0
        · rw [if_pos g0]
          refine .inr (.inr ⟨by omega, ?_⟩)
          rw [T.get_eq t k', if_pos g0]; rfl
        · rw [if_neg g0]
          by_cases g1 : k' % 2 = 1
          · rw [if_pos g1]
            show (T.set f t.left (k / 2) v).get (k' / 2) = _ ∨ _ ∧ (T.set f t.left (k / 2) v).get (k' / 2) = _ ∨ _ ∧ (T.set f t.left (k / 2) v).get (k' / 2) = _
            rcases ih t.left (k / 2) v (k' / 2) with q | ⟨q1, q2⟩ | ⟨q1, q2⟩
            · exact .inl q
            · exact .inr (.inl ⟨by omega, q2⟩)
            · refine .inr (.inr ⟨fun e => q1 (by rw [e]), ?_⟩)
              rw [q2, T.get_eq t k', if_neg g0, if_pos g1]
          · rw [if_neg g1]
            refine .inr (.inr ⟨fun e => g1 (by rw [e]; exact h1), ?_⟩)
            rw [T.get_eq t k', if_neg g0, if_neg g1]; rfl
      · rw [if_neg h1, T.get_eq]
        by_cases g0 : k' = 0
        · rw [if_pos g0]
          refine .inr (.inr ⟨by omega, ?_⟩)
          rw [T.get_eq t k', if_pos g0]; rfl
        · rw [if_neg g0]
          by_cases g1 : k' % 2 = 1
          · rw [if_pos g1]
            refine .inr (.inr ⟨fun e => h1 (by rw [← e]; exact g1), ?_⟩)
            rw [T.get_eq t k', if_neg g0, if_pos g1]; rfl
          · rw [if_neg g1]
            show (T.set f t.right (k / 2 - 1) v).get (k' / 2 - 1) = _ ∨ _ ∧ (T.set f t.right (k / 2 - 1) v).get (k' / 2 - 1) = _ ∨ _ ∧ (T.set f t.right (k / 2 - 1) v).get (k' / 2 - 1) = _
            rcases ih t.right (k / 2 - 1) v (k' / 2 - 1) with q | ⟨q1, q2⟩ | ⟨q1, q2⟩
            · exact .inl q
            · exact .inr (.inl ⟨by omega, q2⟩)
            · refine .inr (.inr ⟨fun e => q1 (by rw [e]), ?_⟩)
              rw [q2, T.get_eq t k', if_neg g0, if_neg g1]
theorem T.get_keep : ∀ (t : T) (D : Nat → Bool) (k : Nat), (t.keep D).get k = if D k then .no else t.get k := by
  intro t
  induction t with
  | e => intro D k; show SV.no = if D k then .no else .no; split <;> rfl
  | n l v r ihl ihr =>
    intro D k
    rw [T.get_eq, T.get_eq (.n l v r) k]
    show (if k = 0 then (bif D 0 then .no else v) else if k % 2 = 1 then (l.keep fun k => D (2 * k + 1)).get (k / 2) else (r.keep fun k => D (2 * k + 2)).get (k / 2 - 1)) = _
    rw [ihl, ihr]
    by_cases h0 : k = 0
    · subst h0; simp only [if_true]; cases D 0 <;> rfl
    · rw [if_neg h0, if_neg h0]
      by_cases h1 : k % 2 = 1
      · rw [if_pos h1, if_pos h1, show 2 * (k / 2) + 1 = k by omega]; rfl
      · rw [if_neg h1, if_neg h1, show 2 * (k / 2 - 1) + 2 = k by omega]; rfl
theorem T.get_map {f : SV → SV} (hf : f .no = .no) : ∀ (t : T) (k : Nat), (t.map f).get k = f (t.get k) := by
  intro t
  induction t with
  | e => intro k; exact hf.symm
  | n l v r ihl ihr =>
    intro k
    rw [T.get_eq, T.get_eq (.n l v r) k]
    show (if k = 0 then f v else if k % 2 = 1 then (l.map f).get (k / 2) else (r.map f).get (k / 2 - 1)) = _
    rw [ihl, ihr]
    by_cases h0 : k = 0
    · rw [if_pos h0, if_pos h0]; rfl
    · rw [if_neg h0, if_neg h0]
      by_cases h1 : k % 2 = 1
      · rw [if_pos h1, if_pos h1]; rfl
      · rw [if_neg h1, if_neg h1]; rfl
/-- The depth of the trees: more than the temporaries of any function. -/
def deep : Nat := 16

def InK (l : List Bx) (i : Nat) : Prop := ∃ e, e ∈ l ∧ e.key = i
def Rel (l : List Bx) (β : Nat → Nat) (x : Value) : SV → Prop
  | .no => True
  | .v v => x = v
  | .pl v => x = v.1
  | .adr a => x = .pointer (some a)
  | .box i off => InK l i → x = .pointer (some ⟨β i, off, none⟩)
  | .lit i n => InK l i → x = .slice (some ⟨β i, 0, none⟩) n n
def Known (c : Array Value) (l : List (Option Value)) : Prop := c.size = l.length ∧ ∀ (j : Nat) (v : Value), l[j]? = some (some v) → c[j]? = some v
def BoxOk (β : Nat → Nat) (L : H) (e : Bx) : Prop := ∃ c, L (β e.key) = some (.cells c e.ty (0, 0)) ∧ Known c e.cells
structure Ok (β : Nat → Nat) (st : St) (ρ : Env) (L : H) : Prop where
  slots : ∀ t, Rel st.bx β (ρ t) (st.σ t)
  boxes : ∀ e, e ∈ st.bx → BoxOk β L e
  inj : ∀ i j, InK st.bx i → InK st.bx j → β i = β j → i = j
  nd : (st.bx.map Bx.key).Nodup

def findB : List Bx → Nat → Option Bx
  | [], _ => none
  | e :: r, i => bif Nat.beq e.key i then some e else findB r i
def setB : List Bx → Nat → List (Option Value) → List Bx
  | [], _, _ => []
  | e :: r, i, c => bif Nat.beq e.key i then ⟨e.key, e.ty, c, true⟩ :: r else e :: setB r i c
def takeS : Nat → List (Option Value) → Option (List Value)
  | 0, _ => some []
  | n + 1, some v :: r => match takeS n r with | some l => some (v :: l) | none => none
  | _, _ => none
def grabO (l : List (Option Value)) (off n : Nat) : Option (List Value) := takeS n (l.drop off)
def layO : List (Option Value) → Nat → List Value → List (Option Value)
  | [], _, _ => []
  | _ :: r, 0, v :: vs => some v :: layO r 0 vs
  | c :: r, 0, [] => c :: r
  | c :: r, n + 1, vs => c :: layO r n vs

/-- A value that stands for itself. -/
def SV.is (s : SV) (v : Value) : Prop := match s with | .v u => v = u | .pl x => v = x.1 | .adr a => v = .pointer (some a) | _ => False
/-- A type of the printed functions: how its values lie in a temporary and in memory. -/
structure Ty : Type 1 where
  T : Type
  val : T → Value
  cells : T → List Value
  dec : SV → Option T
  sv : T → SV
  n : Nat
  agg : Bool
  law : ∀ s x, dec s = some x → s.is (val x)
  svl : ∀ x, (sv x).is (val x)
  hc : (agg = true ∧ ∀ x, val x = .agg (cells x).toArray ∧ (cells x).length = n) ∨ (agg = false ∧ ∀ x, cells x = [val x])
def tInt (k : IntKind) : Ty := ⟨Int, .int k, cInt k, fun | .v (.int j n) => bif decide (j = k) then some n else none | _ => none, fun x => .v (.int k x), 1, false,
  fun s x e => (by
    split at e
    · rename_i j n
      cases h : decide (j = k) <;> rw [h] at e
      · cases e
      · cases e; have := of_decide_eq_true h; subst this; rfl
    · cases e), fun _ => rfl, .inr ⟨rfl, fun _ => rfl⟩⟩
def tBool : Ty := ⟨Bool, .bool, cBool, fun | .v (.bool b) => some b | _ => none, fun x => .v (.bool x), 1, false, fun s x e => (by split at e <;> cases e; rfl), fun _ => rfl, .inr ⟨rfl, fun _ => rfl⟩⟩
def tStr : Ty := ⟨ByteArray, .string, cStr, fun | .v (.string b) => some b | _ => none, fun x => .v (.string x), 1, false, fun s x e => (by split at e <;> cases e; rfl), fun _ => rfl, .inr ⟨rfl, fun _ => rfl⟩⟩
def tSl : Ty := ⟨Sl, Sl.val, cSl, fun | .v (.slice a l c) => some ⟨a, l, c⟩ | _ => none, fun x => .v x.val, 1, false, fun s x e => (by split at e <;> cases e; rfl), fun _ => rfl, .inr ⟨rfl, fun _ => rfl⟩⟩
def tPtr : Ty := ⟨Option Addr, .pointer, cPtr, fun | .v (.pointer p) => some p | .adr a => some (some a) | _ => none, fun x => .v (.pointer x), 1, false, fun s x e => (by split at e <;> cases e <;> rfl), fun _ => rfl, .inr ⟨rfl, fun _ => rfl⟩⟩
def tMap : Ty := ⟨Option Nat, .map, cMap, fun | .v (.map p) => some p | _ => none, fun x => .v (.map x), 1, false, fun s x e => (by split at e <;> cases e; rfl), fun _ => rfl, .inr ⟨rfl, fun _ => rfl⟩⟩
def cPV (x : PV) : List Value := [x.1]
/-- The form of a value of a function or an interface. -/
def asPV : Value → Option PV
  | .func a b c => some ⟨.func a b c, rfl, rfl⟩
  | .nilFunc => some ⟨.nilFunc, rfl, rfl⟩
  | .iface a b => some ⟨.iface a b, rfl, rfl⟩
  | .nilIface => some ⟨.nilIface, rfl, rfl⟩
  | _ => none
def tPV : Ty := ⟨PV, Subtype.val, cPV, fun | .pl x => some x | .v w => asPV w | _ => none, SV.pl, 1, false,
  fun s x e => (by
    split at e
    · cases e; rfl
    · unfold asPV at e; split at e <;> cases e <;> rfl
    · cases e), fun _ => rfl, .inr ⟨rfl, fun _ => rfl⟩⟩
/-- An address that is known to be one. -/
def tAdr : Ty := ⟨Addr, fun a => .pointer (some a), fun a => [.pointer (some a)], fun | .adr a => some a | .v (.pointer (some a)) => some a | _ => none, SV.adr, 1, false, fun s x e => (by split at e <;> cases e <;> rfl), fun _ => rfl, .inr ⟨rfl, fun _ => rfl⟩⟩
def tyOf : List (Nat × Ty) → Nat → Option Ty
  | [], _ => none
  | (i, τ) :: r, t => bif Nat.beq i t then some τ else tyOf r t

/-! Rows of types. -/
def Den : List Ty → Type
  | [] => Unit
  | [t] => t.T
  | t :: u :: r => t.T × Den (u :: r)
def valsD : (l : List Ty) → Den l → List Value
  | [], _ => []
  | [t], x => [t.val x]
  | t :: u :: r, x => t.val x.1 :: valsD (u :: r) x.2
def svsD : (l : List Ty) → Den l → List SV
  | [], _ => []
  | [t], x => [t.sv x]
  | t :: u :: r, x => t.sv x.1 :: svsD (u :: r) x.2
def decs : (l : List Ty) → List SV → Option (Den l)
  | [], [] => some ()
  | [t], [s] => t.dec s
  | t :: u :: r, s :: ss => match t.dec s, decs (u :: r) ss with | some x, some y => some (x, y) | _, _ => none
  | _, _ => none
/-- A function whose ways are known. -/
structure Spec (P : Program) : Type 1 where
  f : FuncId
  A : List Ty
  R : List Ty
  pure : Bool
  m : Den A → (Den R → HP) → HP
  ok : ∀ a K h, m a K h → ACall P f (valsD A a).toArray h (fun v h' => ∃ r, v = outV (valsD R r) ∧ K r h') noP
  callee : ∃ fn, Callee P f fn
structure Cx (P : Program) : Type 1 where
  ty : List (Nat × Ty)
  fs : List (Spec P)
  own : List Nat
  ents : List (Nat × Nat × Nat)
  mixed : P.follows .mixedOrders = true
def spec {P : Program} : List (Spec P) → FuncId → Option (Spec P)
  | [], _ => none
  | s :: r, f => bif Nat.beq s.f f then some s else spec r f

/-! What an operation does. -/
inductive Eff : Type 1
  | bad
  | ret (s : SV)
  | ask (X : Type) (w : (X → HP) → HP) (f : X → SV)
  | own (s : SV)
  | mem (X : Type) (w : (X → HP) → HP) (f : X → SV)
  | box (t : TypeId) (c : List Value) (lit : Option Nat)
  | set (i : Nat) (c : List (Option Value))
def St.put (st : St) (d : Option Tmp) (s : SV) : St := match d with
  | none => st
  | some d => ⟨T.set deep st.tr d s, st.bx⟩
def clr (i : Nat) : SV → SV
  | .box j o => bif Nat.beq j i then .no else .box j o
  | .lit j n => bif Nat.beq j i then .no else .lit j n
  | s => s
def litSV (d : Nat) : Option Nat → SV
  | none => .box d 0
  | some n => .lit d n
/-- The effect's run. 'how': 0 as what hangs on the temporaries alone, 1 on the own boxes too, 2 as what writes nothing, 3 as anything. -/
def run (how : Nat) (e : Eff) (d : Option Tmp) (st : St) (k : St → HP) : HP := match e with
  | .bad => nope
  | .ret s => k (st.put d s)
  | .own s => match Nat.beq how 0 with
    | true => nope
    | false => k (st.put d s)
  | .ask _ w f => match Nat.beq how 1 with
    | true => nope
    | false => w fun x => k (st.put d (f x))
  | .mem _ w f => match Nat.ble 2 how with
    | false => nope
    | true => w fun x => k (st.put d (f x))
  | .box t c lit => match Nat.ble 2 how with
    | false => nope
    | true => match d with
      | none => nope
      | some d => match findB st.bx d with
        | some _ => nope
        | none => k ⟨T.set deep (st.tr.map (clr d)) d (litSV d lit), ⟨d, t, c.map some, false⟩ :: st.bx⟩
  | .set i c => match Nat.beq how 3 with
    | true => k ⟨(st.put d .no).tr, setB st.bx i c⟩
    | false => nope

def sv (st : St) : Operand → SV
  | .tmp t => st.σ t
  | .const v => .v v
  | .global g => .adr ⟨g, 0, none⟩
  | .func f => .v (.func (.func f) #[] #[])
/-- The cells of a value, if each is of a plain form. -/
def plains (s : SV) : Option (List Value) := match s with
  | .v (.agg c) => bif c.toList.all plainVal then some c.toList else none
  | .v (.tuple _) => none
  | .v v => some [v]
  | .pl x => some [x.1]
  | .adr a => some [.pointer (some a)]
  | _ => none
def tyOk (P : Program) (t : TypeId) (τ : Ty) : Bool := match P.underlying t, P.info? t with
  | some td, some ti => match τ.agg with
    | true => aggB td && Nat.beq ti.size τ.n
    | false => !aggB td
  | _, _ => false
def mv : SV → Eff
  | .no => .bad
  | s => .ret s
section effs
variable (P : Program) (X : Cx P) (st : St)
def eLoad (t : TypeId) (x : Operand) : Eff := match sv st x with
  | .box i off => match findB st.bx i, P.underlying t, P.info? t with
    | some e, some td, some ti => match aggB td with
      | true => match grabO e.cells off ti.size with | some l => .own (.v (.agg l.toArray)) | none => .bad
      | false => match grabO e.cells off 1 with | some [v] => .own (.v v) | _ => .bad
    | _, _, _ => .bad
  | .adr a => match tyOf X.ty t with
    | some τ => match tyOk P t τ with | true => .mem τ.T (mLoad τ.cells a) τ.sv | false => .bad
    | none => .bad
  | _ => .bad
def eStore (t : TypeId) (x y : Operand) : Eff := match plains (sv st y), P.info? t with
  | some l, some ti => match Nat.beq l.length ti.size with
    | true => match sv st x with
      | .box i off => match findB st.bx i with
        | some e => match Nat.ble (off + l.length) e.cells.length with | true => .set i (layO e.cells off l) | false => .bad
        | none => .bad
      | .adr a => .mem Unit (fun k => mStore a l (k ())) (fun _ => .no)
      | _ => .bad
    | false => .bad
  | _, _ => .bad
def newE (d : Option Tmp) (t : TypeId) (c : Array Value) : Eff := match d with
  | some d => match memB X.own d with
    | true => .box t c.toList none
    | false => .mem Addr (mNew t c) .adr
  | none => .bad
def eAlloc (d : Option Tmp) (t : TypeId) : Eff := match P.info? t with
  | some ti => match ti.zero with | some z => newE P X d t z.cells | none => .bad
  | none => .bad
def eBox (d : Option Tmp) (t : TypeId) (x : Operand) : Eff := match sv st x with
  | .v w => newE P X d t w.cells
  | .pl x => newE P X d t #[x.1]
  | .adr a => newE P X d t #[.pointer (some a)]
  | _ => .bad
def ePick (c x y : Operand) : Eff := match sv st c with
  | .v (.bool b) => mv (bif b then sv st x else sv st y)
  | _ => .bad
def eNil (x : Operand) : Eff := match sv st x with
  | .adr a => .ret (.adr a)
  | .v (.pointer p) => .ask Addr (mDeref p) .adr
  | _ => .bad
def eFieldAddr (t : TypeId) (x : Operand) (i : Nat) : Eff := match P.underlying t with
  | some (.struct fs) => match fs.toList[i]? with
    | some f => match P.info? f.type with
      | some ti => match Nat.beq ti.size 0 with
        | false => match sv st x with
          | .adr a => .ret (.adr (a.add f.offset))
          | .box i off => match findB st.bx i with | some _ => .ret (.box i (off + f.offset)) | none => .bad
          | _ => .bad
        | true => .bad
      | none => .bad
    | none => .bad
  | _ => .bad
def eField (t : TypeId) (x : Operand) (i : Nat) : Eff := match P.underlying t, sv st x with
  | some (.struct fs), .v (.agg cs) => match fs.toList[i]? with
    | some f => match P.underlying f.type, P.info? f.type with
      | some td, some ti => match aggB td with
        | true => .ret (.v (.agg ((cs.toList.drop f.offset).take ti.size).toArray))
        | false => match cs.toList[f.offset]? with | some v => .ret (.v v) | none => .bad
      | _, _ => .bad
    | none => .bad
  | _, _ => .bad
def eExtract (x : Operand) (i : Nat) : Eff := match sv st x with
  | .v (.tuple vs) => match vs.toList[i]? with | some v => .ret (.v v) | none => .bad
  | _ => .bad
def eUn (op : UnOp) (x : Operand) : Eff := match op, sv st x with
  | .not, .v (.bool b) => .ret (.v (.bool !b))
  | .neg, .v (.int k a) => .ret (.v (.int k (iSub k 0 a)))
  | .xor, .v (.int k a) => .ret (.v (.int k (iNot k a)))
  | _, _ => .bad
/-- The kind of a conversion's source. -/
def eConv (s t : TypeId) (x : Operand) : Eff := match P.underlying s, P.underlying t, sv st x with
  | some _, some (.int k), .v (.int _ a) => .ret (.v (.int k (k.wrap a)))
  | some (.slice e), some .string, .v (.slice a l c) => match P.underlying e with
    | some (.int .u8) => .mem ByteArray (mText ⟨a, l, c⟩) (fun x => .v (.string x))
    | _ => .bad
  | some .string, some (.slice e), .v (.string b) => match P.underlying e with
    | some (.int .u8) => .mem Sl (mBytes e b) (fun x => .v x.val)
    | _ => .bad
  | some (.slice _), some (.slice e), .v (.slice a l c) => match decide (s = t), P.underlying e with
    | true, some (.int .u8) => .mem Sl (mMark ⟨a, l, c⟩) (fun x => .v x.val)
    | _, _ => .bad
  | _, _, _ => .bad
/-- Equality of two values of a type, by its text. -/
def partV (P : Program) (f : Field) (cs : Array Value) : Option Value := match P.underlying f.type, P.info? f.type with
  | some td, some ti => match aggB td with
    | true => some (.agg (cs.extract f.offset (f.offset + ti.size)))
    | false => cs.toList[f.offset]?
  | _, _ => none
def eqFs (P : Program) (eq : TypeId → Value → Value → Option Bool) : List Field → Array Value → Array Value → Option Bool
  | [], _, _ => some true
  | f :: r, xs, ys => match f.name == "_", partV P f xs, partV P f ys with
    | false, some x, some y => match eq f.type x y, eqFs P eq r xs ys with
      | some p, some q => some (p && q)
      | _, _ => none
    | _, _, _ => none
def eqV (P : Program) : Nat → TypeId → Value → Value → Option Bool
  | 0, _, _, _ => none
  | n + 1, t, x, y => match P.underlying t with
    | some (.int _) => match x, y with | .int j a, .int k b => (match decide (j = k) with | true => some (decide (a = b)) | false => none) | _, _ => none
    | some .bool => match x, y with | .bool a, .bool b => some (a == b) | _, _ => none
    | some .string => match x, y with | .string a, .string b => some (a == b) | _, _ => none
    | some (.struct fs) => match P.stoodInHeld t, x, y with
      | false, .agg xs, .agg ys => eqFs P (eqV P n) fs.toList xs ys
      | _, _, _ => none
    | _ => none
/-- .. of arrays too. -/
def eqW (P : Program) (n : Nat) (t : TypeId) (x y : Value) : Option Bool := match P.underlying t with
  | some (.array len e) => match P.info? e, x, y with
    | some ti, .agg xs, .agg ys => eqFs P (eqV P n) (elems e ti.size (List.range len)) xs ys
    | _, _, _ => none
  | _ => eqV P n t x y
def isNilConst : Operand → Bool
  | .const (.pointer none) | .const (.map none) => true
  | .const (.slice none _ _) => true
  | _ => false
def eBin (op : BinOp) (t : TypeId) (x y : Operand) : Eff := match sv st x, sv st y with
  | .v (.int k a), .v (.int j b) => match op with
    | .shl => match y with
      | .const (.int _ n) => (match decide (0 ≤ n) with | true => .ret (.v (.int k (iShl k a n))) | false => .bad)
      | _ => .ask Unit (fun q => mNN b (q ())) (fun _ => .v (.int k (iShl k a b)))
    | .shr => match y with
      | .const (.int _ n) => (match decide (0 ≤ n) with | true => .ret (.v (.int k (iShr k a n))) | false => .bad)
      | _ => .ask Unit (fun q => mNN b (q ())) (fun _ => .v (.int k (iShr k a b)))
    | .quo => match decide (k = j) with
      | true => (match y with
        | .const (.int _ n) => (match decide (n = 0) with | false => .ret (.v (.int k (iQuo k a n))) | true => .bad)
        | _ => .ask Unit (fun q => mNZ b (q ())) (fun _ => .v (.int k (iQuo k a b))))
      | false => .bad
    | .rem => match decide (k = j) with
      | true => (match y with
        | .const (.int _ n) => (match decide (n = 0) with | false => .ret (.v (.int k (iRem k a n))) | true => .bad)
        | _ => .ask Unit (fun q => mNZ b (q ())) (fun _ => .v (.int k (iRem k a b))))
      | false => .bad
    | op => match decide (k = j) with
      | true => (match binI op k a b with | some v => .ret (.v v) | none => .bad)
      | false => .bad
  | .v (.string a), .v (.string b) => match op with
    | .add => .ask ByteArray (mCat a b) (fun x => .v (.string x))
    | op => (match binS op a b with | some v => .ret (.v v) | none => .bad)
  | .v (.bool a), .v (.bool b) => match P.underlying t, op with
    | some .bool, .eql => .ret (.v (.bool (a == b)))
    | some .bool, .neq => .ret (.v (.bool (!(a == b))))
    | _, _ => .bad
  | .v (.pointer p), .v (.pointer _) => match isNilConst y, P.underlying t, op with
    | true, some (.pointer _), .eql => .ret (.v (.bool p.isNone))
    | true, some (.pointer _), .neq => .ret (.v (.bool (!p.isNone)))
    | _, _, _ => .bad
  | .adr p, .v (.pointer _) => match isNilConst y, P.underlying t, op with
    | true, some (.pointer _), .eql => .ret (.v (.bool (some p).isNone))
    | true, some (.pointer _), .neq => .ret (.v (.bool (!(some p).isNone)))
    | _, _, _ => .bad
  | .v (.slice p _ _), .v (.slice _ _ _) => match isNilConst y, P.underlying t, op with
    | true, some (.slice _), .eql => .ret (.v (.bool p.isNone))
    | true, some (.slice _), .neq => .ret (.v (.bool (!p.isNone)))
    | _, _, _ => .bad
  | .v (.map p), .v (.map _) => match isNilConst y, P.underlying t, op with
    | true, some (.map _ _), .eql => .ret (.v (.bool p.isNone))
    | true, some (.map _ _), .neq => .ret (.v (.bool (!p.isNone)))
    | _, _, _ => .bad
  | .v (.agg xs), .v (.agg ys) => match P.eqGuardType P.depth t, eqW P 40 t (.agg xs) (.agg ys), op with
    | false, some b, .eql => .ret (.v (.bool b))
    | false, some b, .neq => .ret (.v (.bool (!b)))
    | _, _, _ => .bad
  | _, _ => .bad
/-- The values of operands, each written out. -/
def valOf? : SV → Option Value
  | .v v => some v
  | .pl x => some x.1
  | .adr a => some (.pointer (some a))
  | _ => none
def valsOf : List Operand → Option (List Value)
  | [] => some []
  | x :: r => match valOf? (sv st x), valsOf r with | some v, some l => some (v :: l) | _, _ => none
def partsOf : List (Nat × Operand) → Option (List (Nat × Value))
  | [] => some []
  | (i, x) :: r => match valOf? (sv st x), partsOf r with | some v, some l => some ((i, v) :: l) | _, _ => none
def eBuild (t : TypeId) (l : List (Nat × Operand)) : Eff := match P.underlying t, P.info? t with
  | some (.struct fs), some ti => match ti.zero, sizesOf P fs.toList, partsOf st l with
    | some z, some pl, some vl => match Instr.fill (fun i => pl.toArray[i]?) z.cells vl with
      | some cs => .ret (.v (.agg cs))
      | none => .bad
    | _, _, _ => .bad
  | some (.array _ e), some ti => match ti.zero, P.info? e, partsOf st l with
    | some z, some te, some vl => match Instr.fill (fun i => some (i * te.size, te.size)) z.cells vl with
      | some cs => .ret (.v (.agg cs))
      | none => .bad
    | _, _, _ => .bad
  | _, _ => .bad
def eLit (d : Option Tmp) (t : TypeId) (n : Nat) (l : List (Nat × Operand)) : Eff := match P.underlying t with
  | some (.slice e) => match P.info? e with
    | some ti => match ti.zero, partsOf st l, Nat.ble (n * ti.size) (2 ^ 24) with
      | some z, some vl, true => match Instr.fill (fun i => some (i * ti.size, ti.size)) ((List.range (n * ti.size)).map fun j => (if n * ti.size = 0 then #[] else z.cells)[j % (if n * ti.size = 0 then #[] else z.cells).size]!).toArray vl with
        | some cs => match d with
          | some d => match memB X.own d with
            | true => .box e cs.toList (some n)
            | false => .mem Addr (mNew e cs) (fun a => .v (.slice (some a) n n))
          | none => .bad
        | none => .bad
      | _, _, _ => .bad
    | none => .bad
  | _ => .bad
def eIdxAddr (t : TypeId) (x j : Operand) : Eff := match P.underlying t, sv st x, sv st j with
  | some (.slice e), .v (.slice a l c), .v (.int _ i) => match P.info? e with
    | some ti => .ask Addr (mIdx ⟨a, l, c⟩ i ti.size) .adr
    | none => .bad
  | some (.array n e), .adr a, .v (.int _ i) => match P.info? e with
    | some ti => .ask Addr (mIdx ⟨some a, n, n⟩ i ti.size) .adr
    | none => .bad
  | _, _, _ => .bad
/-- The parts of a row of cells. -/
def chunks (sz : Nat) : Nat → List Value → List (List Value)
  | 0, _ => []
  | n + 1, l => l.take sz :: chunks sz n (l.drop sz)
def decA (τ : Ty) : List (List Value) → Option (List τ.T)
  | [] => some []
  | c :: r => match τ.dec (.v (match τ.agg with | true => .agg c.toArray | false => c.headD undef)), decA τ r with
    | some x, some l => some (x :: l)
    | _, _ => none
def eIdx (t : TypeId) (x j : Operand) : Eff := match P.underlying t, sv st x, sv st j with
  | some .string, .v (.string s), .v (.int _ i) => .ask Int (mByte s i) (fun x => .v (.int .u8 x))
  | some (.array n e), .v (.agg cs), .v (.int _ i) => match P.info? e, tyOf X.ty e with
    | some te, some τ => match tyOk P e τ && (τ.agg || Nat.beq te.size 1 && Nat.beq cs.toList.length n), decA τ (chunks te.size n cs.toList) with
      | true, some l => .ask τ.T (mNth l i) τ.sv
      | _, _ => .bad
    | _, _ => .bad
  | _, _, _ => .bad
def isIface : TypeDesc → Bool
  | .interface _ => true
  | _ => false
def eIface (t : TypeId) (x : Operand) : Eff := match P.underlying t, valOf? (sv st x) with
  | some td, some v => match isIface td with | false => .ret (.v (.iface t v)) | true => .bad
  | _, _ => .bad
def eAssert (t : TypeId) (x : Operand) (ok : Bool) : Eff := match P.underlying t, P.info? t, tyOf X.ty t, valOf? (sv st x) with
  | some td, some ti, some τ, some fv => match isIface td, ok, ti.zero with
    | false, true, some z => match τ.dec (.v z) with
      | some z0 => .ask (τ.T × Bool) (mAssert τ.val z0 t fv) (fun r => .v (.tuple #[τ.val r.1, .bool r.2]))
      | none => .bad
    | false, false, _ => .ask τ.T (mAssert1 τ.val t fv) τ.sv
    | _, _, _ => .bad
  | _, _, _, _ => .bad
def bnd? (dflt : Int) : Option Operand → Option Int
  | none => some dflt
  | some x => match sv st x with | .v (.int _ n) => some n | _ => none
def eCut (t : TypeId) (x : Operand) (l r : Option Operand) : Eff := match P.underlying t, sv st x with
  | some (.slice e), .v (.slice a n c) => match P.info? e, bnd? st 0 l, bnd? st n r with
    | some ti, some lo, some hi => .ask Sl (mCut ⟨a, n, c⟩ lo hi ti.size) (fun s => .v s.val)
    | _, _, _ => .bad
  | some (.array n e), .adr a => match P.info? e, bnd? st 0 l, bnd? st n r with
    | some ti, some lo, some hi => .ask Sl (mCut ⟨some a, n, n⟩ lo hi ti.size) (fun s => .v s.val)
    | _, _, _ => .bad
  | some .string, .v (.string s) => match bnd? st 0 l, bnd? st s.size r with
    | some lo, some hi => .ask ByteArray (mSub s lo hi) (fun s => .v (.string s))
    | _, _ => .bad
  | _, _ => .bad
def eCut3 (t : TypeId) (x : Operand) (l : Option Operand) (r m : Operand) : Eff := match P.underlying t, sv st x with
  | some (.slice e), .v (.slice a n c) => match P.info? e, bnd? st 0 l, sv st r, sv st m with
    | some ti, some lo, .v (.int _ hi), .v (.int _ mx) => .ask Sl (mCut3 ⟨a, n, c⟩ lo hi mx ti.size) (fun s => .v s.val)
    | _, _, _, _ => .bad
  | _, _ => .bad
def eMakeSl (t : TypeId) (x y : Operand) : Eff := match P.underlying t, sv st x, sv st y with
  | some (.slice e), .v (.int _ n), .v (.int _ c) => match P.info? e with
    | some ti => match ti.zero with
      | some z => match Nat.beq z.cells.size ti.size with
        | true => .mem Sl (mMake e ti.bytes z.cells n c) (fun s => .v s.val)
        | false => .bad
      | none => .bad
    | none => .bad
  | _, _, _ => .bad
/-- Maps: what a key must be; the types of an entry. -/
def flatC : Value → Bool
  | .int _ _ => true
  | .string _ => true
  | .bool _ => true
  | _ => false
def flatV : Value → Bool
  | .agg cs => cs.toList.all flatC
  | v => flatC v
def keyOk (kt : TypeId) (kv : Value) : Bool := match eqV P 40 kt kv kv with
  | some _ => flatV kv
  | none => false
def entTy : List (Nat × Nat × Nat) → Nat → Option (Nat × Nat)
  | [], _ => none
  | (i, p) :: r, d => bif Nat.beq i d then some p else entTy r d
def eLookup (t : TypeId) (x key : Operand) (ok : Bool) : Eff := match P.underlying t, sv st x, valOf? (sv st key) with
  | some (.map kt et), .v (.map m), some kv => match keyOk P kt kv, P.info? et, tyOf X.ty et with
    | true, some ti, some τ => match ti.zero with
      | some z => match τ.dec (.v z) with
        | some z0 => match ok with
          | true => .mem (τ.T × Bool) (mLookup (eqV P 40 kt) τ.val z0 m kv) (fun r => .v (.tuple #[τ.val r.1, .bool r.2]))
          | false => .mem (τ.T × Bool) (mLookup (eqV P 40 kt) τ.val z0 m kv) (fun r => τ.sv r.1)
        | none => .bad
      | none => .bad
    | _, _, _ => .bad
  | _, _, _ => .bad
def eMapSet (t : TypeId) (x key val : Operand) : Eff := match P.underlying t, sv st x, valOf? (sv st key), valOf? (sv st val) with
  | some (.map kt _), .v (.map m), some kv, some w => match keyOk P kt kv with
    | true => .mem Unit (fun k => mMapSet (eqV P 40 kt) m kv w (k ())) (fun _ => .no)
    | false => .bad
  | _, _, _, _ => .bad
def eRange (t : TypeId) (x : Operand) : Eff := match P.underlying t, sv st x with
  | some (.map _ _), .v (.map m) => .mem Addr (mRange m) .adr
  | _, _ => .bad
def eNext (x : Operand) : Eff := match sv st x with
  | .adr a => .mem (Bool × List Value) (mNext a) (fun r => .v (.tuple ⟨.bool r.1 :: r.2⟩))
  | _ => .bad
def eEntry (d : Option Tmp) (x : Operand) : Eff := match d, sv st x with
  | some d, .adr a => match entTy X.ents d with
    | some (kt, et) => match tyOf X.ty kt, tyOf X.ty et with
      | some τ, some σ => .mem (τ.T × σ.T) (mEntry τ.val σ.val a) (fun r => .v (.tuple #[τ.val r.1, σ.val r.2]))
      | _, _ => .bad
    | none => .bad
  | _, _ => .bad
def eFunc (fn : Fn) (first cap : List Operand) : Eff := match fn, valsOf st first, valsOf st cap with
  | .func f, some fl, some vl => .ret (.v (.func (.func f) fl.toArray vl.toArray))
  | _, _, _ => .bad
def eBuiltin (b : Builtin) (args : List Operand) (ts : List TypeId) : Eff := match b, args, ts with
  | .len, [x], [t] => match P.underlying t, sv st x with
    | some .string, .v (.string s) => .ret (.v (.int .i64 s.size))
    | some (.slice _), .v (.slice _ l _) => .ret (.v (.int .i64 l))
    | some (.map _ _), .v (.map m) => .mem Int (mMapLen m) (fun n => .v (.int .i64 n))
    | _, _ => .bad
  | .clear, [x], [t] => match P.underlying t, sv st x with
    | some (.slice e), .v (.slice a l c) => match P.info? e with
      | some ti => match ti.zero with
        | some z => match z.cells.toList.all plainVal with
          | true => .mem Unit (fun k => mClear z.cells ⟨a, l, c⟩ (k ())) (fun _ => .no)
          | false => .bad
        | none => .bad
      | none => .bad
    | _, _ => .bad
  | .copy, [x, y], [t, _] => match P.underlying t, sv st x, sv st y with
    | some (.slice e), .v (.slice a l c), .v (.slice a' l' c') => match P.info? e with
      | some ti => .mem Int (mCopy ti.size ⟨a, l, c⟩ ⟨a', l', c'⟩) (fun n => .v (.int .i64 n))
      | none => .bad
    | _, _, _ => .bad
  | .delete, [x, y], [t, _] => match P.underlying t, sv st x, valOf? (sv st y) with
    | some (.map kt _), .v (.map m), some kv => match keyOk P kt kv with
      | true => .mem Unit (fun k => mMapDel (eqV P 40 kt) m kv (k ())) (fun _ => .no)
      | false => .bad
    | _, _, _ => .bad
  | .min, [x, y], _ => match sv st x, sv st y with
    | .v (.int k a), .v (.int j b) => (match decide (k = j) with | true => .ret (.v (.int k (iMin a b))) | false => .bad)
    | _, _ => .bad
  | .max, [x, y], _ => match sv st x, sv st y with
    | .v (.int k a), .v (.int j b) => (match decide (k = j) with | true => .ret (.v (.int k (iMax a b))) | false => .bad)
    | _, _ => .bad
  | .append, [x, y], [t, t'] => match P.underlying t, P.underlying t', sv st x with
    | some (.slice e), some (.slice _), .v (.slice a l c) => match P.info? e with
      | some ti => match ti.zero, Nat.beq ti.bytes 0 with
        | some z, false => match sv st y with
          | .lit i n => match findB st.bx i with
            | some b => match grabO b.cells 0 (n * ti.size) with
              | some new => (match new.all plainVal with | true => .mem Sl (mApp e ti.size ti.bytes z.cells n new ⟨a, l, c⟩) (fun s => .v s.val) | false => .bad)
              | none => .bad
            | none => .bad
          | .v (.slice a' l' c') => .mem Sl (mAppend e ti.size ti.bytes z.cells ⟨a, l, c⟩ ⟨a', l', c'⟩) (fun s => .v s.val)
          | _ => .bad
        | _, _ => .bad
      | none => .bad
    | _, _, _ => .bad
  | _, _, _ => .bad
def svsOf : List Operand → List SV
  | [] => []
  | x :: r => sv st x :: svsOf r
/-- The types of a call's results. -/
def resTys (P : Program) (l : List (Nat × Ty)) (t : TypeId) : Option (List Ty) := match P.underlying t with
  | some (.tuple ts) => ts.toList.mapM (tyOf l)
  | _ => match tyOf l t with | some τ => some [τ] | none => none
def eCall (o : Oper) (c : Call) : Eff := match c.callee with
  | .builtin b => eBuiltin P st b c.args.toList c.argTypes.toList
  | .value (.func f) => match spec X.fs f with
    | some s => match decs s.A (svsOf st c.args.toList) with
      | some a => match s.pure with
        | true => .ask (Den s.R) (mPure (s.m a)) (fun r => .v (outV (valsD s.R r)))
        | false => .mem (Den s.R) (s.m a) (fun r => .v (outV (valsD s.R r)))
      | none => .bad
    | none => .bad
  | .value x => match valOf? (sv st x), valsOf st c.args.toList, resTys P X.ty o.type with
    | some fv, some vl, some R => .mem (Den R) (mCallV P (fun r => outV (valsD R r)) fv vl) (fun r => .v (outV (valsD R r)))
    | _, _, _ => .bad
  | .invoke x name => match valOf? (sv st x), valsOf st c.args.toList, resTys P X.ty o.type with
    | some fv, some vl, some R => .mem (Den R) (mInvoke P (fun r => outV (valsD R r)) name fv vl) (fun r => .v (outV (valsD R r)))
    | _, _, _ => .bad
def effOf (o : Oper) : Eff := match o.op with
  | .move x => mv (sv st x)
  | .assign x => mv (sv st x)
  | .pick c x y => ePick st c x y
  | .load t x => eLoad P X st t x
  | .store t x y => eStore P st t x y
  | .alloc t => eAlloc P X o.dst t
  | .box t x => eBox P X st o.dst t x
  | .nilCheck x => eNil st x
  | .fieldAddr t x i => eFieldAddr P st t x i
  | .field t x i => eField P st t x i
  | .extract x i => eExtract st x i
  | .unOp op _ x => eUn st op x
  | .binOp op t x y _ => eBin P st op t x y
  | .convert s t x => eConv P st s t x
  | .build t l => eBuild P st t l.toList
  | .buildSlice t n l => eLit P X st o.dst t n l.toList
  | .indexAddr t x j => eIdxAddr P st t x j
  | .index t x j => eIdx P X st t x j
  | .slice t x l r none => eCut P st t x l r
  | .slice t x l (some r) (some m) => eCut3 P st t x l r m
  | .makeSlice t x y => eMakeSl P st t x y
  | .makeMap _ none => .mem (Option Nat) mMakeMap (fun r => .v (.map r))
  | .lookup t x y ok => eLookup P X st t x y ok
  | .mapUpdate t x y z => eMapSet P st t x y z
  | .insert t x y z => eMapSet P st t x y z
  | .makeInterface t x => eIface P st t x
  | .typeAssert x _ t ok => eAssert P X st t x ok
  | .range t x => eRange P st t x
  | .next x false => eNext st x
  | .entry x => eEntry P X st o.dst x
  | .makeFunc fn first cap => eFunc st fn first.toList cap.toList
  | .call c => eCall P X st o c
  | _ => .bad
end effs
end Go.Proofs.Ytiajjcboddaenaa.K
namespace Go.Proofs.Ytiajjcboddaenaa.K
open Go

theorem findB_some : ∀ {l : List Bx} {i : Nat} {e : Bx}, findB l i = some e → e ∈ l ∧ e.key = i := by
  intro l
  induction l with
  | nil => intro i e h; cases h
  | cons x r ih =>
    intro i e h
    simp only [findB] at h
    cases hb : Nat.beq x.key i <;> rw [hb] at h
    · obtain ⟨h1, h2⟩ := ih h
      exact ⟨List.mem_cons_of_mem _ h1, h2⟩
    · cases h
      exact ⟨List.mem_cons_self .., by rwa [Nat.beq_eq] at hb⟩
theorem takeS_some : ∀ {n : Nat} {l : List (Option Value)} {vs : List Value}, takeS n l = some vs → vs.length = n ∧ ∀ (i : Nat) (v : Value), vs[i]? = some v → l[i]? = some (some v) := by
  intro n
  induction n with
  | zero => intro l vs h; cases l <;> cases h <;> exact ⟨rfl, fun i v e => by simp at e⟩
  | succ n ih =>
    intro l vs h
    match l, h with
    | some v :: r, h =>
      simp only [takeS] at h
      split at h
      · rename_i l' e
        cases h
        obtain ⟨h1, h2⟩ := ih e
        refine ⟨by simp [h1], fun i w hi => ?_⟩
        cases i with
        | zero => simpa using hi
        | succ i => simpa using h2 i w (by simpa using hi)
      · cases h
theorem grabO_grab {c : Array Value} {l : List (Option Value)} {off n : Nat} {vs : List Value} (k : Known c l) (h : grabO l off n = some vs) : grab c off n = some vs := by
  obtain ⟨h1, h2⟩ := takeS_some h
  subst h1
  refine grab_iff.2 fun i v hi => k.2 _ _ ?_
  have := h2 i v hi
  rw [List.getElem?_drop] at this
  exact this
theorem layO_len : ∀ (l : List (Option Value)) (off : Nat) (vs : List Value), (layO l off vs).length = l.length := by
  intro l
  induction l with
  | nil => intro off vs; rfl
  | cons x r ih =>
    intro off vs
    cases off with
    | zero => cases vs with
      | nil => rfl
      | cons v vs => simp [layO, ih]
    | succ n => simp [layO, ih]
theorem layO_known : ∀ (vs : List Value) (l : List (Option Value)) (c : Array Value) (off : Nat), off + vs.length ≤ l.length → Known c l → Known (lay c off vs) (layO l off vs) := by
  have step : ∀ (l : List (Option Value)) (off : Nat) (v : Value) (vs : List Value), off < l.length → layO l off (v :: vs) = layO (l.set off (some v)) (off + 1) vs := by
    intro l
    induction l with
    | nil => intro off v vs h; cases h
    | cons x r ih =>
      intro off v vs h
      cases off with
      | zero => simp [layO]
      | succ n => simp only [layO, List.set_cons_succ]; rw [ih n v vs (by simpa using h)]
  intro vs
  induction vs with
  | nil =>
    intro l c off h k
    have : layO l off [] = l := by
      clear h k c
      induction l generalizing off with
      | nil => rfl
      | cons x r ih => cases off <;> simp [layO, ih]
    rw [this]; exact k
  | cons v vs ih =>
    intro l c off h k
    rw [List.length_cons] at h
    rw [step l off v vs (by omega)]
    refine ih _ _ _ (by rw [List.length_set]; omega) ⟨by rw [List.length_set, Array.size_setIfInBounds]; exact k.1, fun j w hj => ?_⟩
    rw [List.getElem?_set] at hj
    rw [Array.getElem?_setIfInBounds]
    split at hj
    · rename_i e
      rw [if_pos e]
      split at hj
      · cases hj; rw [if_pos (by rw [k.1]; omega)]
      · cases hj
    · rename_i e
      rw [if_neg e]; exact k.2 _ _ hj
theorem SV.is.rel {s : SV} {v : Value} (h : s.is v) (l : List Bx) (β : Nat → Nat) : Rel l β v s := by
  cases s <;> first | exact h | exact h.elim

def litV (b : Nat) : Option Nat → Value
  | none => .pointer (some ⟨b, 0, none⟩)
  | some n => .slice (some ⟨b, 0, none⟩) n n
/-- What an effect says of the model's operation. -/
def EffOk (P : Program) (o : Oper) (β : Nat → Nat) (st : St) (ρ : Env) (L : H) : Eff → Prop
  | .bad => True
  | .ret s => ∃ v, Rel st.bx β v s ∧ YE P o ρ v
  | .ask X w f => ∀ (k : X → HP) (h : H), w k h → ∃ x v, (f x).is v ∧ YE P o ρ v ∧ k x h
  | .own s => ∃ v, Rel st.bx β v s ∧ YR P o ρ L v
  | .mem X w f => ∀ (k : X → HP) (h : H) (next : Post), w k h → (∀ x v h', k x h' → (f x = .no ∨ (f x).is v) → next (put ρ o.dst v) L h') → aOp P o ρ L h next noP
  | .box t c lit => ∀ (h : H) (next : Post), (∀ b, L b = none → next (put ρ o.dst (litV b lit)) (upd L b (.cells c.toArray t (0, 0))) h) → aOp P o ρ L h next noP
  | .set i c => ∃ e c', findB st.bx i = some e ∧ c.length = e.cells.length ∧ Known c' c ∧ ∀ (h : H) (next : Post), next (put ρ o.dst undef) (upd L (β i) (.cells c' e.ty (0, 0))) h → aOp P o ρ L h next noP

section oks
variable {P : Program} {X : Cx P} {β : Nat → Nat} {st : St} {ρ : Env} {L : H}
theorem Ok.val (k : Ok β st ρ L) (x : Operand) : Rel st.bx β (ev ρ x) (sv st x) := by
  cases x with
  | tmp t => exact k.slots t
  | _ => rfl
theorem Ok.v (k : Ok β st ρ L) {x : Operand} {w : Value} (e : sv st x = .v w) : ev ρ x = w := by
  have := k.val x; rw [e] at this; exact this
theorem Ok.pl (k : Ok β st ρ L) {x : Operand} {w : PV} (e : sv st x = .pl w) : ev ρ x = w.1 := by
  have := k.val x; rw [e] at this; exact this
theorem Ok.adr (k : Ok β st ρ L) {x : Operand} {a : Addr} (e : sv st x = .adr a) : ev ρ x = .pointer (some a) := by
  have := k.val x; rw [e] at this; exact this
theorem Ok.box (k : Ok β st ρ L) {x : Operand} {i off : Nat} (e : sv st x = .box i off) {b : Bx} (hb : findB st.bx i = some b) : ev ρ x = .pointer (some ⟨β i, off, none⟩) := by
  have := k.val x; rw [e] at this
  obtain ⟨h1, h2⟩ := findB_some hb
  exact this ⟨b, h1, h2⟩
theorem Ok.box' (k : Ok β st ρ L) {x : Operand} {i off : Nat} (e : sv st x = .box i off) {b : Bx} (hb : findB st.bx i = some b) : ev ρ x = .pointer (some ⟨β i, off, none⟩) := by
  have := k.val x; rw [e] at this
  obtain ⟨h1, h2⟩ := findB_some hb
  exact this ⟨b, h1, h2⟩
theorem Ok.lit (k : Ok β st ρ L) {x : Operand} {i n : Nat} (e : sv st x = .lit i n) {b : Bx} (hb : findB st.bx i = some b) : ev ρ x = .slice (some ⟨β i, 0, none⟩) n n := by
  have := k.val x; rw [e] at this
  obtain ⟨h1, h2⟩ := findB_some hb
  exact this ⟨b, h1, h2⟩
theorem Ok.at (k : Ok β st ρ L) {i : Nat} {b : Bx} (hb : findB st.bx i = some b) : ∃ c, L (β i) = some (.cells c b.ty (0, 0)) ∧ Known c b.cells := by
  obtain ⟨h1, rfl⟩ := findB_some hb
  exact k.boxes _ h1
theorem Ok.at' (k : Ok β st ρ L) {i : Nat} {b : Bx} (hb : findB st.bx i = some b) : ∃ c, L (β i) = some (.cells c b.ty (0, 0)) ∧ Known c b.cells := by
  obtain ⟨h1, rfl⟩ := findB_some hb
  exact k.boxes _ h1
theorem valOf_ok (k : Ok β st ρ L) {x : Operand} {w : Value} (e : valOf? (sv st x) = some w) : ev ρ x = w := by
  have := k.val x
  unfold valOf? at e
  split at e <;> rename_i q <;> first | (rw [q] at this; cases e; exact this) | cases e
theorem valsOf_ok (k : Ok β st ρ L) : ∀ {l : List Operand} {vl : List Value}, valsOf st l = some vl → l.map (ev ρ) = vl := by
  intro l
  induction l with
  | nil => intro vl e; cases e; rfl
  | cons x r ih =>
    intro vl e
    simp only [valsOf] at e
    split at e
    · rename_i v l' h1 h2
      cases e
      rw [List.map_cons, valOf_ok k h1, ih h2]
    · cases e
theorem partsOf_ok (k : Ok β st ρ L) : ∀ {l : List (Nat × Operand)} {vl : List (Nat × Value)}, partsOf st l = some vl → (l.map fun p => (p.1, ev ρ p.2)) = vl := by
  intro l
  induction l with
  | nil => intro vl e; cases e; rfl
  | cons x r ih =>
    intro vl e
    obtain ⟨i, x⟩ := x
    simp only [partsOf] at e
    split at e
    · rename_i v l' h1 h2
      cases e
      rw [List.map_cons, ih h2]
      simp only [valOf_ok k h1]
    · cases e
theorem spec_some : ∀ {l : List (Spec P)} {f : FuncId} {s : Spec P}, spec l f = some s → s.f = f := by
  intro l
  induction l with
  | nil => intro f s h; cases h
  | cons x r ih =>
    intro f s h
    simp only [spec] at h
    cases hb : Nat.beq x.f f <;> rw [hb] at h
    · exact ih h
    · cases h; rwa [Nat.beq_eq] at hb
theorem decs_ok (k : Ok β st ρ L) : ∀ {A : List Ty} {l : List Operand} {a : Den A}, decs A (svsOf st l) = some a → l.map (ev ρ) = valsD A a := by
  have one : ∀ {τ : Ty} {x : Operand} {a : τ.T}, τ.dec (sv st x) = some a → ev ρ x = τ.val a := fun {τ x a} e => by
    have h1 := τ.law _ _ e
    have h2 := k.val x
    revert h1 h2
    cases sv st x <;> intro h1 h2 <;> first | (exact h2.trans (Eq.symm h1)) | exact h1.elim
  intro A
  induction A with
  | nil =>
    intro l a e
    cases l with
    | nil => rfl
    | cons => cases e
  | cons t r ih =>
    intro l a e
    cases r with
    | nil =>
      match l, e with
      | [x], e => show [ev ρ x] = [t.val a]; rw [one e]
      | x :: y :: r, e => cases e
    | cons u r =>
      match l, e with
      | x :: xs, e =>
        have e : (match t.dec (sv st x), decs (u :: r) (svsOf st xs) with | some p, some q => some (p, q) | _, _ => none) = some a := e
        split at e
        · rename_i p q h1 h2
          cases e
          rw [List.map_cons, one h1, ih h2]; rfl
        · cases e

variable {d : Option Tmp} {ty : TypeId} {ps : String} {af : Array Edge} {gd : Option (Nat × Bool)}
theorem mv_ok {o : Oper} {x : Operand} (k : Ok β st ρ L) (y : YE P o ρ (ev ρ x)) : EffOk P o β st ρ L (mv (sv st x)) := by
  have := k.val x
  unfold mv
  split
  · trivial
  · exact ⟨_, this, y⟩
theorem tyOk_spec {t : TypeId} {τ : Ty} (h : tyOk P t τ = true) : ∃ td, P.underlying t = some td ∧ ((aggB td = false ∧ τ.agg = false) ∨ ∃ ti, P.info? t = some ti ∧ aggB td = true ∧ τ.agg = true ∧ ti.size = τ.n) := by
  unfold tyOk at h
  split at h
  · rename_i td ti h1 h2
    refine ⟨td, h1, ?_⟩
    split at h
    · rename_i ha
      rw [Bool.and_eq_true, Nat.beq_eq] at h
      exact .inr ⟨ti, h2, h.1, ha, h.2⟩
    · rename_i ha
      exact .inl ⟨by simpa using h, ha⟩
  · cases h
theorem oLoad (k : Ok β st ρ L) {t : TypeId} {x : Operand} : EffOk P ⟨d, .load t x, ty, ps, af, gd⟩ β st ρ L (eLoad P X st t x) := by
  unfold eLoad
  split
  · rename_i i off hx
    split
    · rename_i e td ti h1 h2 h3
      obtain ⟨c, hc, kn⟩ := k.at h1
      have hv := k.box hx h1
      split
      · rename_i ha
        split
        · rename_i l hl
          exact ⟨_, rfl, r_loadA hv hc h2 ha h3 (grabO_grab kn hl)⟩
        · trivial
      · rename_i ha
        split
        · rename_i v hl
          exact ⟨_, rfl, r_load hv hc h2 ha (grab_one (grabO_grab kn hl))⟩
        · trivial
    · trivial
  · rename_i a hx
    have hv := k.adr hx
    split
    · rename_i τ hτ
      split
      · rename_i ho
        obtain ⟨td, hu, hor⟩ := tyOk_spec ho
        intro q h next hw hn
        have is : ∀ y, (τ.sv y).is (τ.val y) := τ.svl
        rcases hor with ⟨h1, h2⟩ | ⟨ti, hi, h1, h2, h3⟩
        · rcases τ.hc with ⟨c1, _⟩ | ⟨_, c2⟩
          · rw [h2] at c1; cases c1
          · exact v_load hw hv hu h1 τ.val c2 fun y ky => hn y _ _ ky (.inr (is y))
        · rcases τ.hc with ⟨_, c2⟩ | ⟨c1, _⟩
          · exact v_loadA hw hv hu h1 hi τ.val (fun y => ⟨(c2 y).1, by rw [(c2 y).2, h3]⟩) fun y ky => hn y _ _ ky (.inr (is y))
          · rw [h2] at c1; cases c1
      · trivial
    · trivial
  · trivial
theorem plains_ok (k : Ok β st ρ L) {y : Operand} {l : List Value} (h : plains (sv st y) = some l) : (ev ρ y).cells.toList = l ∧ l.all plainVal = true := by
  have hv := k.val y
  unfold plains at h
  split at h
  · rename_i c e
    rw [e] at hv
    cases ha : c.toList.all plainVal <;> rw [ha] at h
    · cases h
    · cases h
      rw [show ev ρ y = _ from hv]
      exact ⟨rfl, ha⟩
  · cases h
  · rename_i v h1 h2 e
    rw [e] at hv
    cases h
    rw [show ev ρ y = _ from hv]
    cases v <;> first | exact ⟨rfl, rfl⟩ | exact (h1 _ rfl).elim | exact (h2 _ rfl).elim
  · rename_i x e
    rw [e] at hv
    cases h
    rw [show ev ρ y = _ from hv, x.2.2]
    exact ⟨rfl, by simp [x.2.1]⟩
  · rename_i a e
    rw [e] at hv
    cases h
    rw [show ev ρ y = _ from hv]
    exact ⟨rfl, rfl⟩
  · cases h
theorem oStore (k : Ok β st ρ L) {t : TypeId} {x y : Operand} : EffOk P ⟨d, .store t x y, ty, ps, af, gd⟩ β st ρ L (eStore P st t x y) := by
  unfold eStore
  split
  · rename_i l ti h1 h2
    obtain ⟨hw, hp⟩ := plains_ok k h1
    split
    · rename_i hs
      rw [Nat.beq_eq] at hs
      have hs : l.length = ti.size := hs
      split
      · rename_i i off hx
        split
        · rename_i e he
          obtain ⟨c, hc, kn⟩ := k.at' he
          have hv := k.box' hx he
          split
          · rename_i hle
            have hle := Nat.le_of_ble_eq_true hle
            have hsz : (ev ρ y).cells.size = l.length := by rw [← hw, Array.length_toList]
            refine ⟨e, _, he, layO_len .., layO_known l _ c off hle kn, fun h next hn => ?_⟩
            refine b_store hv rfl hc h2 (by rw [hsz]; exact hs) (by rw [hw]; exact hp) (by rw [hsz, kn.1]; exact hle) ?_
            rw [hw]; exact hn
          · trivial
        · trivial
      · rename_i a hx
        exact fun q h next hm hn => v_store hm (k.adr hx) rfl hw h2 hs hp fun h' kk => hn () _ h' kk (.inl rfl)
      · trivial
    · trivial
  · trivial
theorem oNew (o : Oper) {t : TypeId} {c : Array Value} (hb : ∀ (h : H) (next : Post), (∀ b, L b = none → next (put ρ o.dst (.pointer (some ⟨b, 0, none⟩))) (upd L b (.cells c t (0, 0))) h) → aOp P o ρ L h next noP)
    (hm : ∀ (q : Addr → HP) (h : H) (next : Post), mNew t c q h → (∀ a h', q a h' → next (put ρ o.dst (.pointer (some a))) L h') → aOp P o ρ L h next noP) : EffOk P o β st ρ L (newE P X o.dst t c) := by
  unfold newE
  split
  · split
    · exact fun h next hn => hb h next hn
    · exact fun q h next hw hn => hm q h next hw fun a h' ka => hn a _ h' ka (.inr rfl)
  · trivial
theorem oAlloc {t : TypeId} : EffOk P ⟨d, .alloc t, ty, ps, af, gd⟩ β st ρ L (eAlloc P X d t) := by
  unfold eAlloc
  split
  · rename_i ti hi
    split
    · rename_i z hz
      exact oNew ⟨d, .alloc t, ty, ps, af, gd⟩ (fun h next hn => b_alloc hi hz rfl hn) (fun q h next hw hn => v_alloc hw hi hz rfl hn)
    · trivial
  · trivial
theorem oBox (k : Ok β st ρ L) {t : TypeId} {x : Operand} : EffOk P ⟨d, .box t x, ty, ps, af, gd⟩ β st ρ L (eBox P X st d t x) := by
  unfold eBox
  have fin : ∀ c, (ev ρ x).cells = c → EffOk P ⟨d, .box t x, ty, ps, af, gd⟩ β st ρ L (newE P X d t c) := fun c hc =>
    oNew ⟨d, .box t x, ty, ps, af, gd⟩ (fun h next hn => b_box hc hn) (fun q h next hw hn => v_box hw hc hn)
  split
  · rename_i w e; exact fin _ (by rw [k.v e])
  · rename_i w e; exact fin _ (by rw [k.pl e, w.2.2])
  · rename_i a e; exact fin _ (by rw [k.adr e]; rfl)
  · trivial
theorem oPick (k : Ok β st ρ L) {c x y : Operand} : EffOk P ⟨d, .pick c x y, ty, ps, af, gd⟩ β st ρ L (ePick st c x y) := by
  unfold ePick
  split
  · rename_i b e
    have hc := k.v e
    cases b
    · exact mv_ok k (y_pickF hc rfl rfl)
    · exact mv_ok k (y_pickT hc rfl rfl)
  · trivial
theorem y_nil' {x : Operand} {a : Addr} (hx : ev ρ x = .pointer (some a)) : YE P ⟨d, .nilCheck x, ty, ps, af, gd⟩ ρ (ev ρ x) := by rw [hx]; exact y_nil hx
theorem oNil (k : Ok β st ρ L) {x : Operand} : EffOk P ⟨d, .nilCheck x, ty, ps, af, gd⟩ β st ρ L (eNil st x) := by
  unfold eNil
  split
  · rename_i a e; exact ⟨_, rfl, y_nil (k.adr e)⟩
  · rename_i p e
    rintro q h ⟨a, hp, ka⟩
    exact ⟨a, _, rfl, y_nilP (k.v e) hp, ka⟩
  · trivial
theorem addr_add (b o i : Nat) : (⟨b, o, none⟩ : Addr).add i = ⟨b, o + i, none⟩ := by
  unfold Addr.add; split
  · rename_i e; subst e; rfl
  · rfl
end oks
end Go.Proofs.Ytiajjcboddaenaa.K
namespace Go.Proofs.Ytiajjcboddaenaa.K
open Go

section oks
variable {P : Program} {X : Cx P} {β : Nat → Nat} {st : St} {ρ : Env} {L : H}
variable {d : Option Tmp} {ty : TypeId} {ps : String} {af : Array Edge} {gd : Option (Nat × Bool)}
theorem oFieldAddr (k : Ok β st ρ L) {t : TypeId} {x : Operand} {i : Nat} : EffOk P ⟨d, .fieldAddr t x i, ty, ps, af, gd⟩ β st ρ L (eFieldAddr P st t x i) := by
  unfold eFieldAddr
  split
  · rename_i fs hu
    split
    · rename_i f hf
      rw [Array.getElem?_toList] at hf
      split
      · rename_i ti hi
        split
        · rename_i hs
          split
          · rename_i a hx
            exact ⟨_, rfl, y_fieldAddr (k.adr hx) hu hf hi hs⟩
          · rename_i j off hx
            split
            · rename_i e he
              have := y_fieldAddr (P := P) (d := d) (ty := ty) (ps := ps) (af := af) (gd := gd) (k.box hx he) hu hf hi hs
              rw [addr_add] at this
              exact ⟨_, fun _ => rfl, this⟩
            · trivial
          · trivial
        · trivial
      · trivial
    · trivial
  · trivial
theorem extract_list (cs : Array Value) (o n : Nat) : cs.extract o (o + n) = ((cs.toList.drop o).take n).toArray := by
  apply Array.toList_inj.1
  rw [Array.toList_extract]
  unfold List.extract
  rw [Nat.add_sub_cancel_left]
theorem oField (k : Ok β st ρ L) {t : TypeId} {x : Operand} {i : Nat} : EffOk P ⟨d, .field t x i, ty, ps, af, gd⟩ β st ρ L (eField P st t x i) := by
  unfold eField
  split
  · rename_i fs cs hu hx
    split
    · rename_i f hf
      rw [Array.getElem?_toList] at hf
      split
      · rename_i td ti ht hi
        split
        · rename_i ha
          refine ⟨_, rfl, y_fieldA (k.v hx) hu hf ht ha hi ?_⟩
          rw [extract_list]
        · rename_i ha
          split
          · rename_i v hv
            rw [Array.getElem?_toList] at hv
            exact ⟨_, rfl, y_field (k.v hx) hu hf ht ha hv⟩
          · trivial
      · trivial
    · trivial
  · trivial
theorem oExtract (k : Ok β st ρ L) {x : Operand} {i : Nat} : EffOk P ⟨d, .extract x i, ty, ps, af, gd⟩ β st ρ L (eExtract st x i) := by
  unfold eExtract
  split
  · rename_i vs hx
    split
    · rename_i v hv
      rw [Array.getElem?_toList] at hv
      exact ⟨_, rfl, y_extract (k.v hx) hv⟩
    · trivial
  · trivial
theorem oUn (k : Ok β st ρ L) {op : UnOp} {t : TypeId} {x : Operand} : EffOk P ⟨d, .unOp op t x, ty, ps, af, gd⟩ β st ρ L (eUn st op x) := by
  unfold eUn
  split
  · rename_i b hx; exact ⟨_, rfl, y_not (k.v hx)⟩
  · rename_i kk a hx; exact ⟨_, rfl, y_neg (k.v hx)⟩
  · rename_i kk a hx; exact ⟨_, rfl, y_xor1 (k.v hx)⟩
  · trivial
theorem oConv (k : Ok β st ρ L) {s t : TypeId} {x : Operand} : EffOk P ⟨d, .convert s t x, ty, ps, af, gd⟩ β st ρ L (eConv P st s t x) := by
  unfold eConv
  split
  · rename_i sd kk kj a h1 h2 hx; exact ⟨_, rfl, y_conv (k.v hx) h1 h2⟩
  · rename_i e a l c h1 h2 hx
    split
    · rename_i h3
      exact fun q h next hm hn => v_text h1 h2 h3 (s := ⟨a, l, c⟩) (k.v hx) hm fun t kt => hn t _ _ kt (.inr rfl)
    · trivial
  · rename_i e b h1 h2 hx
    split
    · rename_i h3
      exact fun q h next hm hn => v_bytes h1 h2 h3 (k.v hx) hm fun t h' kt => hn t _ _ kt (.inr rfl)
    · trivial
  · rename_i e' e a l c h1 h2 hx
    split
    · rename_i h3 h4
      obtain rfl := of_decide_eq_true h3
      exact fun q h next hm hn => v_mark h2 h4 (s := ⟨a, l, c⟩) (k.v hx) hm fun t h' kt => hn t _ _ kt (.inr rfl)
    · trivial
  · trivial
theorem EQ.mono {n m : Nat} {t : TypeId} {x y : Value} {b : Bool} (h : EQ P n t x y b) (hle : n ≤ m) : EQ P m t x y b := fun k hk => h k (Nat.le_trans hle hk)
theorem partV_ok {f : Field} {cs : Array Value} {v : Value} (h : partV P f cs = some v) : PartOk P f cs v := by
  unfold partV at h
  split at h
  · rename_i td ti h1 h2
    split at h
    · rename_i ha; cases h; exact part_agg h1 ha h2 rfl
    · rename_i ha; rw [Array.getElem?_toList] at h; exact part_one h1 ha h
  · cases h
theorem eqFs_ok {n : Nat} {eq : TypeId → Value → Value → Option Bool} (heq : ∀ t x y b, eq t x y = some b → EQ P n t x y b) : ∀ {fl : List Field} {xs ys : Array Value} {b : Bool}, eqFs P eq fl xs ys = some b → EFs P n fl xs ys b := by
  intro fl
  induction fl with
  | nil => intro xs ys b h; cases h; exact efs_nil
  | cons f r ih =>
    intro xs ys b h
    simp only [eqFs] at h
    split at h
    · rename_i x y hn hx hy
      split at h
      · rename_i p q hp hq
        cases h
        exact efs_cons hn (partV_ok hx) (partV_ok hy) (heq _ _ _ _ hp) (Nat.ble_eq_true_of_le (Nat.le_refl n)) (ih hq)
      · cases h
    · cases h
theorem eqV_ok : ∀ (n : Nat) (t : TypeId) (x y : Value) (b : Bool), eqV P n t x y = some b → EQ P n t x y b := by
  intro n
  induction n with
  | zero => intro t x y b h; cases h
  | succ n ih =>
    intro t x y b h
    simp only [eqV] at h
    split at h
    · rename_i kk hu
      split at h
      · rename_i j a k' b' 
        split at h
        · rename_i hd
          have := of_decide_eq_true hd
          subst this
          cases h
          exact (eq_int hu).mono (by omega)
        · cases h
      · cases h
    · rename_i hu
      split at h
      · cases h; exact (eq_bool hu).mono (by omega)
      · cases h
    · rename_i hu
      split at h
      · cases h; exact (eq_str hu).mono (by omega)
      · cases h
    · rename_i fs hu
      split at h
      · rename_i xs ys hs
        exact eq_struct (fl := fs.toList) hu hs (eqFs_ok ih h)
      · cases h
    · cases h
theorem eqW_ok {n : Nat} {t : TypeId} {x y : Value} {b : Bool} (h : eqW P n t x y = some b) : EQ P (n + 1) t x y b := by
  unfold eqW at h
  split at h
  · rename_i len e hu
    split at h
    · rename_i ti xs ys hi
      exact eq_array hu hi (eqFs_ok (eqV_ok n) h)
    · cases h
  · exact fun m hm => eqV_ok n t x y b h m (by omega)
theorem ask_unit {o : Oper} {p : Prop} {w : (Unit → HP) → HP} {v : Value} (hw : ∀ q h, w q h → p ∧ q () h) (y : p → YE P o ρ v) : EffOk P o β st ρ L (.ask Unit w (fun _ => .v v)) := fun q h hq => by
  obtain ⟨h1, h2⟩ := hw q h hq
  exact ⟨(), v, rfl, y h1, h2⟩
theorem isNil_ok {y : Operand} (h : isNilConst y = true) : (y = .const (.pointer none)) ∨ (y = .const (.map none)) ∨ ∃ n c, y = .const (.slice none n c) := by
  unfold isNilConst at h
  split at h
  · exact .inl rfl
  · exact .inr (.inl rfl)
  · exact .inr (.inr ⟨_, _, rfl⟩)
  · cases h
theorem oBin (k : Ok β st ρ L) {op : BinOp} {t u : TypeId} {x y : Operand} : EffOk P ⟨d, .binOp op t x y u, ty, ps, af, gd⟩ β st ρ L (eBin P st op t x y) := by
  unfold eBin
  split
  · rename_i kk a j b hx hy
    have vx := k.v hx
    have vy := k.v hy
    split
    · split
      · rename_i n
        have e : Value.int _ n = Value.int j b := vy
        cases e
        split
        · rename_i hd; exact ⟨_, rfl, y_shl vx vy (of_decide_eq_true hd)⟩
        · trivial
      · exact ask_unit (fun q h w => w) fun hb => y_shl vx vy hb
    · split
      · rename_i n
        have e : Value.int _ n = Value.int j b := vy
        cases e
        split
        · rename_i hd; exact ⟨_, rfl, y_shr vx vy (of_decide_eq_true hd)⟩
        · trivial
      · exact ask_unit (fun q h w => w) fun hb => y_shr vx vy hb
    · split
      · rename_i hk
        have := of_decide_eq_true hk
        subst this
        split
        · rename_i n
          have e : Value.int _ n = Value.int kk b := vy
          cases e
          split
          · rename_i hd; exact ⟨_, rfl, y_quo vx vy (of_decide_eq_false hd)⟩
          · trivial
        · exact ask_unit (fun q h w => w) fun hb => y_quo vx vy hb
      · trivial
    · split
      · rename_i hk
        have := of_decide_eq_true hk
        subst this
        split
        · rename_i n
          have e : Value.int _ n = Value.int kk b := vy
          cases e
          split
          · rename_i hd; exact ⟨_, rfl, y_rem vx vy (of_decide_eq_false hd)⟩
          · trivial
        · exact ask_unit (fun q h w => w) fun hb => y_rem vx vy hb
      · trivial
    · split
      · rename_i hk
        have := of_decide_eq_true hk
        subst this
        split
        · rename_i v hv; exact ⟨_, rfl, y_bin vx vy hv⟩
        · trivial
      · trivial
  · rename_i a b hx hy
    have vx := k.v hx
    have vy := k.v hy
    split
    · rintro q h ⟨z, hz, kz⟩
      exact ⟨z, _, rfl, y_cat vx vy hz, kz⟩
    · split
      · rename_i v hv; exact ⟨_, rfl, y_binS vx vy hv⟩
      · trivial
  · rename_i a b hx hy
    split
    · rename_i hu; exact ⟨_, rfl, y_eqB hu (k.v hx) (k.v hy)⟩
    · rename_i hu; exact ⟨_, rfl, y_neB hu (k.v hx) (k.v hy)⟩
    · trivial
  · rename_i p q hx hy
    have vy := k.v hy
    split
    · rename_i e hn hu
      rcases isNil_ok hn with rfl | rfl | ⟨_, _, rfl⟩ <;> first | (cases vy; done) | exact ⟨_, rfl, y_eqP hu (k.v hx) rfl⟩
    · rename_i e hn hu
      rcases isNil_ok hn with rfl | rfl | ⟨_, _, rfl⟩ <;> first | (cases vy; done) | exact ⟨_, rfl, y_neP hu (k.v hx) rfl⟩
    · trivial
  · rename_i p q hx hy
    have vy := k.v hy
    split
    · rename_i e hn hu
      rcases isNil_ok hn with rfl | rfl | ⟨_, _, rfl⟩ <;> first | (cases vy; done) | exact ⟨_, rfl, y_eqP hu (k.adr hx) rfl⟩
    · rename_i e hn hu
      rcases isNil_ok hn with rfl | rfl | ⟨_, _, rfl⟩ <;> first | (cases vy; done) | exact ⟨_, rfl, y_neP hu (k.adr hx) rfl⟩
    · trivial
  · rename_i p l c q l' c' hx hy
    have vy := k.v hy
    split
    · rename_i e hn hu
      rcases isNil_ok hn with rfl | rfl | ⟨n', c'', rfl⟩ <;> first | (cases vy; done) | exact ⟨_, rfl, y_eqSl hu (s := ⟨p, l, c⟩) (k.v hx) rfl⟩
    · rename_i e hn hu
      rcases isNil_ok hn with rfl | rfl | ⟨n', c'', rfl⟩ <;> first | (cases vy; done) | exact ⟨_, rfl, y_neSl hu (s := ⟨p, l, c⟩) (k.v hx) rfl⟩
    · trivial
  · rename_i p q hx hy
    have vy := k.v hy
    split
    · rename_i k1 e hn hu
      rcases isNil_ok hn with rfl | rfl | ⟨_, _, rfl⟩ <;> first | (cases vy; done) | exact ⟨_, rfl, y_eqM hu (k.v hx) rfl⟩
    · rename_i k1 e hn hu
      rcases isNil_ok hn with rfl | rfl | ⟨_, _, rfl⟩ <;> first | (cases vy; done) | exact ⟨_, rfl, y_neM hu (k.v hx) rfl⟩
    · trivial
  · rename_i xs ys hx hy
    split
    · rename_i b hq he; exact ⟨_, rfl, y_eqA hq (k.v hx) (k.v hy) (eqW_ok he) rfl⟩
    · rename_i b hq he; exact ⟨_, rfl, y_neA hq (k.v hx) (k.v hy) (eqW_ok he) rfl⟩
    · trivial
  · trivial
theorem oBuild (k : Ok β st ρ L) {t : TypeId} {l : Array (Nat × Operand)} : EffOk P ⟨d, .build t l, ty, ps, af, gd⟩ β st ρ L (eBuild P st t l.toList) := by
  unfold eBuild
  split
  · rename_i fs ti hu hi
    split
    · rename_i z pl vl hz hp hv
      split
      · rename_i cs hc
        exact ⟨_, rfl, y_build (fl := fs.toList) hu hi hz hp (partsOf_ok k hv) hc⟩
      · trivial
    · trivial
  · rename_i n e ti hu hi
    split
    · rename_i z te vl hz he hv
      split
      · rename_i cs hc
        exact ⟨_, rfl, y_buildA (l := l.toList) hu hi hz he (partsOf_ok k hv) hc⟩
      · trivial
    · trivial
  · trivial
theorem oLit (k : Ok β st ρ L) {t : TypeId} {n : Nat} {l : Array (Nat × Operand)} : EffOk P ⟨d, .buildSlice t n l, ty, ps, af, gd⟩ β st ρ L (eLit P X st d t n l.toList) := by
  unfold eLit
  split
  · rename_i e hu
    split
    · rename_i ti hi
      split
      · rename_i z vl hz hv hn
        split
        · rename_i cs hc
          split
          · rename_i dd
            split
            · exact fun h next hh => b_lit (l := l.toList) hu hi hz hn (partsOf_ok k hv) hc hh
            · exact fun q h next hm hh => v_lit (l := l.toList) hm hu hi hz hn (partsOf_ok k hv) hc fun a h' ka => hh a _ h' ka (.inr rfl)
          · trivial
        · trivial
      · trivial
    · trivial
  · trivial
theorem oIdxAddr (k : Ok β st ρ L) {t : TypeId} {x j : Operand} : EffOk P ⟨d, .indexAddr t x j, ty, ps, af, gd⟩ β st ρ L (eIdxAddr P st t x j) := by
  unfold eIdxAddr
  split
  · rename_i e a l c kk i hu hx hj
    split
    · rename_i ti hi
      rintro q h ⟨z, hz, kz⟩
      exact ⟨z, _, rfl, y_idx hu hi (s := ⟨a, l, c⟩) (k.v hx) (k.v hj) hz, kz⟩
    · trivial
  · rename_i n e a kk i hu hx hj
    split
    · rename_i ti hi
      rintro q h ⟨z, hz, kz⟩
      exact ⟨z, _, rfl, y_idxA hu hi (k.adr hx) (k.v hj) hz, kz⟩
    · trivial
  · trivial
theorem chunks_get {sz : Nat} : ∀ {n : Nat} {l : List Value} {i : Nat} {c : List Value}, (chunks sz n l)[i]? = some c → i < n ∧ c = (l.drop (i * sz)).take sz := by
  intro n
  induction n with
  | zero => intro l i c e; simp [chunks] at e
  | succ n ih =>
    intro l i c e
    cases i with
    | zero => simp only [chunks, List.getElem?_cons_zero, Option.some.injEq] at e; exact ⟨Nat.succ_pos _, by rw [← e]; simp⟩
    | succ i =>
      simp only [chunks, List.getElem?_cons_succ] at e
      obtain ⟨h1, h2⟩ := ih e
      exact ⟨by omega, by rw [h2, List.drop_drop, Nat.succ_mul, Nat.add_comm]⟩
theorem decA_get {τ : Ty} : ∀ {cs : List (List Value)} {l : List τ.T} {i : Nat} {x : τ.T}, decA τ cs = some l → l[i]? = some x → ∃ c, cs[i]? = some c ∧ τ.val x = (match τ.agg with | true => .agg c.toArray | false => c.headD undef) := by
  intro cs
  induction cs with
  | nil => intro l i x e h; cases e; simp at h
  | cons c r ih =>
    intro l i x e h
    simp only [decA] at e
    split at e
    · rename_i y m h1 h2
      cases e
      cases i with
      | zero => cases h; exact ⟨c, rfl, τ.law _ _ h1⟩
      | succ i => exact ih h2 h
    · cases e
theorem oIdx (k : Ok β st ρ L) {t : TypeId} {x j : Operand} : EffOk P ⟨d, .index t x j, ty, ps, af, gd⟩ β st ρ L (eIdx P X st t x j) := by
  unfold eIdx
  split
  · rename_i s kk i hu hx hj
    rintro q h ⟨z, hz, kz⟩
    exact ⟨z, _, rfl, y_idxS hu (k.v hx) (k.v hj) hz, kz⟩
  · rename_i n e cs kk i hu hx hj
    split
    · rename_i te τ hi hτ
      split
      · rename_i l ho hl
        rintro q h ⟨z, h0, hz, kz⟩
        rw [Bool.and_eq_true] at ho
        obtain ⟨td, he, hor⟩ := tyOk_spec ho.1
        obtain ⟨c, hc, hv⟩ := decA_get hl hz
        obtain ⟨hlt, rfl⟩ := chunks_get hc
        refine ⟨z, _, τ.svl z, y_idxV hu hi he (k.v hx) (k.v hj) h0 (by omega) ?_, kz⟩
        rcases hor with ⟨h1, h2⟩ | ⟨ti, hi', h1, h2, h3⟩
        · have h4 := ho.2
          rw [h2, Bool.false_or, Bool.and_eq_true] at h4
          have hsz : te.size = 1 := Nat.eq_of_beq_eq_true h4.1
          have hlen : cs.toList.length = n := Nat.eq_of_beq_eq_true h4.2
          rw [h2] at hv
          simp only at hv
          refine .inr ⟨h1, ?_⟩
          rw [hsz, Nat.mul_one] at hv ⊢
          have hlt' : i.toNat < cs.toList.length := by rw [hlen]; exact hlt
          rw [List.drop_eq_getElem_cons hlt'] at hv
          simp only [List.take_succ_cons, List.take_zero, List.headD_cons] at hv
          rw [hv, ← Array.getElem?_toList, List.getElem?_eq_getElem hlt']
        · rw [hi] at hi'
          cases hi'
          rw [h2] at hv
          simp only at hv
          refine .inl ⟨h1, ?_⟩
          rw [hv, extract_list]
      · trivial
    · trivial
  · trivial
theorem not_iface {td : TypeDesc} (h : isIface td = false) : ∀ ms, td ≠ .interface ms := fun ms e => by subst e; cases h
theorem oIface (k : Ok β st ρ L) {t : TypeId} {x : Operand} : EffOk P ⟨d, .makeInterface t x, ty, ps, af, gd⟩ β st ρ L (eIface P st t x) := by
  unfold eIface
  split
  · rename_i td v h1 h2
    split
    · rename_i h3; exact ⟨_, rfl, y_iface h1 (not_iface h3) (valOf_ok k h2)⟩
    · trivial
  · trivial
theorem oAssert (k : Ok β st ρ L) {t xt : TypeId} {x : Operand} {ok : Bool} : EffOk P ⟨d, .typeAssert x xt t ok, ty, ps, af, gd⟩ β st ρ L (eAssert P X st t x ok) := by
  unfold eAssert
  split
  · rename_i td ti τ fv h1 h2 h3 h4
    split
    · rename_i z h5 h7
      split
      · rename_i z0 h8
        intro q h hm
        have hz : τ.val z0 = z := τ.law _ _ h8
        obtain ⟨r, y, kk⟩ := y_assert (xt := xt) h1 (not_iface h5) (by rw [hz]; exact QV.zero h2 h7) (valOf_ok k h4) hm
        exact ⟨r, _, rfl, y, kk⟩
      · trivial
    · rename_i h5
      intro q h hm
      obtain ⟨r, y, kk⟩ := y_assert1 (xt := xt) h1 (not_iface h5) (valOf_ok k h4) hm
      exact ⟨r, _, τ.svl r, y, kk⟩
    · trivial
  · trivial
theorem bnd_ok (k : Ok β st ρ L) {df n : Int} {o : Option Operand} (h : bnd? st df o = some n) : bnd ρ o df n := by
  cases o with
  | none => cases h; rfl
  | some x =>
    simp only [bnd?] at h
    split at h
    · rename_i kk m hx; cases h; exact ⟨_, k.v hx⟩
    · cases h
theorem oCut (k : Ok β st ρ L) {t : TypeId} {x : Operand} {l r : Option Operand} : EffOk P ⟨d, .slice t x l r none, ty, ps, af, gd⟩ β st ρ L (eCut P st t x l r) := by
  unfold eCut
  split
  · rename_i e a n c hu hx
    split
    · rename_i ti lo hi h1 h2 h3
      rintro q h ⟨z, hz, kz⟩
      exact ⟨z, _, rfl, y_cut hu h1 (s := ⟨a, n, c⟩) (k.v hx) (bnd_ok k h2) (bnd_ok k h3) hz, kz⟩
    · trivial
  · rename_i n e a hu hx
    split
    · rename_i ti lo hi h1 h2 h3
      rintro q h ⟨z, hz, kz⟩
      exact ⟨z, _, rfl, y_cutA hu h1 (k.adr hx) (bnd_ok k h2) (bnd_ok k h3) hz, kz⟩
    · trivial
  · rename_i s hu hx
    split
    · rename_i lo hi h2 h3
      rintro q h ⟨z, hz, kz⟩
      exact ⟨z, _, rfl, y_sub hu (k.v hx) (bnd_ok k h2) (bnd_ok k h3) hz, kz⟩
    · trivial
  · trivial
theorem oCut3 (k : Ok β st ρ L) {t : TypeId} {x r m : Operand} {l : Option Operand} : EffOk P ⟨d, .slice t x l (some r) (some m), ty, ps, af, gd⟩ β st ρ L (eCut3 P st t x l r m) := by
  unfold eCut3
  split
  · rename_i e a n c hu hx
    split
    · rename_i ti lo k1 hi k2 mx h1 h2 h3 h4
      rintro q h ⟨z, hz, kz⟩
      exact ⟨z, _, rfl, y_cut3 hu h1 (s := ⟨a, n, c⟩) (k.v hx) (bnd_ok k h2) (k.v h3) (k.v h4) hz, kz⟩
    · trivial
  · trivial
theorem oMakeSl (k : Ok β st ρ L) {t : TypeId} {x y : Operand} : EffOk P ⟨d, .makeSlice t x y, ty, ps, af, gd⟩ β st ρ L (eMakeSl P st t x y) := by
  unfold eMakeSl
  split
  · rename_i e k1 n k2 c hu hx hy
    split
    · rename_i ti hi
      split
      · rename_i z hz
        split
        · rename_i hs
          rw [Nat.beq_eq] at hs
          exact fun q h next hm hn => v_make hu hi hz hs (k.v hx) (k.v hy) hm fun s h' ks => hn s _ h' ks (.inr rfl)
        · trivial
      · trivial
    · trivial
  · trivial
theorem oFunc (k : Ok β st ρ L) {fn : Fn} {first cap : Array Operand} : EffOk P ⟨d, .makeFunc fn first cap, ty, ps, af, gd⟩ β st ρ L (eFunc st fn first.toList cap.toList) := by
  unfold eFunc
  split
  · rename_i f fl vl hf hv
    exact ⟨_, rfl, y_makeFunc (fl := first.toList) (l := cap.toList) (valsOf_ok k hf) (valsOf_ok k hv)⟩
  · trivial
/-! Maps. -/
theorem ckFields {n : Nat} {em : Bool} (ih : ∀ (t : TypeId) (x y : Value) (b : Bool), eqV P n t x y = some b → ∀ m, n ≤ m → QV P (Instr.checkKey em m t x) ()) {m : Nat} (hm : n ≤ m) {xs ys : Array Value} : ∀ (fs : List Field) (b : Bool), eqFs P (eqV P n) fs xs ys = some b → QV P (do
      for f in fs do
        if f.name ≠ "_" then Instr.checkKey em m f.type (← part f.type xs f.offset) : Sem Unit) () := by
  intro fs
  induction fs with
  | nil => intro b _; exact QV.pure _
  | cons f r ihr =>
    intro b h
    unfold eqFs at h
    split at h
    · rename_i x y hn hx hy
      split at h
      · rename_i p q hp hq
        have hne : f.name ≠ "_" := by intro z; rw [z] at hn; simp at hn
        have := ihr q hq
        simp only [List.forIn_cons, hne, ne_eq, not_false_eq_true, if_true, bind_assoc] at this ⊢
        refine QV.bind (partV_ok hx) (QV.bind (ih _ _ _ _ hp m hm) ?_)
        simpa using this
      · cases h
    · cases h
theorem ck_ok {em : Bool} : ∀ (n : Nat) (t : TypeId) (x y : Value) (b : Bool), eqV P n t x y = some b → ∀ m, n ≤ m → QV P (Instr.checkKey em m t x) () := by
  intro n
  induction n with
  | zero => intro t x y b h; cases h
  | succ n ih =>
    intro t x y b h m hm
    obtain ⟨m, rfl⟩ : ∃ q, m = q + 1 := ⟨m - 1, by omega⟩
    simp only [eqV] at h
    unfold Instr.checkKey
    split at h
    · rename_i kk hu
      split at h
      · exact QV.bind (QV.underlying hu) (QV.pure _)
      · cases h
    · rename_i hu
      split at h
      · exact QV.bind (QV.underlying hu) (QV.pure _)
      · cases h
    · rename_i hu
      split at h
      · exact QV.bind (QV.underlying hu) (QV.pure _)
      · cases h
    · rename_i fs hu
      split at h
      · rename_i xs ys hs
        refine QV.bind (QV.underlying hu) ?_
        have := ckFields (em := em) ih (m := m) (by omega) fs.toList b h
        simpa using this
      · cases h
    · cases h
def scal : TypeDesc → Bool
  | .int _ => true
  | .bool => true
  | .string => true
  | _ => false
theorem sameNow_ok {n : Nat} {kt : TypeId} {td : TypeDesc} (hu : P.underlying kt = some td) (hs : scal td = true) {x y : Value} {b : Bool} (h : eqV P (n + 1) kt x y = some b) : Instr.sameNow td x y = some b := by
  simp only [eqV, hu] at h
  cases td <;> simp only [scal, Bool.false_eq_true] at hs <;> simp only at h
  · split at h
    · cases h; rfl
    · cases h
  · split at h
    · rename_i j a k' b'
      split at h
      · rename_i hd
        have := of_decide_eq_true hd
        subst this
        cases h
        simp only [Instr.sameNow, if_true]
        rfl
      · cases h
    · cases h
  · split at h
    · cases h; rfl
    · cases h
theorem eqV_td {n : Nat} {kt : TypeId} {x y : Value} {b : Bool} (h : eqV P (n + 1) kt x y = some b) : ∃ td, P.underlying kt = some td ∧ (scal td = true ∨ ∃ fs, td = .struct fs) := by
  simp only [eqV] at h
  split at h
  · rename_i kk hu; exact ⟨_, hu, .inl rfl⟩
  · rename_i hu; exact ⟨_, hu, .inl rfl⟩
  · rename_i hu; exact ⟨_, hu, .inl rfl⟩
  · rename_i fs hu; exact ⟨_, hu, .inr ⟨fs, rfl⟩⟩
  · cases h
theorem findNow_scal {kt : TypeId} {td : TypeDesc} (hu : P.underlying kt = some td) (hs : scal td = true) {kv : Value} : ∀ (l : List MapEntry) (i : Nat), (∀ e ∈ l, ∃ b, eqV P 40 kt kv e.key = some b) → Instr.findNow td kv l i = some (findR (eqV P 40 kt) kv l i) := by
  intro l
  induction l with
  | nil => intro i _; rfl
  | cons e r ih =>
    intro i hall
    obtain ⟨b, hb⟩ := hall e (List.mem_cons_self ..)
    have hr := ih (i + 1) fun e' he => hall e' (List.mem_cons_of_mem _ he)
    simp only [Instr.findNow, sameNow_ok (n := 39) hu hs hb, findR, hb]
    cases b
    · exact hr
    · rfl
theorem findAsking_ok {kt : TypeId} {kv : Value} : ∀ (l : List MapEntry) (i : Nat), (∀ e ∈ l, ∃ b, eqV P 40 kt kv e.key = some b) → QV P (Instr.findAsking kt kv l i) (findR (eqV P 40 kt) kv l i) := by
  intro l
  induction l with
  | nil => intro i _; exact QV.pure _
  | cons e r ih =>
    intro i hall
    obtain ⟨b, hb⟩ := hall e (List.mem_cons_self ..)
    have hr := ih (i + 1) fun e' he => hall e' (List.mem_cons_of_mem _ he)
    unfold Instr.findAsking
    simp only [findR, hb]
    refine QV.bind (eqV_ok 40 kt kv e.key b hb Op.maxDepth (by unfold Op.maxDepth; decide)) ?_
    cases b
    · exact hr
    · exact QV.pure _
theorem findKey_ok {kt : TypeId} {kv : Value} {es : Array MapEntry} {b0 : Bool} (h0 : eqV P 40 kt kv kv = some b0) (hall : Keys (eqV P 40 kt) kv es) : QV P (Instr.findKey kt kv es.toList) (findR (eqV P 40 kt) kv es.toList 0) := by
  obtain ⟨td, hu, hor⟩ := eqV_td (n := 39) h0
  unfold Instr.findKey
  refine QV.bind (QV.underlying hu) ?_
  unfold Keys at hall
  rcases hor with hs | ⟨fs, rfl⟩
  · rw [findNow_scal hu hs _ _ hall]
    exact QV.pure _
  · generalize es.toList = l at hall ⊢
    cases l with
    | nil => exact QV.pure _
    | cons e r =>
      have : Instr.findNow (.struct fs) kv (e :: r) 0 = none := rfl
      rw [this]
      exact findAsking_ok _ _ hall
theorem keyOk_spec {kt : TypeId} {kv : Value} (h : keyOk P kt kv = true) : (∃ b, eqV P 40 kt kv kv = some b) ∧ flatV kv = true := by
  unfold keyOk at h
  split at h
  · rename_i b hb; exact ⟨⟨b, hb⟩, h⟩
  · cases h
theorem bytes_self (s : ByteArray) : (s == s) = true := by cases s; exact beq_self_eq_true (α := Array UInt8) _
theorem flatC_bits {n : Nat} {v : Value} (h : flatC v = true) : Instr.sameBits n v v = true := by
  unfold flatC at h
  split at h
  · cases n <;> simp [Instr.sameBits]
  · cases n <;> exact bytes_self _
  · cases n <;> simp [Instr.sameBits]
  · cases h
theorem flat_bits {v : Value} (h : flatV v = true) : Instr.sameBits 10000 v v = true := by
  unfold flatV at h
  split at h
  · rename_i cs
    show (cs.size == cs.size && (cs.toList.zip cs.toList).all fun (x, y) => Instr.sameBits 9999 x y) = true
    rw [beq_self_eq_true, Bool.true_and, List.all_eq_true]
    rintro ⟨x, y⟩ hm
    obtain ⟨i, hi, e⟩ := List.getElem_of_mem hm
    rw [List.getElem_zip] at e
    cases e
    exact flatC_bits (List.all_eq_true.1 h _ (List.getElem_mem _))
  · exact flatC_bits h
theorem oLookup (k : Ok β st ρ L) {t : TypeId} {x key : Operand} {ok : Bool} : EffOk P ⟨d, .lookup t x key ok, ty, ps, af, gd⟩ β st ρ L (eLookup P X st t x key ok) := by
  unfold eLookup
  split
  · rename_i kt et m kv hu hx hk
    split
    · rename_i ti τ hko hi hτ
      obtain ⟨⟨b, hb⟩, hfl⟩ := keyOk_spec hko
      split
      · rename_i z hz
        split
        · rename_i z0 hz0
          have hzz : z = τ.val z0 := (τ.law _ _ hz0).symm
          have hq : QV P (zeroValue et) (τ.val z0) := hzz ▸ QV.zero hi hz
          split
          · exact fun q h next hm hn => v_lookup hu (k.v hx) (valOf_ok k hk) (fun es => findKey_ok hb) (fun em => ck_ok 40 _ _ _ _ hb _ (by decide)) hq hm fun r kr => hn r _ _ kr (.inr rfl)
          · exact fun q h next hm hn => v_lookup hu (k.v hx) (valOf_ok k hk) (fun es => findKey_ok hb) (fun em => ck_ok 40 _ _ _ _ hb _ (by decide)) hq hm fun r kr => hn r _ _ kr (.inr (τ.svl r.1))
        · trivial
      · trivial
    · trivial
  · trivial
theorem oMapSet (k : Ok β st ρ L) {t : TypeId} {x key val : Operand} : EffOk P ⟨d, .mapUpdate t x key val, ty, ps, af, gd⟩ β st ρ L (eMapSet P st t x key val) := by
  unfold eMapSet
  split
  · rename_i kt et m kv w hu hx hk hw
    split
    · rename_i hko
      obtain ⟨⟨b, hb⟩, hfl⟩ := keyOk_spec hko
      exact fun q h next hm hn => v_mapSet hu (k.v hx) (valOf_ok k hk) (valOf_ok k hw) (fun es => findKey_ok hb) (fun em => ck_ok 40 _ _ _ _ hb _ (by decide)) (flat_bits hfl) hm fun h' kk => hn () _ h' kk (.inl rfl)
    · trivial
  · trivial
theorem oRange (k : Ok β st ρ L) {t : TypeId} {x : Operand} : EffOk P ⟨d, .range t x, ty, ps, af, gd⟩ β st ρ L (eRange P st t x) := by
  unfold eRange
  split
  · rename_i kt et m hu hx
    exact fun q h next hm hn => v_range hu (k.v hx) hm fun a h' kk => hn a _ h' kk (.inr rfl)
  · trivial
theorem oNext (k : Ok β st ρ L) {x : Operand} : EffOk P ⟨d, .next x false, ty, ps, af, gd⟩ β st ρ L (eNext st x) := by
  unfold eNext
  split
  · rename_i a hx
    exact fun q h next hm hn => v_next (k.adr hx) hm fun r h' kk => hn r _ h' kk (.inr rfl)
  · trivial
theorem oEntry (k : Ok β st ρ L) {x : Operand} : EffOk P ⟨d, .entry x, ty, ps, af, gd⟩ β st ρ L (eEntry P X st d x) := by
  unfold eEntry
  split
  · rename_i d' a hx
    split
    · split
      · exact fun q h next hm hn => v_entry (k.adr hx) hm fun r kk => hn r _ _ kk (.inr rfl)
      · trivial
    · trivial
  · trivial
theorem oBuiltin (k : Ok β st ρ L) {b : Builtin} {args : Array Operand} {ts : Array TypeId} : EffOk P ⟨d, .call ⟨.builtin b, args, ts⟩, ty, ps, af, gd⟩ β st ρ L (eBuiltin P st b args.toList ts.toList) := by
  obtain ⟨al⟩ := args
  obtain ⟨tl⟩ := ts
  show EffOk P _ β st ρ L (eBuiltin P st b al tl)
  unfold eBuiltin
  split
  · rename_i x t
    split
    · rename_i s hu hx; exact ⟨_, rfl, y_lenS (k.v hx) rfl hu⟩
    · rename_i e a l c hu hx; exact ⟨_, rfl, y_len (s := ⟨a, l, c⟩) (k.v hx) rfl hu⟩
    · rename_i kt et m hu hx; exact fun q h next hm hn => v_mapLen hu (k.v hx) hm fun n kk => hn n _ _ kk (.inr rfl)
    · trivial
  · rename_i x t
    split
    · rename_i e a l c hu hx
      split
      · rename_i ti hi
        split
        · rename_i z hz
          split
          · rename_i hp
            exact fun q h next hm hn => v_clear hu hi hz hp (s := ⟨a, l, c⟩) (k.v hx) hm fun h' kk => hn () _ h' kk (.inl rfl)
          · trivial
        · trivial
      · trivial
    · trivial
  · rename_i x y t t'
    split
    · rename_i e a l c a' l' c' hu hx hy
      split
      · rename_i ti hi
        exact fun q h next hm hn => v_copy hu hi (s := ⟨a, l, c⟩) (r := ⟨a', l', c'⟩) (k.v hx) (k.v hy) hm fun n h' kk => hn n _ h' kk (.inr rfl)
      · trivial
    · trivial
  · rename_i x y t t'
    split
    · rename_i kt et m kv hu hx hk
      split
      · rename_i hko
        obtain ⟨⟨b, hb⟩, hfl⟩ := keyOk_spec hko
        exact fun q h next hm hn => v_mapDel hu (k.v hx) (valOf_ok k hk) (fun es => findKey_ok hb) (fun em => ck_ok 40 _ _ _ _ hb _ (by decide)) hm fun h' kk => hn () _ h' kk (.inl rfl)
      · trivial
    · trivial
  · rename_i x y
    split
    · rename_i kk a j b hx hy
      split
      · rename_i hk
        have := of_decide_eq_true hk
        subst this
        exact ⟨_, rfl, y_min (k.v hx) (k.v hy)⟩
      · trivial
    · trivial
  · rename_i x y
    split
    · rename_i kk a j b hx hy
      split
      · rename_i hk
        have := of_decide_eq_true hk
        subst this
        exact ⟨_, rfl, y_max (k.v hx) (k.v hy)⟩
      · trivial
    · trivial
  · rename_i x y t t'
    split
    · rename_i e e2 a l c hu hu' hx
      split
      · rename_i ti hi
        split
        · rename_i z hz hby
          split
          · rename_i i n hy
            split
            · rename_i bb hb
              split
              · rename_i new hg
                split
                · rename_i hpl
                  obtain ⟨cs, hc, kn⟩ := k.at hb
                  exact fun q h next hm hn => v_push hu hu' hi hz hby (s := ⟨a, l, c⟩) (k.v hx) (k.lit hy hb) hc (grabO_grab kn hg) hpl hm fun s h' ks => hn s _ h' ks (.inr rfl)
                · trivial
              · trivial
            · trivial
          · rename_i a' l' c' hy
            exact fun q h next hm hn => v_append hu hu' hi hz hby (s := ⟨a, l, c⟩) (x' := ⟨a', l', c'⟩) (k.v hx) (k.v hy) hm fun s h' ks => hn s _ h' ks (.inr rfl)
          · trivial
        · trivial
      · trivial
    · trivial
  · trivial
theorem outV_is (l : List Value) : (SV.v (outV l)).is (outV l) := rfl
theorem oCall (k : Ok β st ρ L) {c : Call} : EffOk P ⟨d, .call c, ty, ps, af, gd⟩ β st ρ L (eCall P X st ⟨d, .call c, ty, ps, af, gd⟩ c) := by
  obtain ⟨cal, args, ts⟩ := c
  unfold eCall
  simp only
  split
  · exact oBuiltin k
  · rename_i f hc
    split
    · rename_i s hs
      have hf := spec_some hs
      subst hf
      obtain ⟨fn, cal⟩ := s.callee
      split
      · rename_i a ha
        have hv := decs_ok k ha
        split
        · rintro q h ⟨r, hr, kr⟩
          exact ⟨r, _, rfl, y_call (enc := fun r => outV (valsD s.R r)) hr (fun kk h hh => s.ok a kk h hh) cal hv, kr⟩
        · exact fun q h next hm hn => v_call (s.ok a q h hm) cal hv fun v h' ⟨r, e, kr⟩ => by subst e; exact hn r _ h' kr (.inr rfl)
      · trivial
    · trivial
  · rename_i x hc
    split
    · rename_i fv vl R h1 h2 h3
      exact fun q h next hm hn => v_callV (valOf_ok k h1) (valsOf_ok k h2) hm fun r h' kr => hn r _ h' kr (.inr rfl)
    · trivial
  · rename_i x name hc
    split
    · rename_i fv vl R h1 h2 h3
      exact fun q h next hm hn => v_invoke (valOf_ok k h1) (valsOf_ok k h2) hm fun r h' kr => hn r _ h' kr (.inr rfl)
    · trivial
theorem effOf_ok (k : Ok β st ρ L) (o : Oper) : EffOk P o β st ρ L (effOf P X st o) := by
  obtain ⟨d, op, ty, ps, af, gd⟩ := o
  unfold effOf
  split <;> try (rename_i e; cases e)
  · exact mv_ok k (y_move rfl)
  · exact mv_ok k (y_assign rfl)
  · exact oPick k
  · exact oLoad k
  · exact oStore k
  · exact oAlloc
  · exact oBox k
  · exact oNil k
  · exact oFieldAddr k
  · exact oField k
  · exact oExtract k
  · exact oUn k
  · exact oBin k
  · exact oConv k
  · exact oBuild k
  · exact oLit k
  · exact oIdxAddr k
  · exact oIdx k
  · exact oCut k
  · exact oCut3 k
  · exact oMakeSl k
  · exact fun q h next hm hn => v_makeMap hm fun r h' kk => hn r _ h' kk (.inr rfl)
  · exact oLookup k
  · exact oMapSet k
  · exact oMapSet (ty := ty) (ps := ps) (af := af) (gd := gd) k
  · exact oIface k
  · exact oAssert k
  · exact oRange k
  · exact oNext k
  · exact oEntry k
  · exact oFunc k
  · exact oCall k
  · trivial
end oks
end Go.Proofs.Ytiajjcboddaenaa.K
