/- ValidateScripts: true at every input, the arguments as they were. Printed by a program of mine. -/
import Derived.Test.YtiajjcboddaenaaR2
import Derived.Test.YtiajjcboddaenaaVa7
import Derived.HandedShaped
import Derived.Carry
namespace Go.Proofs.Ytiajjcboddaenaa.K
open Go Go.ChangeShapes Go.WideShapes Go.ChangeAt Go.RowKit Go.Proofs

def G_law19_Numbers (_W : World) (x : S_law19_Numbers) : Prop := (IntKind.i64.min ≤ x.Sets ∧ x.Sets ≤ IntKind.i64.max) ∧ (IntKind.i64.min ≤ x.Ways ∧ x.Ways ≤ IntKind.i64.max) ∧ (IntKind.i64.min ≤ x.Knob ∧ x.Knob ≤ IntKind.i64.max)
def W_law19_Numbers (_B : Nat) (_x : S_law19_Numbers) : Prop := True
set_option maxRecDepth 100000 in
theorem openC_law19_Numbers {HH : Type} {enc : TypeId × Value → HH} {W : World} {t : TypeId} (ht : Try.prog.underlying t = Try.prog.underlying 113) (hc : Try.prog.cellsOf t = 3) {n : Nat} {cs : List Value} {y : DataW HH × List MemPlace} (h : DataW.trod enc Try.prog W 0 (fun _ => true) true n t cs = some y) : ∃ x : S_law19_Numbers, cs = S_law19_Numbers.cells x ∧ G_law19_Numbers W x ∧ ∀ B, Weigh B t y.1 → W_law19_Numbers B x := by
  have ht : Try.prog.underlying t = _ := ht.trans Try.underlying113
  obtain ⟨_, _, _, _, hl0, _, _⟩ := DataW.trod_struct ht h
  obtain ⟨y0, n0, h0, k0⟩ := trod_fieldW ht h 0 _ rfl
  obtain ⟨x0, e0, g0⟩ := open_intC (k := .i64) (by kernel_rfl) h0
  obtain ⟨y1, n1, h1, k1⟩ := trod_fieldW ht h 1 _ rfl
  obtain ⟨x1, e1, g1⟩ := open_intC (k := .i64) (by kernel_rfl) h1
  obtain ⟨y2, n2, h2, k2⟩ := trod_fieldW ht h 2 _ rfl
  obtain ⟨x2, e2, g2⟩ := open_intC (k := .i64) (by kernel_rfl) h2
  have hl : cs.length = 3 := hl0.trans hc
  match cs, hl with
  | [c0, c1, c2], _ =>
    replace e0 : [c0] = (cInt .i64) x0 := (show [c0] = _ by kernel_rfl).trans e0
    replace e1 : [c1] = (cInt .i64) x1 := (show [c1] = _ by kernel_rfl).trans e1
    replace e2 : [c2] = (cInt .i64) x2 := (show [c2] = _ by kernel_rfl).trans e2
    exact ⟨⟨x0, x1, x2⟩, (show [c0, c1, c2] = [c0] ++ [c1] ++ [c2] from rfl).trans (by rw [e0, e1, e2]; rfl), ⟨g0, g1, g2⟩, fun B hB => trivial⟩
def G_api_Word (_W : World) (x : S_api_Word) : Prop := (IntKind.u64.min ≤ x.Hi ∧ x.Hi ≤ IntKind.u64.max) ∧ (IntKind.u64.min ≤ x.Lo ∧ x.Lo ≤ IntKind.u64.max)
def W_api_Word (_B : Nat) (_x : S_api_Word) : Prop := True
set_option maxRecDepth 100000 in
theorem openC_api_Word {HH : Type} {enc : TypeId × Value → HH} {W : World} {t : TypeId} (ht : Try.prog.underlying t = Try.prog.underlying 36) (hc : Try.prog.cellsOf t = 2) {n : Nat} {cs : List Value} {y : DataW HH × List MemPlace} (h : DataW.trod enc Try.prog W 0 (fun _ => true) true n t cs = some y) : ∃ x : S_api_Word, cs = S_api_Word.cells x ∧ G_api_Word W x ∧ ∀ B, Weigh B t y.1 → W_api_Word B x := by
  have ht : Try.prog.underlying t = _ := ht.trans Try.underlying36
  obtain ⟨_, _, _, _, hl0, _, _⟩ := DataW.trod_struct ht h
  obtain ⟨y0, n0, h0, k0⟩ := trod_fieldW ht h 0 _ rfl
  obtain ⟨x0, e0, g0⟩ := open_intC (k := .u64) (by kernel_rfl) h0
  obtain ⟨y1, n1, h1, k1⟩ := trod_fieldW ht h 1 _ rfl
  obtain ⟨x1, e1, g1⟩ := open_intC (k := .u64) (by kernel_rfl) h1
  have hl : cs.length = 2 := hl0.trans hc
  match cs, hl with
  | [c0, c1], _ =>
    replace e0 : [c0] = (cInt .u64) x0 := (show [c0] = _ by kernel_rfl).trans e0
    replace e1 : [c1] = (cInt .u64) x1 := (show [c1] = _ by kernel_rfl).trans e1
    exact ⟨⟨x0, x1⟩, (show [c0, c1] = [c0] ++ [c1] from rfl).trans (by rw [e0, e1]; rfl), ⟨g0, g1⟩, fun B hB => trivial⟩
def G_api_Cap (W : World) (x : S_api_Cap) : Prop := (IntKind.i64.min ≤ x.Obj ∧ x.Obj ≤ IntKind.i64.max) ∧ G_api_Word W x.Pass
def W_api_Cap (_B : Nat) (_x : S_api_Cap) : Prop := True
set_option maxRecDepth 100000 in
theorem openC_api_Cap {HH : Type} {enc : TypeId × Value → HH} {W : World} {t : TypeId} (ht : Try.prog.underlying t = Try.prog.underlying 38) (hc : Try.prog.cellsOf t = 3) {n : Nat} {cs : List Value} {y : DataW HH × List MemPlace} (h : DataW.trod enc Try.prog W 0 (fun _ => true) true n t cs = some y) : ∃ x : S_api_Cap, cs = S_api_Cap.cells x ∧ G_api_Cap W x ∧ ∀ B, Weigh B t y.1 → W_api_Cap B x := by
  have ht : Try.prog.underlying t = _ := ht.trans Try.underlying38
  obtain ⟨_, _, _, _, hl0, _, _⟩ := DataW.trod_struct ht h
  obtain ⟨y0, n0, h0, k0⟩ := trod_fieldW ht h 0 _ rfl
  obtain ⟨x0, e0, g0⟩ := open_intC (k := .i64) (by kernel_rfl) h0
  obtain ⟨y1, n1, h1, k1⟩ := trod_fieldW ht h 1 _ rfl
  obtain ⟨x1, e1, g1⟩ := ((openC_api_Word (t := 37) (by kernel_rfl) (by kernel_rfl) h1).imp fun x q => And.intro q.1 q.2.1)
  have hl : cs.length = 3 := hl0.trans hc
  match cs, hl with
  | [c0, c1, c2], _ =>
    replace e0 : [c0] = (cInt .i64) x0 := (show [c0] = _ by kernel_rfl).trans e0
    replace e1 : [c1, c2] = S_api_Word.cells x1 := (show [c1, c2] = _ by kernel_rfl).trans e1
    exact ⟨⟨x0, x1⟩, (show [c0, c1, c2] = [c0] ++ [c1, c2] from rfl).trans (by rw [e0, e1]; rfl), ⟨g0, g1⟩, fun B hB => trivial⟩
def G_law19_Op (W : World) (x : S_law19_Op) : Prop := (IntKind.i64.min ≤ x.Kind ∧ x.Kind ≤ IntKind.i64.max) ∧ G_api_Cap W x.C ∧ (IntKind.i64.min ≤ x.P ∧ x.P ≤ IntKind.i64.max) ∧ (IntKind.i64.min ≤ x.N ∧ x.N ≤ IntKind.i64.max) ∧ (∃ xs, Arr S_api_Cap.cells (heapH W) x.L xs ∧ (∀ z ∈ xs, G_api_Cap W z) ∧ x.L.cap ≤ maxLen)
def W_law19_Op (B : Nat) (x : S_law19_Op) : Prop := x.L.len * Try.prog.bytesOf 39 ≤ B
set_option maxRecDepth 100000 in
theorem openC_law19_Op {HH : Type} {enc : TypeId × Value → HH} {W : World} {t : TypeId} (ht : Try.prog.underlying t = Try.prog.underlying 118) (hc : Try.prog.cellsOf t = 7) {n : Nat} {cs : List Value} {y : DataW HH × List MemPlace} (h : DataW.trod enc Try.prog W 0 (fun _ => true) true n t cs = some y) : ∃ x : S_law19_Op, cs = S_law19_Op.cells x ∧ G_law19_Op W x ∧ ∀ B, Weigh B t y.1 → W_law19_Op B x := by
  have ht : Try.prog.underlying t = _ := ht.trans Try.underlying118
  obtain ⟨_, _, _, _, hl0, _, _⟩ := DataW.trod_struct ht h
  obtain ⟨y0, n0, h0, k0⟩ := trod_fieldW ht h 0 _ rfl
  obtain ⟨x0, e0, g0⟩ := open_intC (k := .i64) (by kernel_rfl) h0
  obtain ⟨y1, n1, h1, k1⟩ := trod_fieldW ht h 1 _ rfl
  obtain ⟨x1, e1, g1⟩ := ((openC_api_Cap (t := 39) (by kernel_rfl) (by kernel_rfl) h1).imp fun x q => And.intro q.1 q.2.1)
  obtain ⟨y2, n2, h2, k2⟩ := trod_fieldW ht h 2 _ rfl
  obtain ⟨x2, e2, g2⟩ := open_intC (k := .i64) (by kernel_rfl) h2
  obtain ⟨y3, n3, h3, k3⟩ := trod_fieldW ht h 3 _ rfl
  obtain ⟨x3, e3, g3⟩ := open_intC (k := .i64) (by kernel_rfl) h3
  obtain ⟨y4, n4, h4, k4⟩ := trod_fieldW ht h 4 _ rfl
  obtain ⟨x4, e4, g4, w4⟩ := open_slCW (e := 39) (sz := 3) (cells := S_api_Cap.cells) (Good := fun z => G_api_Cap W z) (fun _ => rfl) (by decide) (by kernel_rfl) (by kernel_rfl) (fun _ _ _ hf => ((openC_api_Cap (t := 39) (by kernel_rfl) (by kernel_rfl) hf).imp fun x q => And.intro q.1 q.2.1)) h4
  have hl : cs.length = 7 := hl0.trans hc
  match cs, hl with
  | [c0, c1, c2, c3, c4, c5, c6], _ =>
    replace e0 : [c0] = (cInt .i64) x0 := (show [c0] = _ by kernel_rfl).trans e0
    replace e1 : [c1, c2, c3] = S_api_Cap.cells x1 := (show [c1, c2, c3] = _ by kernel_rfl).trans e1
    replace e2 : [c4] = (cInt .i64) x2 := (show [c4] = _ by kernel_rfl).trans e2
    replace e3 : [c5] = (cInt .i64) x3 := (show [c5] = _ by kernel_rfl).trans e3
    replace e4 : [c6] = cSl x4 := (show [c6] = _ by kernel_rfl).trans e4
    exact ⟨⟨x0, x1, x2, x3, x4⟩, (show [c0, c1, c2, c3, c4, c5, c6] = [c0] ++ [c1, c2, c3] ++ [c4] ++ [c5] ++ [c6] from rfl).trans (by rw [e0, e1, e2, e3, e4]; rfl), ⟨g0, g1, g2, g3, g4⟩, fun B hB => w4 B (k4 B hB)⟩
set_option maxRecDepth 100000 in
theorem validateScripts_lifted (os : Os) (started : os.Started) (HH : Type) (enc : TypeId × Value → HH) :
    ReturnsInHanded {} Try.checked os 10 .any (Rows.validateScriptsSpec.pre6 enc Try.prog Try.f10 Rows.validateScriptsRow.domain false) (Rows.validateScriptsSpec.post enc Try.prog Try.f10 false true false false) := by
  refine returnsInHanded_of_change_shaped (C := Try.checked) own started (by kernel_rfl) Try.func10
    (ChangeSpec.witness6 (enc := enc) (C := Try.checked) false ⟨#[], #[.int .i64 0, .agg #[.int .i64 0, .int .i64 0, .int .i64 0], .slice none 0 0], []⟩ 8 (by kernel_rfl) (by kernel_rfl) (by kernel_rfl) (by kernel_rfl)) ?_
  intro W base args ds gs before hval0 hW hcnd hwt0 _ _
  have hval : ∀ (j : Nat) t v, Try.f10.params[j]? = some t → args[j]? = some v → Value.okWide Try.prog W .any base t v := hval0
  have hW' : DataW.Whole enc Try.prog Try.f10.params.toList Rows.validateScriptsSpec.vars false W args.toList ds gs before := hW
  obtain ⟨p, q, hA0, hV, rfl, hfz, hnd⟩ := hW
  have hA : DataW.TrodAll enc Try.prog W 0 (fun _ => true) true [3, 114, 115] args.toList ds p := hA0
  obtain ⟨l⟩ := args
  obtain ⟨v0, l0, d0, ds0, p0, q0, e0, rfl, rfl, t0, hB0⟩ := trodAll_cons hA
  replace e0 : l = v0 :: l0 := e0
  subst e0
  obtain ⟨v1, l1, d1, ds1, p1, q1, e1, rfl, rfl, t1, hB1⟩ := trodAll_cons hB0
  replace e1 : l0 = v1 :: l1 := e1
  subst e1
  obtain ⟨v2, l2, d2, ds2, p2, q2, e2, rfl, rfl, t2, hB2⟩ := trodAll_cons hB1
  replace e2 : l1 = v2 :: l2 := e2
  subst e2
  obtain ⟨rfl, rfl, rfl⟩ := trodAll_nil hB2
  obtain ⟨rfl, rfl⟩ := trodVars_none hV
  have hwt : (DataW.weightsEach Try.prog ([3, 114, 115] ++ []) ([d0, d1, d2] ++ [])).all (· ≤ reachBytes) = true := hwt0
  clear hwt0
  simp only [List.append_nil, DataW.weightsEach, List.all_append, Bool.and_eq_true] at hwt
  obtain ⟨y0, y1, y2⟩ := hwt
  obtain ⟨x0, rfl, _, _, w0⟩ := open_int (k := .i64) (by kernel_rfl) (hval 0 3 v0 rfl rfl) t0
  obtain ⟨c1, rfl, _, _, hf1⟩ := open_str ((show Try.prog.underlying 114 = Try.prog.underlying 113 by kernel_rfl).trans Try.underlying113) (hval 1 114 v1 rfl rfl) t1
  obtain ⟨x1, ec1, g1⟩ := openC_law19_Numbers (t := 114) (by kernel_rfl) (by kernel_rfl) hf1
  subst ec1
  obtain ⟨s2, b2, rfl, r2, g2, m2, u2⟩ := open_arrW (e := 119) (sz := 7) S_law19_Op.cells (fun z => G_law19_Op W z) W_law19_Op (fun _ => rfl) (by decide) (by kernel_rfl) (by kernel_rfl) (fun _ _ _ hf => openC_law19_Op (t := 119) (by kernel_rfl) (by kernel_rfl) hf) (hval 2 115 v2 rfl rfl) t2
  have z2 := u2 reachBytes y2
  unfold reachBytes at z2
  have walk := s_law19_ValidateScripts.ok (x0, x1, s2) (fun r h' => r = true ∧ Keeps (heapH W) h') (heapH W) (t_ValidateScripts r2 (Nat.le_trans (r2.len ▸ r2.cap) m2) (fun o ho => (let ⟨xs, a, _, _⟩ := (g2 o ho).2.2.2.2; ⟨xs, a, by have e := a.len; have w := z2.2 o ho; unfold W_law19_Op at w; rw [show Try.prog.bytesOf 39 = 24 from by kernel_rfl] at w; omega⟩)) (K := fun r h' => r = true ∧ Keeps (heapH W) h') fun h' k => ⟨rfl, k⟩)
  refine (calls_law (walk.mono (fun v h' => fun ⟨r, e, er, k⟩ => ⟨by rw [e, er]; rfl, k⟩) fun _ _ k => k)).mono fun e W' => fun ⟨he, hb⟩ => ?_
  subst he
  exact ⟨_, rfl, post_law (tb := 4) laid (by kernel_rfl) rfl (by kernel_rfl) rfl hW' ⟨rfl, rfl, rfl⟩ hb⟩

theorem validateScripts_inPlace : (Rows.validateScriptsRow.inPlace == Try.pinned.checked.prog.inPlace 10) = true := by kernel_rfl
theorem validateScripts_unfollowed : (Rows.validateScriptsRow.unfollowed == Try.pinned.checked.prog.unfollowed 10) = true := by kernel_rfl
theorem validateScripts_recurses : (Rows.validateScriptsRow.recurses == Try.pinned.checked.prog.recurses 10) = true := by kernel_rfl
theorem validateScripts_named : (Rows.validateScriptsRow.named == Try.pinned.checked.prog.varsNamed 10) = true := by kernel_rfl
end Go.Proofs.Ytiajjcboddaenaa.K
