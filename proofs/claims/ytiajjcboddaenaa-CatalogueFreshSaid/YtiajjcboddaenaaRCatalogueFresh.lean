/- CatalogueFresh: true at every input, the arguments as they were. Printed by a program of mine. -/
import Derived.Test.YtiajjcboddaenaaR1
import Derived.Test.YtiajjcboddaenaaLc5
namespace Go.Proofs.Ytiajjcboddaenaa.K
open Go Go.ChangeShapes Go.WideShapes Go.ChangeAt Go.RowKit Go.Proofs

def G_api_Word (_W : World) (x : S_api_Word) : Prop := (IntKind.u64.min ≤ x.Hi ∧ x.Hi ≤ IntKind.u64.max) ∧ (IntKind.u64.min ≤ x.Lo ∧ x.Lo ≤ IntKind.u64.max)
set_option maxRecDepth 100000 in
theorem openC_api_Word {HH : Type} {enc : TypeId × Value → HH} {W : World} {t : TypeId} (ht : Try.prog.underlying t = Try.prog.underlying 36) (hc : Try.prog.cellsOf t = 2) {n : Nat} {cs : List Value} {y : DataW HH × List MemPlace} (h : DataW.trod enc Try.prog W 0 (fun _ => true) true n t cs = some y) : ∃ x : S_api_Word, cs = S_api_Word.cells x ∧ G_api_Word W x := by
  have ht : Try.prog.underlying t = _ := ht.trans Try.underlying36
  obtain ⟨_, _, _, _, hl0, _, _⟩ := DataW.trod_struct ht h
  obtain ⟨y0, n0, h0⟩ := trod_field ht h 0 _ rfl
  obtain ⟨x0, e0, g0⟩ := open_intC (k := .u64) (by kernel_rfl) h0
  obtain ⟨y1, n1, h1⟩ := trod_field ht h 1 _ rfl
  obtain ⟨x1, e1, g1⟩ := open_intC (k := .u64) (by kernel_rfl) h1
  have hl : cs.length = 2 := hl0.trans hc
  match cs, hl with
  | [c0, c1], _ =>
    replace e0 : [c0] = (cInt .u64) x0 := (show [c0] = _ by kernel_rfl).trans e0
    replace e1 : [c1] = (cInt .u64) x1 := (show [c1] = _ by kernel_rfl).trans e1
    exact ⟨⟨x0, x1⟩, (show [c0, c1] = [c0] ++ [c1] from rfl).trans (by rw [e0, e1]; rfl), g0, g1⟩
def G_api_Cap (W : World) (x : S_api_Cap) : Prop := (IntKind.i64.min ≤ x.Obj ∧ x.Obj ≤ IntKind.i64.max) ∧ G_api_Word W x.Pass
set_option maxRecDepth 100000 in
theorem openC_api_Cap {HH : Type} {enc : TypeId × Value → HH} {W : World} {t : TypeId} (ht : Try.prog.underlying t = Try.prog.underlying 38) (hc : Try.prog.cellsOf t = 3) {n : Nat} {cs : List Value} {y : DataW HH × List MemPlace} (h : DataW.trod enc Try.prog W 0 (fun _ => true) true n t cs = some y) : ∃ x : S_api_Cap, cs = S_api_Cap.cells x ∧ G_api_Cap W x := by
  have ht : Try.prog.underlying t = _ := ht.trans Try.underlying38
  obtain ⟨_, _, _, _, hl0, _, _⟩ := DataW.trod_struct ht h
  obtain ⟨y0, n0, h0⟩ := trod_field ht h 0 _ rfl
  obtain ⟨x0, e0, g0⟩ := open_intC (k := .i64) (by kernel_rfl) h0
  obtain ⟨y1, n1, h1⟩ := trod_field ht h 1 _ rfl
  obtain ⟨x1, e1, g1⟩ := openC_api_Word (t := 37) (by kernel_rfl) (by kernel_rfl) h1
  have hl : cs.length = 3 := hl0.trans hc
  match cs, hl with
  | [c0, c1, c2], _ =>
    replace e0 : [c0] = (cInt .i64) x0 := (show [c0] = _ by kernel_rfl).trans e0
    replace e1 : [c1, c2] = S_api_Word.cells x1 := (show [c1, c2] = _ by kernel_rfl).trans e1
    exact ⟨⟨x0, x1⟩, (show [c0, c1, c2] = [c0] ++ [c1, c2] from rfl).trans (by rw [e0, e1]; rfl), g0, g1⟩
def G_law11_Step (W : World) (x : S_law11_Step) : Prop := True ∧ (IntKind.i64.min ≤ x.Kind ∧ x.Kind ≤ IntKind.i64.max) ∧ (IntKind.i64.min ≤ x.N ∧ x.N ≤ IntKind.i64.max) ∧ G_api_Cap W x.C ∧ (IntKind.i64.min ≤ x.Rights ∧ x.Rights ≤ IntKind.i64.max)
set_option maxRecDepth 100000 in
theorem openC_law11_Step {HH : Type} {enc : TypeId × Value → HH} {W : World} {t : TypeId} (ht : Try.prog.underlying t = Try.prog.underlying 89) (hc : Try.prog.cellsOf t = 7) {n : Nat} {cs : List Value} {y : DataW HH × List MemPlace} (h : DataW.trod enc Try.prog W 0 (fun _ => true) true n t cs = some y) : ∃ x : S_law11_Step, cs = S_law11_Step.cells x ∧ G_law11_Step W x := by
  have ht : Try.prog.underlying t = _ := ht.trans Try.underlying89
  obtain ⟨_, _, _, _, hl0, _, _⟩ := DataW.trod_struct ht h
  obtain ⟨y0, n0, h0⟩ := trod_field ht h 0 _ rfl
  obtain ⟨x0, e0, g0⟩ := open_boolC (by kernel_rfl) h0
  obtain ⟨y1, n1, h1⟩ := trod_field ht h 1 _ rfl
  obtain ⟨x1, e1, g1⟩ := open_intC (k := .i64) (by kernel_rfl) h1
  obtain ⟨y2, n2, h2⟩ := trod_field ht h 2 _ rfl
  obtain ⟨x2, e2, g2⟩ := open_intC (k := .i64) (by kernel_rfl) h2
  obtain ⟨y3, n3, h3⟩ := trod_field ht h 3 _ rfl
  obtain ⟨x3, e3, g3⟩ := openC_api_Cap (t := 39) (by kernel_rfl) (by kernel_rfl) h3
  obtain ⟨y4, n4, h4⟩ := trod_field ht h 4 _ rfl
  obtain ⟨x4, e4, g4⟩ := open_intC (k := .i64) (by kernel_rfl) h4
  have hl : cs.length = 7 := hl0.trans hc
  match cs, hl with
  | [c0, c1, c2, c3, c4, c5, c6], _ =>
    replace e0 : [c0] = cBool x0 := (show [c0] = _ by kernel_rfl).trans e0
    replace e1 : [c1] = (cInt .i64) x1 := (show [c1] = _ by kernel_rfl).trans e1
    replace e2 : [c2] = (cInt .i64) x2 := (show [c2] = _ by kernel_rfl).trans e2
    replace e3 : [c3, c4, c5] = S_api_Cap.cells x3 := (show [c3, c4, c5] = _ by kernel_rfl).trans e3
    replace e4 : [c6] = (cInt .i64) x4 := (show [c6] = _ by kernel_rfl).trans e4
    exact ⟨⟨x0, x1, x2, x3, x4⟩, (show [c0, c1, c2, c3, c4, c5, c6] = [c0] ++ [c1] ++ [c2] ++ [c3, c4, c5] ++ [c6] from rfl).trans (by rw [e0, e1, e2, e3, e4]; rfl), g0, g1, g2, g3, g4⟩
set_option maxRecDepth 100000 in
theorem catalogueFresh_lifted (os : Os) (started : os.Started) (HH : Type) (enc : TypeId × Value → HH) :
    ReturnsInHanded {} Try.checked os 7 .any (Rows.catalogueFreshSpec.pre6 enc Try.prog Try.f7 Rows.catalogueFreshRow.domain false) (Rows.catalogueFreshSpec.post enc Try.prog Try.f7 false true false false) := by
  refine returnsInHanded_of_change (C := Try.checked) own started (by kernel_rfl) Try.func7
    (ChangeSpec.witness6 (enc := enc) (C := Try.checked) false ⟨#[], #[.int .i64 0, .int .i64 0, .slice none 0 0, .int .i64 0], []⟩ 8 (by kernel_rfl) (by kernel_rfl) (by kernel_rfl) (by kernel_rfl)) ?_
  intro W base args ds gs before hval0 hW hcnd _
  have hval : ∀ (j : Nat) t v, Try.f7.params[j]? = some t → args[j]? = some v → Value.okWide Try.prog W .any base t v := hval0
  have hW' : DataW.Whole enc Try.prog Try.f7.params.toList Rows.catalogueFreshSpec.vars false W args.toList ds gs before := hW
  obtain ⟨p, q, hA0, hV, rfl, hfz, hnd⟩ := hW
  have hA : DataW.TrodAll enc Try.prog W 0 (fun _ => true) true [3, 3, 86, 3] args.toList ds p := hA0
  obtain ⟨l⟩ := args
  obtain ⟨v0, l0, d0, ds0, p0, q0, e0, rfl, rfl, t0, hB0⟩ := trodAll_cons hA
  replace e0 : l = v0 :: l0 := e0
  subst e0
  obtain ⟨v1, l1, d1, ds1, p1, q1, e1, rfl, rfl, t1, hB1⟩ := trodAll_cons hB0
  replace e1 : l0 = v1 :: l1 := e1
  subst e1
  obtain ⟨v2, l2, d2, ds2, p2, q2, e2, rfl, rfl, t2, hB2⟩ := trodAll_cons hB1
  replace e2 : l1 = v2 :: l2 := e2
  subst e2
  obtain ⟨v3, l3, d3, ds3, p3, q3, e3, rfl, rfl, t3, hB3⟩ := trodAll_cons hB2
  replace e3 : l2 = v3 :: l3 := e3
  subst e3
  obtain ⟨rfl, rfl, rfl⟩ := trodAll_nil hB3
  obtain ⟨rfl, rfl⟩ := trodVars_none hV
  obtain ⟨x0, rfl, _, _, w0⟩ := open_int (k := .i64) (by kernel_rfl) (hval 0 3 v0 rfl rfl) t0
  obtain ⟨x1, rfl, _, _, w1⟩ := open_int (k := .i64) (by kernel_rfl) (hval 1 3 v1 rfl rfl) t1
  obtain ⟨s2, b2, rfl, r2, g2, m2, u2⟩ := open_arr (e := 90) (sz := 7) S_law11_Step.cells (fun z => G_law11_Step W z) (fun _ => rfl) (by decide) (by kernel_rfl) (by kernel_rfl) (fun _ _ _ hf => openC_law11_Step (t := 90) (by kernel_rfl) (by kernel_rfl) hf) (hval 2 86 v2 rfl rfl) t2
  obtain ⟨x3, rfl, _, _, w3⟩ := open_int (k := .i64) (by kernel_rfl) (hval 3 3 v3 rfl rfl) t3
  have walk := s_law11_CatalogueFresh.ok (x0, x1, s2, x3) (fun r h' => r = true ∧ Keeps (heapH W) h') (heapH W) (t_CatalogueFresh r2 (Nat.le_trans (r2.len ▸ r2.cap) m2) (K := fun r h' => r = true ∧ Keeps (heapH W) h') fun h' k => ⟨rfl, k⟩)
  refine (calls_law (walk.mono (fun v h' => fun ⟨r, e, er, k⟩ => ⟨by rw [e, er]; rfl, k⟩) fun _ _ k => k)).mono fun e W' => fun ⟨he, hb⟩ => ?_
  subst he
  exact ⟨_, rfl, post_law (tb := 4) laid (by kernel_rfl) rfl (by kernel_rfl) rfl hW' ⟨rfl, rfl, rfl⟩ hb⟩

theorem catalogueFresh_holds : Rows.CatalogueFreshSaid :=
  OpenClaim.holds_of_wide 7 Try.f7 rfl rfl rfl rfl rfl rfl rfl ⟨rfl, rfl, rfl, rfl, rfl⟩ rfl rfl rfl rfl rfl (by kernel_rfl) Try.func7 (by kernel_rfl)
    (of_decide_eq_true (by kernel_rfl)) (by unfold Func.isWrapper; rw [if_neg (by decide +kernel)]; exact ⟨rfl, rfl⟩)
    (fun os started H enc _ => catalogueFresh_lifted os started H enc)
end Go.Proofs.Ytiajjcboddaenaa.K
