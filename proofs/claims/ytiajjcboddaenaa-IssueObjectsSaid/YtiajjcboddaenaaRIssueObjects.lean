/- IssueObjects: true at every input, the arguments as they were. Printed by a program of mine. -/
import Derived.Test.YtiajjcboddaenaaR1
import Derived.Test.YtiajjcboddaenaaIs2
namespace Go.Proofs.Ytiajjcboddaenaa.K
open Go Go.ChangeShapes Go.WideShapes Go.ChangeAt Go.RowKit Go.Proofs

def G_api_Word (_W : World) (x : S_api_Word) : Prop := (IntKind.u64.min ≤ x.Hi ∧ x.Hi ≤ IntKind.u64.max) ∧ (IntKind.u64.min ≤ x.Lo ∧ x.Lo ≤ IntKind.u64.max)
set_option maxRecDepth 100000 in
theorem openC_api_Word {HH : Type} {enc : TypeId × Value → HH} {W : World} {t : TypeId} (ht : Try.prog.underlying t = Try.prog.underlying 36) (hc : Try.prog.cellsOf t = 2) {n : Nat} {cs : List Value} {y : DataW HH × List MemPlace} (h : DataW.trod enc Try.prog W 0 (fun _ => true) true n t cs = some y) : ∃ x : S_api_Word, cs = S_api_Word.cells x ∧ G_api_Word W x := by
  have ht : Try.prog.underlying t = _ := ht.trans Try.underlying36
  obtain ⟨_, _, _, _, hl0, _, _⟩ := DataW.trod_struct ht h
  obtain ⟨y0, n0, h0⟩ := trod_field ht h 0 _ rfl
  obtain ⟨x0, e0, g0⟩ := open_intC (k := .u64) (by kernel_rfl) h0
  obtain ⟨y1, n1, h1⟩ := trod_field ht h 1 _ rfl
  obtain ⟨x1, e1, g1⟩ := open_intC (k := .u64) (by kernel_rfl) h1
  have hl : cs.length = 2 := hl0.trans hc
  match cs, hl with
  | [c0, c1], _ =>
    replace e0 : [c0] = (cInt .u64) x0 := (show [c0] = _ by kernel_rfl).trans e0
    replace e1 : [c1] = (cInt .u64) x1 := (show [c1] = _ by kernel_rfl).trans e1
    exact ⟨⟨x0, x1⟩, (show [c0, c1] = [c0] ++ [c1] from rfl).trans (by rw [e0, e1]; rfl), g0, g1⟩
def G_api_Cap (W : World) (x : S_api_Cap) : Prop := (IntKind.i64.min ≤ x.Obj ∧ x.Obj ≤ IntKind.i64.max) ∧ G_api_Word W x.Pass
set_option maxRecDepth 100000 in
theorem openC_api_Cap {HH : Type} {enc : TypeId × Value → HH} {W : World} {t : TypeId} (ht : Try.prog.underlying t = Try.prog.underlying 38) (hc : Try.prog.cellsOf t = 3) {n : Nat} {cs : List Value} {y : DataW HH × List MemPlace} (h : DataW.trod enc Try.prog W 0 (fun _ => true) true n t cs = some y) : ∃ x : S_api_Cap, cs = S_api_Cap.cells x ∧ G_api_Cap W x := by
  have ht : Try.prog.underlying t = _ := ht.trans Try.underlying38
  obtain ⟨_, _, _, _, hl0, _, _⟩ := DataW.trod_struct ht h
  obtain ⟨y0, n0, h0⟩ := trod_field ht h 0 _ rfl
  obtain ⟨x0, e0, g0⟩ := open_intC (k := .i64) (by kernel_rfl) h0
  obtain ⟨y1, n1, h1⟩ := trod_field ht h 1 _ rfl
  obtain ⟨x1, e1, g1⟩ := openC_api_Word (t := 37) (by kernel_rfl) (by kernel_rfl) h1
  have hl : cs.length = 3 := hl0.trans hc
  match cs, hl with
  | [c0, c1, c2], _ =>
    replace e0 : [c0] = (cInt .i64) x0 := (show [c0] = _ by kernel_rfl).trans e0
    replace e1 : [c1, c2] = S_api_Word.cells x1 := (show [c1, c2] = _ by kernel_rfl).trans e1
    exact ⟨⟨x0, x1⟩, (show [c0, c1, c2] = [c0] ++ [c1, c2] from rfl).trans (by rw [e0, e1]; rfl), g0, g1⟩
def G_law13_Put (W : World) (x : S_law13_Put) : Prop := (IntKind.i64.min ≤ x.Parent ∧ x.Parent ≤ IntKind.i64.max) ∧ G_api_Cap W x.C ∧ (IntKind.i64.min ≤ x.Rights ∧ x.Rights ≤ IntKind.i64.max)
set_option maxRecDepth 100000 in
theorem openC_law13_Put {HH : Type} {enc : TypeId × Value → HH} {W : World} {t : TypeId} (ht : Try.prog.underlying t = Try.prog.underlying 70) (hc : Try.prog.cellsOf t = 5) {n : Nat} {cs : List Value} {y : DataW HH × List MemPlace} (h : DataW.trod enc Try.prog W 0 (fun _ => true) true n t cs = some y) : ∃ x : S_law13_Put, cs = S_law13_Put.cells x ∧ G_law13_Put W x := by
  have ht : Try.prog.underlying t = _ := ht.trans Try.underlying70
  obtain ⟨_, _, _, _, hl0, _, _⟩ := DataW.trod_struct ht h
  obtain ⟨y0, n0, h0⟩ := trod_field ht h 0 _ rfl
  obtain ⟨x0, e0, g0⟩ := open_intC (k := .i64) (by kernel_rfl) h0
  obtain ⟨y1, n1, h1⟩ := trod_field ht h 1 _ rfl
  obtain ⟨x1, e1, g1⟩ := openC_api_Cap (t := 39) (by kernel_rfl) (by kernel_rfl) h1
  obtain ⟨y2, n2, h2⟩ := trod_field ht h 2 _ rfl
  obtain ⟨x2, e2, g2⟩ := open_intC (k := .i64) (by kernel_rfl) h2
  have hl : cs.length = 5 := hl0.trans hc
  match cs, hl with
  | [c0, c1, c2, c3, c4], _ =>
    replace e0 : [c0] = (cInt .i64) x0 := (show [c0] = _ by kernel_rfl).trans e0
    replace e1 : [c1, c2, c3] = S_api_Cap.cells x1 := (show [c1, c2, c3] = _ by kernel_rfl).trans e1
    replace e2 : [c4] = (cInt .i64) x2 := (show [c4] = _ by kernel_rfl).trans e2
    exact ⟨⟨x0, x1, x2⟩, (show [c0, c1, c2, c3, c4] = [c0] ++ [c1, c2, c3] ++ [c4] from rfl).trans (by rw [e0, e1, e2]; rfl), g0, g1, g2⟩
set_option maxRecDepth 100000 in
theorem issueObjects_lifted (os : Os) (started : os.Started) (HH : Type) (enc : TypeId × Value → HH) :
    ReturnsInHanded {} Try.checked os 4 .any (Rows.issueObjectsSpec.pre6 enc Try.prog Try.f4 Rows.issueObjectsRow.domain false) (Rows.issueObjectsSpec.post enc Try.prog Try.f4 false true false false) := by
  refine returnsInHanded_of_change (C := Try.checked) own started (by kernel_rfl) Try.func4
    (ChangeSpec.witness6 (enc := enc) (C := Try.checked) false ⟨#[], #[.slice none 0 0, .int .i64 0, .slice none 0 0, .slice none 0 0], []⟩ 8 (by kernel_rfl) (by kernel_rfl) (by kernel_rfl) (by kernel_rfl)) ?_
  intro W base args ds gs before hval0 hW hcnd _
  have hval : ∀ (j : Nat) t v, Try.f4.params[j]? = some t → args[j]? = some v → Value.okWide Try.prog W .any base t v := hval0
  have hW' : DataW.Whole enc Try.prog Try.f4.params.toList Rows.issueObjectsSpec.vars false W args.toList ds gs before := hW
  obtain ⟨p, q, hA0, hV, rfl, hfz, hnd⟩ := hW
  have hA : DataW.TrodAll enc Try.prog W 0 (fun _ => true) true [24, 3, 57, 41] args.toList ds p := hA0
  obtain ⟨l⟩ := args
  obtain ⟨v0, l0, d0, ds0, p0, q0, e0, rfl, rfl, t0, hB0⟩ := trodAll_cons hA
  replace e0 : l = v0 :: l0 := e0
  subst e0
  obtain ⟨v1, l1, d1, ds1, p1, q1, e1, rfl, rfl, t1, hB1⟩ := trodAll_cons hB0
  replace e1 : l0 = v1 :: l1 := e1
  subst e1
  obtain ⟨v2, l2, d2, ds2, p2, q2, e2, rfl, rfl, t2, hB2⟩ := trodAll_cons hB1
  replace e2 : l1 = v2 :: l2 := e2
  subst e2
  obtain ⟨v3, l3, d3, ds3, p3, q3, e3, rfl, rfl, t3, hB3⟩ := trodAll_cons hB2
  replace e3 : l2 = v3 :: l3 := e3
  subst e3
  obtain ⟨rfl, rfl, rfl⟩ := trodAll_nil hB3
  obtain ⟨rfl, rfl⟩ := trodVars_none hV
  obtain ⟨s0, b0, rfl, r0, g0, m0, u0⟩ := open_arr (e := 37) (sz := 2) S_api_Word.cells (fun z => G_api_Word W z) (fun _ => rfl) (by decide) (by kernel_rfl) (by kernel_rfl) (fun _ _ _ hf => openC_api_Word (t := 37) (by kernel_rfl) (by kernel_rfl) hf) (hval 0 24 v0 rfl rfl) t0
  obtain ⟨x1, rfl, _, _, w1⟩ := open_int (k := .i64) (by kernel_rfl) (hval 1 3 v1 rfl rfl) t1
  obtain ⟨s2, b2, rfl, r2, g2, m2, u2⟩ := open_arr (e := 71) (sz := 5) S_law13_Put.cells (fun z => G_law13_Put W z) (fun _ => rfl) (by decide) (by kernel_rfl) (by kernel_rfl) (fun _ _ _ hf => openC_law13_Put (t := 71) (by kernel_rfl) (by kernel_rfl) hf) (hval 2 57 v2 rfl rfl) t2
  obtain ⟨s3, b3, rfl, r3, g3, m3, u3⟩ := open_ints (e := 3) (k := .i64) (by kernel_rfl) (by kernel_rfl) (by kernel_rfl) (hval 3 41 v3 rfl rfl) t3
  have walk := s_law13_IssueObjects.ok (s0, x1, s2, s3) (fun r h' => r = true ∧ Keeps (heapH W) h') (heapH W) (t_IssueObjects r0 (fun z hz => goodW_of (g0 z hz).1 (g0 z hz).2) r2 r3 (Nat.le_trans (r2.len ▸ r2.cap) m2) (Nat.le_trans (r3.len ▸ r3.cap) m3) (K := fun r h' => r = true ∧ Keeps (heapH W) h') fun h' k => ⟨rfl, k⟩)
  refine (calls_law (walk.mono (fun v h' => fun ⟨r, e, er, k⟩ => ⟨by rw [e, er]; rfl, k⟩) fun _ _ k => k)).mono fun e W' => fun ⟨he, hb⟩ => ?_
  subst he
  exact ⟨_, rfl, post_law (tb := 4) laid (by kernel_rfl) rfl (by kernel_rfl) rfl hW' ⟨rfl, rfl, rfl⟩ hb⟩

theorem issueObjects_holds : Rows.IssueObjectsSaid :=
  OpenClaim.holds_of_wide 4 Try.f4 rfl rfl rfl rfl rfl rfl rfl ⟨rfl, rfl, rfl, rfl, rfl⟩ rfl rfl rfl rfl rfl (by kernel_rfl) Try.func4 (by kernel_rfl)
    (of_decide_eq_true (by kernel_rfl)) (by unfold Func.isWrapper; rw [if_neg (by decide +kernel)]; exact ⟨rfl, rfl⟩)
    (fun os started H enc _ => issueObjects_lifted os started H enc)
end Go.Proofs.Ytiajjcboddaenaa.K
