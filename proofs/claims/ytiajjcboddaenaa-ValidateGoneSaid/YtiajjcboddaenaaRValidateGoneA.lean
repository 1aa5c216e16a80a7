/- ValidateGone: true at every input, the arguments as they were. Printed by a program of mine. -/
import Derived.Test.YtiajjcboddaenaaR1
import Derived.Test.YtiajjcboddaenaaVa5
namespace Go.Proofs.Ytiajjcboddaenaa.K
open Go Go.ChangeShapes Go.WideShapes Go.ChangeAt Go.RowKit Go.Proofs

def G_law19_Numbers (_W : World) (x : S_law19_Numbers) : Prop := (IntKind.i64.min ≤ x.Sets ∧ x.Sets ≤ IntKind.i64.max) ∧ (IntKind.i64.min ≤ x.Ways ∧ x.Ways ≤ IntKind.i64.max) ∧ (IntKind.i64.min ≤ x.Knob ∧ x.Knob ≤ IntKind.i64.max)
set_option maxRecDepth 100000 in
theorem openC_law19_Numbers {HH : Type} {enc : TypeId × Value → HH} {W : World} {t : TypeId} (ht : Try.prog.underlying t = Try.prog.underlying 113) (hc : Try.prog.cellsOf t = 3) {n : Nat} {cs : List Value} {y : DataW HH × List MemPlace} (h : DataW.trod enc Try.prog W 0 (fun _ => true) true n t cs = some y) : ∃ x : S_law19_Numbers, cs = S_law19_Numbers.cells x ∧ G_law19_Numbers W x := by
  have ht : Try.prog.underlying t = _ := ht.trans Try.underlying113
  obtain ⟨_, _, _, _, hl0, _, _⟩ := DataW.trod_struct ht h
  obtain ⟨y0, n0, h0⟩ := trod_field ht h 0 _ rfl
  obtain ⟨x0, e0, g0⟩ := open_intC (k := .i64) (by kernel_rfl) h0
  obtain ⟨y1, n1, h1⟩ := trod_field ht h 1 _ rfl
  obtain ⟨x1, e1, g1⟩ := open_intC (k := .i64) (by kernel_rfl) h1
  obtain ⟨y2, n2, h2⟩ := trod_field ht h 2 _ rfl
  obtain ⟨x2, e2, g2⟩ := open_intC (k := .i64) (by kernel_rfl) h2
  have hl : cs.length = 3 := hl0.trans hc
  match cs, hl with
  | [c0, c1, c2], _ =>
    replace e0 : [c0] = (cInt .i64) x0 := (show [c0] = _ by kernel_rfl).trans e0
    replace e1 : [c1] = (cInt .i64) x1 := (show [c1] = _ by kernel_rfl).trans e1
    replace e2 : [c2] = (cInt .i64) x2 := (show [c2] = _ by kernel_rfl).trans e2
    exact ⟨⟨x0, x1, x2⟩, (show [c0, c1, c2] = [c0] ++ [c1] ++ [c2] from rfl).trans (by rw [e0, e1, e2]; rfl), g0, g1, g2⟩
set_option maxRecDepth 100000 in
theorem validateGone_lifted (os : Os) (started : os.Started) (HH : Type) (enc : TypeId × Value → HH) :
    ReturnsInHanded {} Try.checked os 9 .any (Rows.validateGoneSpec.pre6 enc Try.prog Try.f9 Rows.validateGoneRow.domain false) (Rows.validateGoneSpec.post enc Try.prog Try.f9 false true false false) := by
  refine returnsInHanded_of_change (C := Try.checked) own started (by kernel_rfl) Try.func9
    (ChangeSpec.witness6 (enc := enc) (C := Try.checked) false ⟨#[], #[.agg #[.int .i64 0, .int .i64 0, .int .i64 0], .slice none 0 0, .int .i64 0, .int .i64 0, .int .i64 0], []⟩ 8 (by kernel_rfl) (by kernel_rfl) (by kernel_rfl) (by kernel_rfl)) ?_
  intro W base args ds gs before hval0 hW hcnd _
  have hval : ∀ (j : Nat) t v, Try.f9.params[j]? = some t → args[j]? = some v → Value.okWide Try.prog W .any base t v := hval0
  have hW' : DataW.Whole enc Try.prog Try.f9.params.toList Rows.validateGoneSpec.vars false W args.toList ds gs before := hW
  obtain ⟨p, q, hA0, hV, rfl, hfz, hnd⟩ := hW
  have hA : DataW.TrodAll enc Try.prog W 0 (fun _ => true) true [114, 128, 3, 3, 3] args.toList ds p := hA0
  obtain ⟨l⟩ := args
  obtain ⟨v0, l0, d0, ds0, p0, q0, e0, rfl, rfl, t0, hB0⟩ := trodAll_cons hA
  replace e0 : l = v0 :: l0 := e0
  subst e0
  obtain ⟨v1, l1, d1, ds1, p1, q1, e1, rfl, rfl, t1, hB1⟩ := trodAll_cons hB0
  replace e1 : l0 = v1 :: l1 := e1
  subst e1
  obtain ⟨v2, l2, d2, ds2, p2, q2, e2, rfl, rfl, t2, hB2⟩ := trodAll_cons hB1
  replace e2 : l1 = v2 :: l2 := e2
  subst e2
  obtain ⟨v3, l3, d3, ds3, p3, q3, e3, rfl, rfl, t3, hB3⟩ := trodAll_cons hB2
  replace e3 : l2 = v3 :: l3 := e3
  subst e3
  obtain ⟨v4, l4, d4, ds4, p4, q4, e4, rfl, rfl, t4, hB4⟩ := trodAll_cons hB3
  replace e4 : l3 = v4 :: l4 := e4
  subst e4
  obtain ⟨rfl, rfl, rfl⟩ := trodAll_nil hB4
  obtain ⟨rfl, rfl⟩ := trodVars_none hV
  obtain ⟨c0, rfl, _, _, hf0⟩ := open_str ((show Try.prog.underlying 114 = Try.prog.underlying 113 by kernel_rfl).trans Try.underlying113) (hval 0 114 v0 rfl rfl) t0
  obtain ⟨x0, ec0, g0⟩ := openC_law19_Numbers (t := 114) (by kernel_rfl) (by kernel_rfl) hf0
  subst ec0
  obtain ⟨s1, b1, rfl, r1, g1, m1, u1⟩ := open_ints (e := 35) (k := .u64) (by kernel_rfl) (by kernel_rfl) (by kernel_rfl) (hval 1 128 v1 rfl rfl) t1
  obtain ⟨x2, rfl, _, _, w2⟩ := open_int (k := .i64) (by kernel_rfl) (hval 2 3 v2 rfl rfl) t2
  obtain ⟨x3, rfl, _, _, w3⟩ := open_int (k := .i64) (by kernel_rfl) (hval 3 3 v3 rfl rfl) t3
  obtain ⟨x4, rfl, _, _, w4⟩ := open_int (k := .i64) (by kernel_rfl) (hval 4 3 v4 rfl rfl) t4
  have walk := s_law19_ValidateGone.ok (x0, s1, x2, x3, x4) (fun r h' => r = true ∧ Keeps (heapH W) h') (heapH W) (t_ValidateGone r1 (K := fun r h' => r = true ∧ Keeps (heapH W) h') fun h' k => ⟨rfl, k⟩)
  refine (calls_law (walk.mono (fun v h' => fun ⟨r, e, er, k⟩ => ⟨by rw [e, er]; rfl, k⟩) fun _ _ k => k)).mono fun e W' => fun ⟨he, hb⟩ => ?_
  subst he
  exact ⟨_, rfl, post_law (tb := 4) laid (by kernel_rfl) rfl (by kernel_rfl) rfl hW' ⟨rfl, rfl, rfl⟩ hb⟩

theorem validateGone_inPlace : (Rows.validateGoneRow.inPlace == Try.pinned.checked.prog.inPlace 9) = true := by kernel_rfl
theorem validateGone_unfollowed : (Rows.validateGoneRow.unfollowed == Try.pinned.checked.prog.unfollowed 9) = true := by kernel_rfl
theorem validateGone_recurses : (Rows.validateGoneRow.recurses == Try.pinned.checked.prog.recurses 9) = true := by kernel_rfl
theorem validateGone_named : (Rows.validateGoneRow.named == Try.pinned.checked.prog.varsNamed 9) = true := by kernel_rfl
end Go.Proofs.Ytiajjcboddaenaa.K
