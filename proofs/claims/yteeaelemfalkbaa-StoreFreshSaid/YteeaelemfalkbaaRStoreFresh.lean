/- StoreFresh: true at every input, the arguments as they were. Printed by a program of mine. -/
import Derived.Test.YteeaelemfalkbaaR2
import Derived.Test.YteeaelemfalkbaaL07g
import Derived.HandedShaped
import Derived.Carry
namespace Go.Proofs.Yteeaelemfalkbaa.K
open Go Go.ChangeShapes Go.WideShapes Go.ChangeAt Go.RowKit Go.Proofs

def G_law07_Op (W : World) (x : S_law07_Op) : Prop := (IntKind.i64.min ≤ x.Kind ∧ x.Kind ≤ IntKind.i64.max) ∧ (IntKind.i64.min ≤ x.Which ∧ x.Which ≤ IntKind.i64.max) ∧ (IntKind.i64.min ≤ x.Id ∧ x.Id ≤ IntKind.i64.max) ∧ (IntKind.i64.min ≤ x.Off ∧ x.Off ≤ IntKind.i64.max) ∧ (IntKind.i64.min ≤ x.N ∧ x.N ≤ IntKind.i64.max) ∧ (∃ xs, Arr cU8 (heapH W) x.Data xs ∧ (∀ z ∈ xs, True) ∧ x.Data.cap ≤ maxLen)
def W_law07_Op (B : Nat) (x : S_law07_Op) : Prop := x.Data.len * Try.prog.bytesOf 5 ≤ B
set_option maxRecDepth 100000 in
theorem openC_law07_Op {HH : Type} {enc : TypeId × Value → HH} {W : World} {t : TypeId} (ht : Try.prog.underlying t = Try.prog.underlying 68) (hc : Try.prog.cellsOf t = 6) {n : Nat} {cs : List Value} {y : DataW HH × List MemPlace} (h : DataW.trod enc Try.prog W 0 (fun _ => true) true n t cs = some y) : ∃ x : S_law07_Op, cs = S_law07_Op.cells x ∧ G_law07_Op W x ∧ ∀ B, Weigh B t y.1 → W_law07_Op B x := by
  have ht : Try.prog.underlying t = _ := ht.trans Try.underlying68
  obtain ⟨_, _, _, _, hl0, _, _⟩ := DataW.trod_struct ht h
  obtain ⟨y0, n0, h0, k0⟩ := trod_fieldW ht h 0 _ rfl
  obtain ⟨x0, e0, g0⟩ := open_intC (k := .i64) (by kernel_rfl) h0
  obtain ⟨y1, n1, h1, k1⟩ := trod_fieldW ht h 1 _ rfl
  obtain ⟨x1, e1, g1⟩ := open_intC (k := .i64) (by kernel_rfl) h1
  obtain ⟨y2, n2, h2, k2⟩ := trod_fieldW ht h 2 _ rfl
  obtain ⟨x2, e2, g2⟩ := open_intC (k := .i64) (by kernel_rfl) h2
  obtain ⟨y3, n3, h3, k3⟩ := trod_fieldW ht h 3 _ rfl
  obtain ⟨x3, e3, g3⟩ := open_intC (k := .i64) (by kernel_rfl) h3
  obtain ⟨y4, n4, h4, k4⟩ := trod_fieldW ht h 4 _ rfl
  obtain ⟨x4, e4, g4⟩ := open_intC (k := .i64) (by kernel_rfl) h4
  obtain ⟨y5, n5, h5, k5⟩ := trod_fieldW ht h 5 _ rfl
  obtain ⟨x5, e5, g5, w5⟩ := open_slCW (e := 5) (sz := 1) (cells := cU8) (Good := fun _ => True) (fun _ => rfl) (by decide) (by kernel_rfl) (by kernel_rfl) open_u8C h5
  have hl : cs.length = 6 := hl0.trans hc
  match cs, hl with
  | [c0, c1, c2, c3, c4, c5], _ =>
    replace e0 : [c0] = (cInt .i64) x0 := (show [c0] = _ by kernel_rfl).trans e0
    replace e1 : [c1] = (cInt .i64) x1 := (show [c1] = _ by kernel_rfl).trans e1
    replace e2 : [c2] = (cInt .i64) x2 := (show [c2] = _ by kernel_rfl).trans e2
    replace e3 : [c3] = (cInt .i64) x3 := (show [c3] = _ by kernel_rfl).trans e3
    replace e4 : [c4] = (cInt .i64) x4 := (show [c4] = _ by kernel_rfl).trans e4
    replace e5 : [c5] = cSl x5 := (show [c5] = _ by kernel_rfl).trans e5
    exact ⟨⟨x0, x1, x2, x3, x4, x5⟩, (show [c0, c1, c2, c3, c4, c5] = [c0] ++ [c1] ++ [c2] ++ [c3] ++ [c4] ++ [c5] from rfl).trans (by rw [e0, e1, e2, e3, e4, e5]; rfl), ⟨g0, g1, g2, g3, g4, g5⟩, fun B hB => w5 B (k5 B hB)⟩
set_option maxRecDepth 100000 in
theorem storeFresh_lifted (os : Os) (started : os.Started) (HH : Type) (enc : TypeId × Value → HH) :
    ReturnsInHanded {} Try.checked os 6 .any (Rows.storeFreshSpec.pre6 enc Try.prog Try.f6 Rows.storeFreshRow.domain false) (Rows.storeFreshSpec.post enc Try.prog Try.f6 false true false false) := by
  refine returnsInHanded_of_change_shaped (C := Try.checked) own started (by kernel_rfl) Try.func6
    (ChangeSpec.witness6 (enc := enc) (C := Try.checked) false ⟨#[], #[.slice none 0 0, .int .i64 0, .int .i64 0], []⟩ 8 (by kernel_rfl) (by kernel_rfl) (by kernel_rfl) (by kernel_rfl)) ?_
  intro W base args ds gs before hval0 hW hcnd hwt0 _ _
  have hval : ∀ (j : Nat) t v, Try.f6.params[j]? = some t → args[j]? = some v → Value.okWide Try.prog W .any base t v := hval0
  have hW' : DataW.Whole enc Try.prog Try.f6.params.toList Rows.storeFreshSpec.vars false W args.toList ds gs before := hW
  obtain ⟨p, q, hA0, hV, rfl, hfz, hnd⟩ := hW
  have hA : DataW.TrodAll enc Try.prog W 0 (fun _ => true) true [61, 3, 3] args.toList ds p := hA0
  obtain ⟨l⟩ := args
  obtain ⟨v0, l0, d0, ds0, p0, q0, e0, rfl, rfl, t0, hB0⟩ := trodAll_cons hA
  replace e0 : l = v0 :: l0 := e0
  subst e0
  obtain ⟨v1, l1, d1, ds1, p1, q1, e1, rfl, rfl, t1, hB1⟩ := trodAll_cons hB0
  replace e1 : l0 = v1 :: l1 := e1
  subst e1
  obtain ⟨v2, l2, d2, ds2, p2, q2, e2, rfl, rfl, t2, hB2⟩ := trodAll_cons hB1
  replace e2 : l1 = v2 :: l2 := e2
  subst e2
  obtain ⟨rfl, rfl, rfl⟩ := trodAll_nil hB2
  obtain ⟨rfl, rfl⟩ := trodVars_none hV
  have hwt : (DataW.weightsEach Try.prog ([61, 3, 3] ++ []) ([d0, d1, d2] ++ [])).all (· ≤ reachBytes) = true := hwt0
  clear hwt0
  simp only [List.append_nil, DataW.weightsEach, List.all_append, Bool.and_eq_true] at hwt
  obtain ⟨y0, y1, y2⟩ := hwt
  obtain ⟨s0, b0, rfl, r0, g0, m0, u0⟩ := open_arrW (e := 69) (sz := 6) S_law07_Op.cells (fun z => G_law07_Op W z) W_law07_Op (fun _ => rfl) (by decide) (by kernel_rfl) (by kernel_rfl) (fun _ _ _ hf => openC_law07_Op (t := 69) (by kernel_rfl) (by kernel_rfl) hf) (hval 0 61 v0 rfl rfl) t0
  obtain ⟨x1, rfl, _, _, w1⟩ := open_int (k := .i64) (by kernel_rfl) (hval 1 3 v1 rfl rfl) t1
  obtain ⟨x2, rfl, _, _, w2⟩ := open_int (k := .i64) (by kernel_rfl) (hval 2 3 v2 rfl rfl) t2
  have z0 := u0 reachBytes y0
  unfold reachBytes at z0
  have walk := s_law07_StoreFresh.ok (s0, x1, x2) (fun r h' => r = true ∧ Keeps (heapH W) h') (heapH W) (t_StoreFresh r0 (fun o ho => (g0 o ho).2.2.2.2.2.imp fun xs q => ⟨q.1, by have e := q.1.len; have w := z0.2 o ho; unfold W_law07_Op at w; rw [show Try.prog.bytesOf 5 = 1 from by kernel_rfl] at w; omega⟩) (by have w := z0.1; rw [show Try.prog.bytesOf 69 = 64 from by kernel_rfl] at w; omega) (K := fun r h' => r = true ∧ Keeps (heapH W) h') fun h' k => ⟨rfl, k⟩)
  refine (calls_law (walk.mono (fun v h' => fun ⟨r, e, er, k⟩ => ⟨by rw [e, er]; rfl, k⟩) fun _ _ k => k)).mono fun e W' => fun ⟨he, hb⟩ => ?_
  subst he
  exact ⟨_, rfl, post_law (tb := 4) laid (by kernel_rfl) rfl (by kernel_rfl) rfl hW' ⟨rfl, rfl, rfl⟩ hb⟩

theorem storeFresh_holds : Rows.StoreFreshSaid :=
  OpenClaim.holds_of_wide 6 Try.f6 rfl rfl rfl rfl rfl rfl rfl ⟨rfl, rfl, rfl, rfl, rfl⟩ rfl rfl rfl rfl rfl (by kernel_rfl) Try.func6 (by kernel_rfl)
    (of_decide_eq_true (by kernel_rfl)) (by unfold Func.isWrapper; rw [if_neg (by decide +kernel)]; exact ⟨rfl, rfl⟩)
    (fun os started H enc _ => storeFresh_lifted os started H enc)
end Go.Proofs.Yteeaelemfalkbaa.K
