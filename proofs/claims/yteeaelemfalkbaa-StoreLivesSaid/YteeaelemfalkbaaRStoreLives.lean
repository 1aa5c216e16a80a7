/- StoreLives: true at every input, the arguments as they were. Printed by a program of mine. -/
import Derived.Test.YteeaelemfalkbaaR1
import Derived.Test.YteeaelemfalkbaaL07c
import Derived.HandedShaped
import Derived.Carry
namespace Go.Proofs.Yteeaelemfalkbaa.K
open Go Go.ChangeShapes Go.WideShapes Go.ChangeAt Go.RowKit Go.Proofs

def G_law07_Life (W : World) (x : S_law07_Life) : Prop := (IntKind.i64.min ≤ x.Size ∧ x.Size ≤ IntKind.i64.max) ∧ (IntKind.i64.min ≤ x.Off ∧ x.Off ≤ IntKind.i64.max) ∧ (∃ xs, Arr cU8 (heapH W) x.Data xs ∧ (∀ z ∈ xs, True) ∧ x.Data.cap ≤ maxLen) ∧ True
set_option maxRecDepth 100000 in
theorem openC_law07_Life {HH : Type} {enc : TypeId × Value → HH} {W : World} {t : TypeId} (ht : Try.prog.underlying t = Try.prog.underlying 50) (hc : Try.prog.cellsOf t = 4) {n : Nat} {cs : List Value} {y : DataW HH × List MemPlace} (h : DataW.trod enc Try.prog W 0 (fun _ => true) true n t cs = some y) : ∃ x : S_law07_Life, cs = S_law07_Life.cells x ∧ G_law07_Life W x := by
  have ht : Try.prog.underlying t = _ := ht.trans Try.underlying50
  obtain ⟨_, _, _, _, hl0, _, _⟩ := DataW.trod_struct ht h
  obtain ⟨y0, n0, h0⟩ := trod_field ht h 0 _ rfl
  obtain ⟨x0, e0, g0⟩ := open_intC (k := .i64) (by kernel_rfl) h0
  obtain ⟨y1, n1, h1⟩ := trod_field ht h 1 _ rfl
  obtain ⟨x1, e1, g1⟩ := open_intC (k := .i64) (by kernel_rfl) h1
  obtain ⟨y2, n2, h2⟩ := trod_field ht h 2 _ rfl
  obtain ⟨x2, e2, g2⟩ := open_slC (e := 5) (sz := 1) (cells := cU8) (Good := fun _ => True) (fun _ => rfl) (by decide) (by kernel_rfl) (by kernel_rfl) open_u8C h2
  obtain ⟨y3, n3, h3⟩ := trod_field ht h 3 _ rfl
  obtain ⟨x3, e3, g3⟩ := open_boolC (by kernel_rfl) h3
  have hl : cs.length = 4 := hl0.trans hc
  match cs, hl with
  | [c0, c1, c2, c3], _ =>
    replace e0 : [c0] = (cInt .i64) x0 := (show [c0] = _ by kernel_rfl).trans e0
    replace e1 : [c1] = (cInt .i64) x1 := (show [c1] = _ by kernel_rfl).trans e1
    replace e2 : [c2] = cSl x2 := (show [c2] = _ by kernel_rfl).trans e2
    replace e3 : [c3] = cBool x3 := (show [c3] = _ by kernel_rfl).trans e3
    exact ⟨⟨x0, x1, x2, x3⟩, (show [c0, c1, c2, c3] = [c0] ++ [c1] ++ [c2] ++ [c3] from rfl).trans (by rw [e0, e1, e2, e3]; rfl), g0, g1, g2, g3⟩
set_option maxRecDepth 100000 in
theorem storeLives_lifted (os : Os) (started : os.Started) (HH : Type) (enc : TypeId × Value → HH) :
    ReturnsInHanded {} Try.checked os 5 .any (Rows.storeLivesSpec.pre6 enc Try.prog Try.f5 Rows.storeLivesRow.domain false) (Rows.storeLivesSpec.post enc Try.prog Try.f5 false true false false) := by
  refine returnsInHanded_of_change_shaped (C := Try.checked) own started (by kernel_rfl) Try.func5
    (ChangeSpec.witness6 (enc := enc) (C := Try.checked) false ⟨#[], #[.slice none 0 0], []⟩ 8 (by kernel_rfl) (by kernel_rfl) (by kernel_rfl) (by kernel_rfl)) ?_
  intro W base args ds gs before hval0 hW hcnd hwt0 _ _
  have hval : ∀ (j : Nat) t v, Try.f5.params[j]? = some t → args[j]? = some v → Value.okWide Try.prog W .any base t v := hval0
  have hW' : DataW.Whole enc Try.prog Try.f5.params.toList Rows.storeLivesSpec.vars false W args.toList ds gs before := hW
  obtain ⟨p, q, hA0, hV, rfl, hfz, hnd⟩ := hW
  have hA : DataW.TrodAll enc Try.prog W 0 (fun _ => true) true [44] args.toList ds p := hA0
  obtain ⟨l⟩ := args
  obtain ⟨v0, l0, d0, ds0, p0, q0, e0, rfl, rfl, t0, hB0⟩ := trodAll_cons hA
  replace e0 : l = v0 :: l0 := e0
  subst e0
  obtain ⟨rfl, rfl, rfl⟩ := trodAll_nil hB0
  obtain ⟨rfl, rfl⟩ := trodVars_none hV
  have hwt : (DataW.weightsEach Try.prog ([44] ++ []) ([d0] ++ [])).all (· ≤ reachBytes) = true := hwt0
  clear hwt0
  simp only [List.append_nil, DataW.weightsEach, List.all_append, Bool.and_eq_true] at hwt
  have y0 := hwt
  obtain ⟨s0, b0, rfl, r0, g0, m0, u0⟩ := open_arr (e := 51) (sz := 4) S_law07_Life.cells (fun z => G_law07_Life W z) (fun _ => rfl) (by decide) (by kernel_rfl) (by kernel_rfl) (fun _ _ _ hf => openC_law07_Life (t := 51) (by kernel_rfl) (by kernel_rfl) hf) (hval 0 44 v0 rfl rfl) t0
  have z0 := u0 reachBytes y0
  unfold reachBytes at z0
  rw [show Try.prog.bytesOf 51 = 48 from by kernel_rfl] at z0
  have walk := s_law07_StoreLives.ok (s0) (fun r h' => r = true ∧ Keeps (heapH W) h') (heapH W) (t_StoreLives r0 (fun o ho => (g0 o ho).2.2.1.imp fun xs q => ⟨q.1, q.2.2⟩) (by omega) (K := fun r h' => r = true ∧ Keeps (heapH W) h') fun h' k => ⟨rfl, k⟩)
  refine (calls_law (walk.mono (fun v h' => fun ⟨r, e, er, k⟩ => ⟨by rw [e, er]; rfl, k⟩) fun _ _ k => k)).mono fun e W' => fun ⟨he, hb⟩ => ?_
  subst he
  exact ⟨_, rfl, post_law (tb := 4) laid (by kernel_rfl) rfl (by kernel_rfl) rfl hW' ⟨rfl, rfl, rfl⟩ hb⟩

theorem storeLives_holds : Rows.StoreLivesSaid :=
  OpenClaim.holds_of_wide 5 Try.f5 rfl rfl rfl rfl rfl rfl rfl ⟨rfl, rfl, rfl, rfl, rfl⟩ rfl rfl rfl rfl rfl (by kernel_rfl) Try.func5 (by kernel_rfl)
    (of_decide_eq_true (by kernel_rfl)) (by unfold Func.isWrapper; rw [if_neg (by decide +kernel)]; exact ⟨rfl, rfl⟩)
    (fun os started H enc _ => storeLives_lifted os started H enc)
end Go.Proofs.Yteeaelemfalkbaa.K
