/- WideBack: true at every input, the arguments as they were. Printed by a program of mine. -/
import Derived.Test.YtnmaknkbdfpbkaaR0
import Derived.Test.YtnmaknkbdfpbkaaL01b
import Derived.HandedShaped
import Derived.Carry
namespace Go.Proofs.Ytnmaknkbdfpbkaa.K
open Go Go.ChangeShapes Go.WideShapes Go.ChangeAt Go.RowKit Go.Proofs

set_option maxRecDepth 100000 in
theorem wideBack_lifted (os : Os) (started : os.Started) (HH : Type) (enc : TypeId × Value → HH) :
    ReturnsInHanded {} Try.checked os 10 .any (Rows.wideBackSpec.pre6 enc Try.prog Try.f10 Rows.wideBackRow.domain false) (Rows.wideBackSpec.post enc Try.prog Try.f10 false true false false) := by
  refine returnsInHanded_of_change_shaped (C := Try.checked) own started (by kernel_rfl) Try.func10
    (ChangeSpec.witness6 (enc := enc) (C := Try.checked) false ⟨#[], #[.agg #[.int .u64 0, .int .u64 0], .slice none 0 0, .string ⟨#[]⟩], []⟩ 8 (by kernel_rfl) (by kernel_rfl) (by kernel_rfl) (by kernel_rfl)) ?_
  intro W base args ds gs before hval0 hW hcnd hwt0 _ _
  have hval : ∀ (j : Nat) t v, Try.f10.params[j]? = some t → args[j]? = some v → Value.okWide Try.prog W .any base t v := hval0
  have hW' : DataW.Whole enc Try.prog Try.f10.params.toList Rows.wideBackSpec.vars false W args.toList ds gs before := hW
  obtain ⟨p, q, hA0, hV, rfl, hfz, hnd⟩ := hW
  have hA : DataW.TrodAll enc Try.prog W 0 (fun _ => true) true [25, 68, 9] args.toList ds p := hA0
  obtain ⟨l⟩ := args
  obtain ⟨v0, l0, d0, ds0, p0, q0, e0, rfl, rfl, t0, hB0⟩ := trodAll_cons hA
  replace e0 : l = v0 :: l0 := e0
  subst e0
  obtain ⟨v1, l1, d1, ds1, p1, q1, e1, rfl, rfl, t1, hB1⟩ := trodAll_cons hB0
  replace e1 : l0 = v1 :: l1 := e1
  subst e1
  obtain ⟨v2, l2, d2, ds2, p2, q2, e2, rfl, rfl, t2, hB2⟩ := trodAll_cons hB1
  replace e2 : l1 = v2 :: l2 := e2
  subst e2
  obtain ⟨rfl, rfl, rfl⟩ := trodAll_nil hB2
  obtain ⟨rfl, rfl⟩ := trodVars_none hV
  have hwt : (DataW.weightsEach Try.prog ([25, 68, 9] ++ []) ([d0, d1, d2] ++ [])).all (· ≤ reachBytes) = true := hwt0
  clear hwt0
  simp only [List.append_nil, DataW.weightsEach, List.all_append, Bool.and_eq_true] at hwt
  obtain ⟨y0, y1, y2⟩ := hwt
  obtain ⟨x0, rfl, h0⟩ := open_word (hval 0 25 v0 rfl rfl) t0
  obtain ⟨s1, b1, rfl, r1, m1, u1⟩ := open_bytes (hval 1 68 v1 rfl rfl) t1
  obtain ⟨x2, rfl, _, _, h2⟩ := ChangeMaps.open_string (by kernel_rfl) (hval 2 9 v2 rfl rfl) t2
  have z1 := u1 reachBytes y1
  unfold reachBytes at z1
  have walk := s_law01_WideBack.ok (wordOf x0, s1, x2) (fun r h' => r = true ∧ Keeps (heapH W) h') (heapH W) (t_WideBack h0 r1 (by omega) h2 (K := fun r h' => r = true ∧ Keeps (heapH W) h') fun h' k => ⟨rfl, k⟩)
  refine (calls_law (walk.mono (fun v h' => fun ⟨r, e, er, k⟩ => ⟨by rw [e, er]; rfl, k⟩) fun _ _ k => k)).mono fun e W' => fun ⟨he, hb⟩ => ?_
  subst he
  exact ⟨_, rfl, post_law (tb := 4) laid (by kernel_rfl) rfl (by kernel_rfl) rfl hW' ⟨rfl, rfl, rfl⟩ hb⟩

theorem wideBack_holds : Rows.WideBackSaid :=
  OpenClaim.holds_of_wide 10 Try.f10 rfl rfl rfl rfl rfl rfl rfl ⟨rfl, rfl, rfl, rfl, rfl⟩ rfl rfl rfl rfl rfl (by kernel_rfl) Try.func10 (by kernel_rfl)
    (of_decide_eq_true (by kernel_rfl)) (by unfold Func.isWrapper; rw [if_neg (by decide +kernel)]; exact ⟨rfl, rfl⟩)
    (fun os started H enc _ => wideBack_lifted os started H enc)
end Go.Proofs.Ytnmaknkbdfpbkaa.K
