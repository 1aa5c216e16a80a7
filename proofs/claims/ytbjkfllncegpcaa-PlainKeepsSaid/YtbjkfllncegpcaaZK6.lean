/- plainKeeps: true at every input, the arguments as they were: no condition. Part 6 of 6. -/
import Derived.Test.YtbjkfllncegpcaaZK5
namespace Go.Proofs.Ytbjkfllncegpcaa.K
open Go Go.ChangeShapes Go.WideShapes Go.ChangeAt Go.RowKit Go.Proofs
def G_api_Config (_W : World) (x : S_api_Config) : Prop := (IntKind.i64.min ≤ x.Width ∧ x.Width ≤ IntKind.i64.max) ∧ (IntKind.i64.min ≤ x.Objects ∧ x.Objects ≤ IntKind.i64.max) ∧ (IntKind.i64.min ≤ x.Pages ∧ x.Pages ≤ IntKind.i64.max) ∧ (IntKind.i64.min ≤ x.Entries ∧ x.Entries ≤ IntKind.i64.max) ∧ (IntKind.i64.min ≤ x.Quota ∧ x.Quota ≤ IntKind.i64.max) ∧ (IntKind.i64.min ≤ x.Procs ∧ x.Procs ≤ IntKind.i64.max) ∧ (IntKind.i64.min ≤ x.List ∧ x.List ≤ IntKind.i64.max) ∧ (IntKind.i64.min ≤ x.Sets ∧ x.Sets ≤ IntKind.i64.max) ∧ (IntKind.i64.min ≤ x.Ways ∧ x.Ways ≤ IntKind.i64.max) ∧ (IntKind.i64.min ≤ x.Knob ∧ x.Knob ≤ IntKind.i64.max)
def W_api_Config (_B : Nat) (_x : S_api_Config) : Prop := True
set_option maxRecDepth 100000 in
theorem openC_api_Config {HH : Type} {enc : TypeId × Value → HH} {W : World} {t : TypeId} (ht : Try.prog.underlying t = Try.prog.underlying 22) (hc : Try.prog.cellsOf t = 10) {n : Nat} {cs : List Value} {y : DataW HH × List MemPlace} (h : DataW.trod enc Try.prog W 0 (fun _ => true) true n t cs = some y) : ∃ x : S_api_Config, cs = S_api_Config.cells x ∧ G_api_Config W x ∧ ∀ B, Weigh B t y.1 → W_api_Config B x := by
  have ht : Try.prog.underlying t = _ := ht.trans Try.underlying22
  obtain ⟨_, _, _, _, hl0, _, _⟩ := DataW.trod_struct ht h
  obtain ⟨y0, n0, h0, k0⟩ := trod_fieldW ht h 0 _ rfl
  obtain ⟨x0, e0, g0⟩ := open_intC (k := .i64) (by kernel_rfl) h0
  obtain ⟨y1, n1, h1, k1⟩ := trod_fieldW ht h 1 _ rfl
  obtain ⟨x1, e1, g1⟩ := open_intC (k := .i64) (by kernel_rfl) h1
  obtain ⟨y2, n2, h2, k2⟩ := trod_fieldW ht h 2 _ rfl
  obtain ⟨x2, e2, g2⟩ := open_intC (k := .i64) (by kernel_rfl) h2
  obtain ⟨y3, n3, h3, k3⟩ := trod_fieldW ht h 3 _ rfl
  obtain ⟨x3, e3, g3⟩ := open_intC (k := .i64) (by kernel_rfl) h3
  obtain ⟨y4, n4, h4, k4⟩ := trod_fieldW ht h 4 _ rfl
  obtain ⟨x4, e4, g4⟩ := open_intC (k := .i64) (by kernel_rfl) h4
  obtain ⟨y5, n5, h5, k5⟩ := trod_fieldW ht h 5 _ rfl
  obtain ⟨x5, e5, g5⟩ := open_intC (k := .i64) (by kernel_rfl) h5
  obtain ⟨y6, n6, h6, k6⟩ := trod_fieldW ht h 6 _ rfl
  obtain ⟨x6, e6, g6⟩ := open_intC (k := .i64) (by kernel_rfl) h6
  obtain ⟨y7, n7, h7, k7⟩ := trod_fieldW ht h 7 _ rfl
  obtain ⟨x7, e7, g7⟩ := open_intC (k := .i64) (by kernel_rfl) h7
  obtain ⟨y8, n8, h8, k8⟩ := trod_fieldW ht h 8 _ rfl
  obtain ⟨x8, e8, g8⟩ := open_intC (k := .i64) (by kernel_rfl) h8
  obtain ⟨y9, n9, h9, k9⟩ := trod_fieldW ht h 9 _ rfl
  obtain ⟨x9, e9, g9⟩ := open_intC (k := .i64) (by kernel_rfl) h9
  have hl : cs.length = 10 := hl0.trans hc
  match cs, hl with
  | [c0, c1, c2, c3, c4, c5, c6, c7, c8, c9], _ =>
    replace e0 : [c0] = (cInt .i64) x0 := (show [c0] = _ by kernel_rfl).trans e0
    replace e1 : [c1] = (cInt .i64) x1 := (show [c1] = _ by kernel_rfl).trans e1
    replace e2 : [c2] = (cInt .i64) x2 := (show [c2] = _ by kernel_rfl).trans e2
    replace e3 : [c3] = (cInt .i64) x3 := (show [c3] = _ by kernel_rfl).trans e3
    replace e4 : [c4] = (cInt .i64) x4 := (show [c4] = _ by kernel_rfl).trans e4
    replace e5 : [c5] = (cInt .i64) x5 := (show [c5] = _ by kernel_rfl).trans e5
    replace e6 : [c6] = (cInt .i64) x6 := (show [c6] = _ by kernel_rfl).trans e6
    replace e7 : [c7] = (cInt .i64) x7 := (show [c7] = _ by kernel_rfl).trans e7
    replace e8 : [c8] = (cInt .i64) x8 := (show [c8] = _ by kernel_rfl).trans e8
    replace e9 : [c9] = (cInt .i64) x9 := (show [c9] = _ by kernel_rfl).trans e9
    exact ⟨⟨x0, x1, x2, x3, x4, x5, x6, x7, x8, x9⟩, (show [c0, c1, c2, c3, c4, c5, c6, c7, c8, c9] = [c0] ++ [c1] ++ [c2] ++ [c3] ++ [c4] ++ [c5] ++ [c6] ++ [c7] ++ [c8] ++ [c9] from rfl).trans (by rw [e0, e1, e2, e3, e4, e5, e6, e7, e8, e9]; rfl), ⟨g0, g1, g2, g3, g4, g5, g6, g7, g8, g9⟩, fun B hB => trivial⟩
def G_api_Word (_W : World) (x : S_api_Word) : Prop := (IntKind.u64.min ≤ x.Hi ∧ x.Hi ≤ IntKind.u64.max) ∧ (IntKind.u64.min ≤ x.Lo ∧ x.Lo ≤ IntKind.u64.max)
def W_api_Word (_B : Nat) (_x : S_api_Word) : Prop := True
set_option maxRecDepth 100000 in
theorem openC_api_Word {HH : Type} {enc : TypeId × Value → HH} {W : World} {t : TypeId} (ht : Try.prog.underlying t = Try.prog.underlying 36) (hc : Try.prog.cellsOf t = 2) {n : Nat} {cs : List Value} {y : DataW HH × List MemPlace} (h : DataW.trod enc Try.prog W 0 (fun _ => true) true n t cs = some y) : ∃ x : S_api_Word, cs = S_api_Word.cells x ∧ G_api_Word W x ∧ ∀ B, Weigh B t y.1 → W_api_Word B x := by
  have ht : Try.prog.underlying t = _ := ht.trans Try.underlying36
  obtain ⟨_, _, _, _, hl0, _, _⟩ := DataW.trod_struct ht h
  obtain ⟨y0, n0, h0, k0⟩ := trod_fieldW ht h 0 _ rfl
  obtain ⟨x0, e0, g0⟩ := open_intC (k := .u64) (by kernel_rfl) h0
  obtain ⟨y1, n1, h1, k1⟩ := trod_fieldW ht h 1 _ rfl
  obtain ⟨x1, e1, g1⟩ := open_intC (k := .u64) (by kernel_rfl) h1
  have hl : cs.length = 2 := hl0.trans hc
  match cs, hl with
  | [c0, c1], _ =>
    replace e0 : [c0] = (cInt .u64) x0 := (show [c0] = _ by kernel_rfl).trans e0
    replace e1 : [c1] = (cInt .u64) x1 := (show [c1] = _ by kernel_rfl).trans e1
    exact ⟨⟨x0, x1⟩, (show [c0, c1] = [c0] ++ [c1] from rfl).trans (by rw [e0, e1]; rfl), ⟨g0, g1⟩, fun B hB => trivial⟩
def G_api_Cap (W : World) (x : S_api_Cap) : Prop := (IntKind.i64.min ≤ x.Obj ∧ x.Obj ≤ IntKind.i64.max) ∧ G_api_Word W x.Pass
def W_api_Cap (_B : Nat) (_x : S_api_Cap) : Prop := True
set_option maxRecDepth 100000 in
theorem openC_api_Cap {HH : Type} {enc : TypeId × Value → HH} {W : World} {t : TypeId} (ht : Try.prog.underlying t = Try.prog.underlying 38) (hc : Try.prog.cellsOf t = 3) {n : Nat} {cs : List Value} {y : DataW HH × List MemPlace} (h : DataW.trod enc Try.prog W 0 (fun _ => true) true n t cs = some y) : ∃ x : S_api_Cap, cs = S_api_Cap.cells x ∧ G_api_Cap W x ∧ ∀ B, Weigh B t y.1 → W_api_Cap B x := by
  have ht : Try.prog.underlying t = _ := ht.trans Try.underlying38
  obtain ⟨_, _, _, _, hl0, _, _⟩ := DataW.trod_struct ht h
  obtain ⟨y0, n0, h0, k0⟩ := trod_fieldW ht h 0 _ rfl
  obtain ⟨x0, e0, g0⟩ := open_intC (k := .i64) (by kernel_rfl) h0
  obtain ⟨y1, n1, h1, k1⟩ := trod_fieldW ht h 1 _ rfl
  obtain ⟨x1, e1, g1⟩ := ((openC_api_Word (t := 37) (by kernel_rfl) (by kernel_rfl) h1).imp fun x q => And.intro q.1 q.2.1)
  have hl : cs.length = 3 := hl0.trans hc
  match cs, hl with
  | [c0, c1, c2], _ =>
    replace e0 : [c0] = (cInt .i64) x0 := (show [c0] = _ by kernel_rfl).trans e0
    replace e1 : [c1, c2] = S_api_Word.cells x1 := (show [c1, c2] = _ by kernel_rfl).trans e1
    exact ⟨⟨x0, x1⟩, (show [c0, c1, c2] = [c0] ++ [c1, c2] from rfl).trans (by rw [e0, e1]; rfl), ⟨g0, g1⟩, fun B hB => trivial⟩
def G_api_Call (W : World) (x : S_api_Call) : Prop := (IntKind.i64.min ≤ x.Op ∧ x.Op ≤ IntKind.i64.max) ∧ (IntKind.i64.min ≤ x.By ∧ x.By ≤ IntKind.i64.max) ∧ (IntKind.i64.min ≤ x.Size ∧ x.Size ≤ IntKind.i64.max) ∧ G_api_Cap W x.Cap ∧ True ∧ (IntKind.i64.min ≤ x.Rights ∧ x.Rights ≤ IntKind.i64.max) ∧ (IntKind.i64.min ≤ x.Off ∧ x.Off ≤ IntKind.i64.max) ∧ (IntKind.i64.min ≤ x.N ∧ x.N ≤ IntKind.i64.max) ∧ (∃ xs, Arr cU8 (heapH W) x.Data xs ∧ (∀ z ∈ xs, True) ∧ x.Data.cap ≤ maxLen) ∧ (IntKind.i64.min ≤ x.Index ∧ x.Index ≤ IntKind.i64.max) ∧ (∃ xs, Arr (cInt .i64) (heapH W) x.Gifts xs ∧ (∀ z ∈ xs, (IntKind.i64.min ≤ z ∧ z ≤ IntKind.i64.max)) ∧ x.Gifts.cap ≤ maxLen)
def W_api_Call (B : Nat) (x : S_api_Call) : Prop := x.Data.len * Try.prog.bytesOf 5 ≤ B ∧ x.Gifts.len * Try.prog.bytesOf 3 ≤ B
set_option maxRecDepth 100000 in
theorem openC_api_Call {HH : Type} {enc : TypeId × Value → HH} {W : World} {t : TypeId} (ht : Try.prog.underlying t = Try.prog.underlying 42) (hc : Try.prog.cellsOf t = 13) {n : Nat} {cs : List Value} {y : DataW HH × List MemPlace} (h : DataW.trod enc Try.prog W 0 (fun _ => true) true n t cs = some y) : ∃ x : S_api_Call, cs = S_api_Call.cells x ∧ G_api_Call W x ∧ ∀ B, Weigh B t y.1 → W_api_Call B x := by
  have ht : Try.prog.underlying t = _ := ht.trans Try.underlying42
  obtain ⟨_, _, _, _, hl0, _, _⟩ := DataW.trod_struct ht h
  obtain ⟨y0, n0, h0, k0⟩ := trod_fieldW ht h 0 _ rfl
  obtain ⟨x0, e0, g0⟩ := open_intC (k := .i64) (by kernel_rfl) h0
  obtain ⟨y1, n1, h1, k1⟩ := trod_fieldW ht h 1 _ rfl
  obtain ⟨x1, e1, g1⟩ := open_intC (k := .i64) (by kernel_rfl) h1
  obtain ⟨y2, n2, h2, k2⟩ := trod_fieldW ht h 2 _ rfl
  obtain ⟨x2, e2, g2⟩ := open_intC (k := .i64) (by kernel_rfl) h2
  obtain ⟨y3, n3, h3, k3⟩ := trod_fieldW ht h 3 _ rfl
  obtain ⟨x3, e3, g3⟩ := ((openC_api_Cap (t := 39) (by kernel_rfl) (by kernel_rfl) h3).imp fun x q => And.intro q.1 q.2.1)
  obtain ⟨y4, n4, h4, k4⟩ := trod_fieldW ht h 4 _ rfl
  obtain ⟨x4, e4, g4⟩ := open_boolC (by kernel_rfl) h4
  obtain ⟨y5, n5, h5, k5⟩ := trod_fieldW ht h 5 _ rfl
  obtain ⟨x5, e5, g5⟩ := open_intC (k := .i64) (by kernel_rfl) h5
  obtain ⟨y6, n6, h6, k6⟩ := trod_fieldW ht h 6 _ rfl
  obtain ⟨x6, e6, g6⟩ := open_intC (k := .i64) (by kernel_rfl) h6
  obtain ⟨y7, n7, h7, k7⟩ := trod_fieldW ht h 7 _ rfl
  obtain ⟨x7, e7, g7⟩ := open_intC (k := .i64) (by kernel_rfl) h7
  obtain ⟨y8, n8, h8, k8⟩ := trod_fieldW ht h 8 _ rfl
  obtain ⟨x8, e8, g8, w8⟩ := open_slCW (e := 5) (sz := 1) (cells := cU8) (Good := fun _ => True) (fun _ => rfl) (by decide) (by kernel_rfl) (by kernel_rfl) open_u8C h8
  obtain ⟨y9, n9, h9, k9⟩ := trod_fieldW ht h 9 _ rfl
  obtain ⟨x9, e9, g9⟩ := open_intC (k := .i64) (by kernel_rfl) h9
  obtain ⟨y10, n10, h10, k10⟩ := trod_fieldW ht h 10 _ rfl
  obtain ⟨x10, e10, g10, w10⟩ := open_slCW (e := 3) (sz := 1) (cells := (cInt .i64)) (Good := fun z => (IntKind.i64.min ≤ z ∧ z ≤ IntKind.i64.max)) (fun _ => rfl) (by decide) (by kernel_rfl) (by kernel_rfl) (fun _ _ _ hf => open_intC (k := .i64) (by kernel_rfl) hf) h10
  have hl : cs.length = 13 := hl0.trans hc
  match cs, hl with
  | [c0, c1, c2, c3, c4, c5, c6, c7, c8, c9, c10, c11, c12], _ =>
    replace e0 : [c0] = (cInt .i64) x0 := (show [c0] = _ by kernel_rfl).trans e0
    replace e1 : [c1] = (cInt .i64) x1 := (show [c1] = _ by kernel_rfl).trans e1
    replace e2 : [c2] = (cInt .i64) x2 := (show [c2] = _ by kernel_rfl).trans e2
    replace e3 : [c3, c4, c5] = S_api_Cap.cells x3 := (show [c3, c4, c5] = _ by kernel_rfl).trans e3
    replace e4 : [c6] = cBool x4 := (show [c6] = _ by kernel_rfl).trans e4
    replace e5 : [c7] = (cInt .i64) x5 := (show [c7] = _ by kernel_rfl).trans e5
    replace e6 : [c8] = (cInt .i64) x6 := (show [c8] = _ by kernel_rfl).trans e6
    replace e7 : [c9] = (cInt .i64) x7 := (show [c9] = _ by kernel_rfl).trans e7
    replace e8 : [c10] = cSl x8 := (show [c10] = _ by kernel_rfl).trans e8
    replace e9 : [c11] = (cInt .i64) x9 := (show [c11] = _ by kernel_rfl).trans e9
    replace e10 : [c12] = cSl x10 := (show [c12] = _ by kernel_rfl).trans e10
    exact ⟨⟨x0, x1, x2, x3, x4, x5, x6, x7, x8, x9, x10⟩, (show [c0, c1, c2, c3, c4, c5, c6, c7, c8, c9, c10, c11, c12] = [c0] ++ [c1] ++ [c2] ++ [c3, c4, c5] ++ [c6] ++ [c7] ++ [c8] ++ [c9] ++ [c10] ++ [c11] ++ [c12] from rfl).trans (by rw [e0, e1, e2, e3, e4, e5, e6, e7, e8, e9, e10]; rfl), ⟨g0, g1, g2, g3, g4, g5, g6, g7, g8, g9, g10⟩, fun B hB => ⟨w8 B (k8 B hB), w10 B (k10 B hB)⟩⟩
set_option maxRecDepth 100000 in
theorem plainKeeps_lifted (os : Os) (started : os.Started) (HH : Type) (enc : TypeId × Value → HH) :
    ReturnsInHanded {} Try.checked os 7 .any (Rows.plainKeepsSpec.pre6 enc Try.prog Try.f7 Rows.plainKeepsRow.domain false) (Rows.plainKeepsSpec.post enc Try.prog Try.f7 false true false false) := by
  refine returnsInHanded_of_change_shaped (C := Try.checked) own started (by kernel_rfl) Try.func7
    (ChangeSpec.witness6 (enc := enc) (C := Try.checked) false ⟨#[], #[.agg #[.int .i64 0, .int .i64 0, .int .i64 0, .int .i64 0, .int .i64 0, .int .i64 0, .int .i64 0, .int .i64 0, .int .i64 0, .int .i64 0], .slice none 0 0, .slice none 0 0], []⟩ 8 (by kernel_rfl) (by kernel_rfl) (by kernel_rfl) (by kernel_rfl)) ?_
  intro W base args ds gs before hval0 hW hcnd hwt0 _ _
  have hval : ∀ (j : Nat) t v, Try.f7.params[j]? = some t → args[j]? = some v → Value.okWide Try.prog W .any base t v := hval0
  have hW' : DataW.Whole enc Try.prog Try.f7.params.toList Rows.plainKeepsSpec.vars false W args.toList ds gs before := hW
  obtain ⟨p, q, hA0, hV, rfl, hfz, hnd⟩ := hW
  have hA : DataW.TrodAll enc Try.prog W 0 (fun _ => true) true [23, 24, 25] args.toList ds p := hA0
  obtain ⟨l⟩ := args
  obtain ⟨v0, l0, d0, ds0, p0, q0, e0, rfl, rfl, t0, hB0⟩ := trodAll_cons hA
  replace e0 : l = v0 :: l0 := e0
  subst e0
  obtain ⟨v1, l1, d1, ds1, p1, q1, e1, rfl, rfl, t1, hB1⟩ := trodAll_cons hB0
  replace e1 : l0 = v1 :: l1 := e1
  subst e1
  obtain ⟨v2, l2, d2, ds2, p2, q2, e2, rfl, rfl, t2, hB2⟩ := trodAll_cons hB1
  replace e2 : l1 = v2 :: l2 := e2
  subst e2
  obtain ⟨rfl, rfl, rfl⟩ := trodAll_nil hB2
  obtain ⟨rfl, rfl⟩ := trodVars_none hV
  have hwt : (DataW.weightsEach Try.prog ([23, 24, 25] ++ []) ([d0, d1, d2] ++ [])).all (· ≤ reachBytes) = true := hwt0
  clear hwt0
  simp only [List.append_nil, DataW.weightsEach, List.all_append, Bool.and_eq_true] at hwt
  obtain ⟨y0, y1, y2⟩ := hwt
  obtain ⟨c0, rfl, _, _, hf0⟩ := open_str ((show Try.prog.underlying 23 = Try.prog.underlying 22 by kernel_rfl).trans Try.underlying22) (hval 0 23 v0 rfl rfl) t0
  obtain ⟨x0, ec0, g0⟩ := openC_api_Config (t := 23) (by kernel_rfl) (by kernel_rfl) hf0
  subst ec0
  obtain ⟨s1, b1, rfl, r1, g1, m1, u1⟩ := open_arrW (e := 37) (sz := 2) S_api_Word.cells (fun z => G_api_Word W z) W_api_Word (fun _ => rfl) (by decide) (by kernel_rfl) (by kernel_rfl) (fun _ _ _ hf => openC_api_Word (t := 37) (by kernel_rfl) (by kernel_rfl) hf) (hval 1 24 v1 rfl rfl) t1
  obtain ⟨s2, b2, rfl, r2, g2, m2, u2⟩ := open_arrW (e := 43) (sz := 13) S_api_Call.cells (fun z => G_api_Call W z) W_api_Call (fun _ => rfl) (by decide) (by kernel_rfl) (by kernel_rfl) (fun _ _ _ hf => openC_api_Call (t := 43) (by kernel_rfl) (by kernel_rfl) hf) (hval 2 25 v2 rfl rfl) t2
  have z1 := u1 reachBytes y1
  unfold reachBytes at z1
  have z2 := u2 reachBytes y2
  unfold reachBytes at z2
  have walk := s_law22_PlainKeeps.ok (x0, s1, s2) (fun r h' => r = true ∧ Keeps (heapH W) h') (heapH W) (t_PlainKeepsA r1 (by have w := z1.1; rw [show Try.prog.bytesOf 37 = 16 from by kernel_rfl] at w; omega) (fun w hw => goodW_of (g1 w hw).1 (g1 w hw).2) r2 (by have w := z2.1; rw [show Try.prog.bytesOf 43 = 136 from by kernel_rfl] at w; omega) (fun x hx => by obtain ⟨_, _, _, gc, _, _, _, _, ⟨ds, a1, _, _⟩, _, ⟨gs, a2, _, _⟩⟩ := g2 x hx; have w := z2.2 x hx; unfold W_api_Call at w; rw [show Try.prog.bytesOf 5 = 1 from by kernel_rfl, show Try.prog.bytesOf 3 = 8 from by kernel_rfl, a1.len, a2.len] at w; exact ⟨ds, gs, a1, by omega, a2, by omega, goodW_of gc.2.1 gc.2.2⟩) (K := fun r h' => r = true ∧ Keeps (heapH W) h') fun h' k => ⟨rfl, k⟩)
  refine (calls_law (walk.mono (fun v h' => fun ⟨r, e, er, k⟩ => ⟨by rw [e, er]; rfl, k⟩) fun _ _ k => k)).mono fun e W' => fun ⟨he, hb⟩ => ?_
  subst he
  exact ⟨_, rfl, post_law (tb := 4) laid (by kernel_rfl) rfl (by kernel_rfl) rfl hW' ⟨rfl, rfl, rfl⟩ hb⟩
theorem plainKeeps_holds : Rows.PlainKeepsSaid :=
  OpenClaim.holds_of_wide 7 Try.f7 rfl rfl rfl rfl rfl rfl rfl ⟨rfl, rfl, rfl, rfl, rfl⟩ rfl rfl rfl rfl rfl (by kernel_rfl) Try.func7 (by kernel_rfl)
    (of_decide_eq_true (by kernel_rfl)) (by unfold Func.isWrapper; rw [if_neg (by decide +kernel)]; exact ⟨rfl, rfl⟩)
    (fun os started H enc _ => plainKeeps_lifted os started H enc)
end Go.Proofs.Ytbjkfllncegpcaa.K
