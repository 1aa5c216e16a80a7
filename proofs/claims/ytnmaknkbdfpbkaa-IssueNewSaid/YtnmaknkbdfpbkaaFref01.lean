/- Functions of the program, printed by a program of mine: ref01_Bit, ref01_Set, ref01_Cut, ref01_Fits, ref01_Cmp -/
import Derived.Test.YtnmaknkbdfpbkaaT
namespace Go.Proofs.Ytnmaknkbdfpbkaa.K
open Go Go.Proofs
/-! sesame/sesameref01.Bit -/
def e_ref01_Bit : Int → Value := fun r => (Value.int .i64 r)
def m_ref01_Bit (a0 : S_api_Word) (a1 : Int) (K : (Int) → H → Prop) : H → Prop :=
  mIf (decide (a1 < 64)) (
    mNN (IntKind.wrap .u64 a1) <|
    K (IntKind.wrap .i64 (iRem .u64 (iShr .u64 a0.Lo (IntKind.wrap .u64 a1)) 2))
    ) (
    mNN (IntKind.wrap .u64 (iSub .i64 a1 64)) <|
    K (IntKind.wrap .i64 (iRem .u64 (iShr .u64 a0.Hi (IntKind.wrap .u64 (iSub .i64 a1 64))) 2))
    )
set_option maxRecDepth 100000 in
set_option maxHeartbeats 8000000 in
theorem c_ref01_Bit {a0 : S_api_Word} {a1 : Int} {K : (Int) → H → Prop} {h : H} (hm : m_ref01_Bit a0 a1 K h) : ACall Try.prog 59 #[(S_api_Word.val a0), (Value.int .i64 a1)] h (fun v h' => ∃ r, v = e_ref01_Bit r ∧ K r h') noP := by
  unfold m_ref01_Bit at hm
  have nd : (([] : List (Nat × Obj)).map Prod.fst).Nodup := List.nodup_nil
  refine cw_func Try.func59 rfl rfl ?_
  refine cw_seq ?_
  refine cw_reg (l := [0, 1]) rfl rfl ?_
  refine sg rfl rfl (b_box nd (c := #[(Value.int .u64 a0.Hi), (Value.int .u64 a0.Lo)]) rfl (fun b1 nd => ?_))
  refine sgy (some 4) (Value.int .i64 0) rfl rfl rfl (y_assign rfl) ?_
  refine drop.of ?_
  refine cw_seq ?_
  refine cw_seq ?_
  refine cw_reg (l := [0, 1]) rfl rfl ?_
  refine sgy (some 5) (Value.int .i64 a1) rfl rfl rfl (y_move rfl) ?_
  refine sgy (some 6) (Value.bool (decide (a1 < 64))) rfl rfl rfl (y_bin rfl rfl rfl) ?_
  refine drop.of ?_
  refine cw_ifm hm rfl (fun hc2 hm => ?_) (fun hc2 hm => ?_)
  · refine cw_seq ?_
    refine cw_reg (l := [0, 1, 2, 3, 4, 5, 6, 7]) rfl rfl ?_
    refine sgy (some 7) (Value.pointer (some ⟨b1, 1, none⟩)) rfl rfl rfl (yv (y_fieldAddr rfl Try.underlying25 rfl i23 rfl) rfl) ?_
    refine sgr (some 8) (Value.int .u64 a0.Lo) rfl rfl rfl (r_load 0 nd rfl rfl Try.underlying23 rfl rfl) ?_
    refine sgy (some 9) (Value.int .i64 a1) rfl rfl rfl (y_move rfl) ?_
    refine sgy (some 10) (Value.int .u64 (IntKind.wrap .u64 a1)) rfl rfl rfl (y_conv rfl Try.underlying3 Try.underlying109) ?_
    obtain ⟨hq3, hm⟩ := hm
    refine sgy (some 11) (Value.int .u64 (iShr .u64 a0.Lo (IntKind.wrap .u64 a1))) rfl rfl rfl (y_shr rfl rfl hq3) ?_
    refine sgy (some 12) (Value.int .u64 (iRem .u64 (iShr .u64 a0.Lo (IntKind.wrap .u64 a1)) 2)) rfl rfl rfl (y_rem rfl rfl (by decide)) ?_
    refine sgy (some 13) (Value.int .i64 (IntKind.wrap .i64 (iRem .u64 (iShr .u64 a0.Lo (IntKind.wrap .u64 a1)) 2))) rfl rfl rfl (y_conv rfl Try.underlying23 Try.underlying3) ?_
    refine sgy (some 4) (Value.int .i64 (IntKind.wrap .i64 (iRem .u64 (iShr .u64 a0.Lo (IntKind.wrap .u64 a1)) 2))) rfl rfl rfl (y_assign rfl) ?_
    refine drop.of ?_
    refine cw_ret ?_
    refine out_one [(Value.int .i64 (IntKind.wrap .i64 (iRem .u64 (iShr .u64 a0.Lo (IntKind.wrap .u64 a1)) 2)))] (e_ref01_Bit (IntKind.wrap .i64 (iRem .u64 (iShr .u64 a0.Lo (IntKind.wrap .u64 a1)) 2))) Try.results59 ?_ rfl ?_
    · exact (And.intro (rfl) trivial)
    · exact Exists.intro (IntKind.wrap .i64 (iRem .u64 (iShr .u64 a0.Lo (IntKind.wrap .u64 a1)) 2)) (And.intro rfl hm)
  · refine cw_skip ?_
    refine drop.of ?_
    refine cw_seq ?_
    refine cw_reg (l := [0, 1, 2, 3, 4, 5, 6, 7, 8]) rfl rfl ?_
    refine sgy (some 14) (Value.pointer (some ⟨b1, 0, none⟩)) rfl rfl rfl (yv (y_fieldAddr rfl Try.underlying25 rfl i23 rfl) rfl) ?_
    refine sgr (some 15) (Value.int .u64 a0.Hi) rfl rfl rfl (r_load 0 nd rfl rfl Try.underlying23 rfl rfl) ?_
    refine sgy (some 16) (Value.int .i64 a1) rfl rfl rfl (y_move rfl) ?_
    refine sgy (some 17) (Value.int .i64 (iSub .i64 a1 64)) rfl rfl rfl (y_bin rfl rfl rfl) ?_
    refine sgy (some 18) (Value.int .u64 (IntKind.wrap .u64 (iSub .i64 a1 64))) rfl rfl rfl (y_conv rfl Try.underlying3 Try.underlying109) ?_
    obtain ⟨hq4, hm⟩ := hm
    refine sgy (some 19) (Value.int .u64 (iShr .u64 a0.Hi (IntKind.wrap .u64 (iSub .i64 a1 64)))) rfl rfl rfl (y_shr rfl rfl hq4) ?_
    refine sgy (some 20) (Value.int .u64 (iRem .u64 (iShr .u64 a0.Hi (IntKind.wrap .u64 (iSub .i64 a1 64))) 2)) rfl rfl rfl (y_rem rfl rfl (by decide)) ?_
    refine sgy (some 21) (Value.int .i64 (IntKind.wrap .i64 (iRem .u64 (iShr .u64 a0.Hi (IntKind.wrap .u64 (iSub .i64 a1 64))) 2))) rfl rfl rfl (y_conv rfl Try.underlying23 Try.underlying3) ?_
    refine sgy (some 4) (Value.int .i64 (IntKind.wrap .i64 (iRem .u64 (iShr .u64 a0.Hi (IntKind.wrap .u64 (iSub .i64 a1 64))) 2))) rfl rfl rfl (y_assign rfl) ?_
    refine drop.of ?_
    refine cw_ret ?_
    refine out_one [(Value.int .i64 (IntKind.wrap .i64 (iRem .u64 (iShr .u64 a0.Hi (IntKind.wrap .u64 (iSub .i64 a1 64))) 2)))] (e_ref01_Bit (IntKind.wrap .i64 (iRem .u64 (iShr .u64 a0.Hi (IntKind.wrap .u64 (iSub .i64 a1 64))) 2))) Try.results59 ?_ rfl ?_
    · exact (And.intro (rfl) trivial)
    · exact Exists.intro (IntKind.wrap .i64 (iRem .u64 (iShr .u64 a0.Hi (IntKind.wrap .u64 (iSub .i64 a1 64))) 2)) (And.intro rfl hm)
/-! sesame/sesameref01.Set -/
def e_ref01_Set : S_api_Word → Value := fun r => (S_api_Word.val r)
def m_ref01_Set (a0 : S_api_Word) (a1 : Int) (K : (S_api_Word) → H → Prop) : H → Prop :=
  mJoin (fun (s3 : Int × Int) =>
    K (⟨s3.1, s3.2⟩ : S_api_Word)
    ) (fun j4 =>
    mIf (decide (a1 < 64)) (
      mNN (IntKind.wrap .u64 a1) <|
      j4 (a0.Hi, (iOr .u64 a0.Lo (iShl .u64 1 (IntKind.wrap .u64 a1))))
      ) (
      mNN (IntKind.wrap .u64 (iSub .i64 a1 64)) <|
      j4 ((iOr .u64 a0.Hi (iShl .u64 1 (IntKind.wrap .u64 (iSub .i64 a1 64)))), a0.Lo)
      )
    )
set_option maxRecDepth 100000 in
set_option maxHeartbeats 8000000 in
theorem c_ref01_Set {a0 : S_api_Word} {a1 : Int} {K : (S_api_Word) → H → Prop} {h : H} (hm : m_ref01_Set a0 a1 K h) : ACall Try.prog 60 #[(S_api_Word.val a0), (Value.int .i64 a1)] h (fun v h' => ∃ r, v = e_ref01_Set r ∧ K r h') noP := by
  unfold m_ref01_Set at hm
  have nd : (([] : List (Nat × Obj)).map Prod.fst).Nodup := List.nodup_nil
  refine cw_func Try.func60 rfl rfl ?_
  refine cw_seq ?_
  refine cw_reg (l := [0, 1]) rfl rfl ?_
  refine sg rfl rfl (b_box nd (c := #[(Value.int .u64 a0.Hi), (Value.int .u64 a0.Lo)]) rfl (fun b1 nd => ?_))
  refine sg rfl rfl (b_alloc nd i25 rfl (c := #[(Value.int .u64 0), (Value.int .u64 0)]) rfl (fun b2 nd => ?_))
  refine drop.of ?_
  refine cw_joinM hm [5, 6, 7, 8, 9, 10, 11, 12, 13, 14, 15, 16, 17, 18, 19, 20, 21] (fun s3 => []) (fun s3 => [(b2, Obj.cells #[(Value.int .u64 0), (Value.int .u64 0)] 25 (0, 0)), (b1, Obj.cells #[(Value.int .u64 s3.1), (Value.int .u64 s3.2)] 25 (0, 0))]) rfl (fun _ => nd) (fun hm => ?_) (fun s3 h junk nd hm => ?_)
  · refine cw_seq ?_
    refine cw_reg (l := [0, 1]) rfl rfl ?_
    refine sgy (some 5) (Value.int .i64 a1) rfl rfl rfl (y_move rfl) ?_
    refine sgy (some 6) (Value.bool (decide (a1 < 64))) rfl rfl rfl (y_bin rfl rfl rfl) ?_
    refine drop.of ?_
    refine cw_ifm hm rfl (fun hc5 hm => ?_) (fun hc5 hm => ?_)
    · refine cw_reg (l := [0, 1, 2, 3, 4, 5, 6, 7]) rfl rfl ?_
      refine sgy (some 7) (Value.pointer (some ⟨b1, 1, none⟩)) rfl rfl rfl (yv (y_fieldAddr rfl Try.underlying25 rfl i23 rfl) rfl) ?_
      refine sgr (some 8) (Value.int .u64 a0.Lo) rfl rfl rfl (r_load 1 nd rfl rfl Try.underlying23 rfl rfl) ?_
      refine sgy (some 9) (Value.int .i64 a1) rfl rfl rfl (y_move rfl) ?_
      refine sgy (some 10) (Value.int .u64 (IntKind.wrap .u64 a1)) rfl rfl rfl (y_conv rfl Try.underlying3 Try.underlying109) ?_
      obtain ⟨hq6, hm⟩ := hm
      refine sgy (some 11) (Value.int .u64 (iShl .u64 1 (IntKind.wrap .u64 a1))) rfl rfl rfl (y_shl rfl rfl hq6) ?_
      refine sgy (some 12) (Value.int .u64 (iOr .u64 a0.Lo (iShl .u64 1 (IntKind.wrap .u64 a1)))) rfl rfl rfl (y_bin rfl rfl rfl) ?_
      refine sgy (some 13) (Value.pointer (some ⟨b1, 1, none⟩)) rfl rfl rfl (yv (y_fieldAddr rfl Try.underlying25 rfl i23 rfl) rfl) ?_
      refine sg rfl rfl (b_store 1 nd rfl rfl rfl i23 rfl rfl rfl (c' := #[(Value.int .u64 a0.Hi), (Value.int .u64 (iOr .u64 a0.Lo (iShl .u64 1 (IntKind.wrap .u64 a1))))]) rfl (fun nd => ?_))
      exact Exists.intro (a0.Hi, (iOr .u64 a0.Lo (iShl .u64 1 (IntKind.wrap .u64 a1)))) (And.intro trivial (And.intro (bx_drop nd 0) hm))
    · refine cw_reg (l := [0, 1, 2, 3, 4, 5, 6, 7, 8]) rfl rfl ?_
      refine sgy (some 14) (Value.pointer (some ⟨b1, 0, none⟩)) rfl rfl rfl (yv (y_fieldAddr rfl Try.underlying25 rfl i23 rfl) rfl) ?_
      refine sgr (some 15) (Value.int .u64 a0.Hi) rfl rfl rfl (r_load 1 nd rfl rfl Try.underlying23 rfl rfl) ?_
      refine sgy (some 16) (Value.int .i64 a1) rfl rfl rfl (y_move rfl) ?_
      refine sgy (some 17) (Value.int .i64 (iSub .i64 a1 64)) rfl rfl rfl (y_bin rfl rfl rfl) ?_
      refine sgy (some 18) (Value.int .u64 (IntKind.wrap .u64 (iSub .i64 a1 64))) rfl rfl rfl (y_conv rfl Try.underlying3 Try.underlying109) ?_
      obtain ⟨hq7, hm⟩ := hm
      refine sgy (some 19) (Value.int .u64 (iShl .u64 1 (IntKind.wrap .u64 (iSub .i64 a1 64)))) rfl rfl rfl (y_shl rfl rfl hq7) ?_
      refine sgy (some 20) (Value.int .u64 (iOr .u64 a0.Hi (iShl .u64 1 (IntKind.wrap .u64 (iSub .i64 a1 64))))) rfl rfl rfl (y_bin rfl rfl rfl) ?_
      refine sgy (some 21) (Value.pointer (some ⟨b1, 0, none⟩)) rfl rfl rfl (yv (y_fieldAddr rfl Try.underlying25 rfl i23 rfl) rfl) ?_
      refine sg rfl rfl (b_store 1 nd rfl rfl rfl i23 rfl rfl rfl (c' := #[(Value.int .u64 (iOr .u64 a0.Hi (iShl .u64 1 (IntKind.wrap .u64 (iSub .i64 a1 64))))), (Value.int .u64 a0.Lo)]) rfl (fun nd => ?_))
      exact Exists.intro ((iOr .u64 a0.Hi (iShl .u64 1 (IntKind.wrap .u64 (iSub .i64 a1 64)))), a0.Lo) (And.intro trivial (And.intro (bx_drop nd 0) hm))
  · refine cw_seq ?_
    refine cw_reg (l := [0, 1]) rfl rfl ?_
    refine sgr (some 22) (S_api_Word.val (⟨s3.1, s3.2⟩ : S_api_Word)) rfl rfl rfl (r_loadA 1 nd rfl rfl Try.underlying25 rfl i25 rfl) ?_
    refine sg rfl rfl (b_store 0 nd rfl rfl rfl i25 rfl rfl rfl (c' := #[(Value.int .u64 s3.1), (Value.int .u64 s3.2)]) rfl (fun nd => ?_))
    refine drop.of ?_
    refine cw_ret ?_
    refine out_one [(S_api_Word.val (⟨s3.1, s3.2⟩ : S_api_Word))] (e_ref01_Set (⟨s3.1, s3.2⟩ : S_api_Word)) Try.results60 ?_ rfl ?_
    · exact (And.intro (⟨_, rfl, res_box 0 nd rfl Try.underlying25 rfl i25 rfl⟩) trivial)
    · exact Exists.intro (⟨s3.1, s3.2⟩ : S_api_Word) (And.intro rfl hm)
/-! sesame/sesameref01.Cut -/
def e_ref01_Cut : S_api_Word → Value := fun r => (S_api_Word.val r)
def m_ref01_Cut (a0 : S_api_Word) (a1 : Int) (K : (S_api_Word) → H → Prop) : H → Prop :=
  mLoop (fun (rec5 : Int × Int × Int → H → Prop) (s4 : Int × Int × Int) =>
    mJoin (fun (s6 : Bool) =>
      mIf s6 (
        mPure (m_ref01_Bit a0 s4.1) fun r9 =>
        mIf (decide (r9 = 1)) (
          mPure (m_ref01_Set (⟨s4.2.1, s4.2.2⟩ : S_api_Word) s4.1) fun r12 =>
          rec5 ((iAdd .i64 s4.1 1), r12.Hi, r12.Lo)
          ) (
          rec5 ((iAdd .i64 s4.1 1), s4.2.1, s4.2.2)
          )
        ) (
        K (⟨s4.2.1, s4.2.2⟩ : S_api_Word)
        )
      ) (fun j7 =>
      mIf (decide (s4.1 < a1)) (
        j7 (decide (s4.1 < 128))
        ) (
        j7 false
        )
      )
    ) (0, 0, 0)
set_option maxRecDepth 100000 in
set_option maxHeartbeats 8000000 in
theorem c_ref01_Cut {a0 : S_api_Word} {a1 : Int} {K : (S_api_Word) → H → Prop} {h : H} (hm : m_ref01_Cut a0 a1 K h) : ACall Try.prog 34 #[(S_api_Word.val a0), (Value.int .i64 a1)] h (fun v h' => ∃ r, v = e_ref01_Cut r ∧ K r h') noP := by
  unfold m_ref01_Cut at hm
  have nd : (([] : List (Nat × Obj)).map Prod.fst).Nodup := List.nodup_nil
  refine cw_func Try.func34 rfl rfl ?_
  refine cw_seq ?_
  refine cw_reg (l := [0, 1]) rfl rfl ?_
  refine sg rfl rfl (b_box nd (c := #[(Value.int .u64 a0.Hi), (Value.int .u64 a0.Lo)]) rfl (fun b1 nd => ?_))
  refine sg rfl rfl (b_alloc nd i25 rfl (c := #[(Value.int .u64 0), (Value.int .u64 0)]) rfl (fun b2 nd => ?_))
  refine drop.of ?_
  refine cw_seq ?_
  refine cw_reg (l := [0]) rfl rfl ?_
  refine sg rfl rfl (b_alloc nd i25 rfl (c := #[(Value.int .u64 0), (Value.int .u64 0)]) rfl (fun b3 nd => ?_))
  refine drop.of ?_
  refine cw_seq ?_
  refine cw_seq ?_
  refine cw_reg (l := [0]) rfl rfl ?_
  refine sgy (some 6) (Value.int .i64 0) rfl rfl rfl (y_assign rfl) ?_
  refine drop.of ?_
  refine cw_block ?_
  refine cw_loop [6, 7, 8, 9, 10, 11, 12, 13, 14, 15, 16, 17, 18, 19, 20, 21, 22] (fun s4 => [(6, (Value.int .i64 s4.1))]) (fun s4 => [(b3, Obj.cells #[(Value.int .u64 s4.2.1), (Value.int .u64 s4.2.2)] 25 (0, 0)), (b2, Obj.cells #[(Value.int .u64 0), (Value.int .u64 0)] 25 (0, 0)), (b1, Obj.cells #[(Value.int .u64 a0.Hi), (Value.int .u64 a0.Lo)] 25 (0, 0))]) hm rfl (fun _ => rfl) ⟨rfl, trivial⟩ rfl (fun _ => nd) (fun rec5 s4 h junk nd hm => ?_)
  refine cw_seq ?_
  refine cw_joinM hm [7, 8, 9, 10, 11, 12, 13] (fun s6 => [(13, (Value.bool s6))]) (fun s6 => [(b3, Obj.cells #[(Value.int .u64 s4.2.1), (Value.int .u64 s4.2.2)] 25 (0, 0)), (b2, Obj.cells #[(Value.int .u64 0), (Value.int .u64 0)] 25 (0, 0)), (b1, Obj.cells #[(Value.int .u64 a0.Hi), (Value.int .u64 a0.Lo)] 25 (0, 0))]) rfl (fun _ => nd) (fun hm => ?_) (fun s6 h junk nd hm => ?_)
  · refine cw_reg (l := [0, 1, 2, 3, 4, 5, 6]) rfl rfl ?_
    refine sgy (some 7) (Value.int .i64 s4.1) rfl rfl rfl (y_move rfl) ?_
    refine sgy (some 8) (Value.int .i64 a1) rfl rfl rfl (y_move rfl) ?_
    refine sgy (some 9) (Value.bool (decide (s4.1 < a1))) rfl rfl rfl (y_bin rfl rfl rfl) ?_
    refine sgy (some 10) (Value.bool (decide (s4.1 < a1))) rfl rfl rfl (y_move rfl) ?_
    refine mIf_elim hm (fun hc14 hm => ?_) (fun hc14 hm => ?_)
    · refine sgy (some 11) (Value.int .i64 s4.1) rfl rfl (by exact wTT rfl rfl hc14) (y_move rfl) ?_
      refine sgy (some 12) (Value.bool (decide (s4.1 < 128))) rfl rfl (by exact wTT rfl rfl hc14) (y_bin rfl rfl rfl) ?_
      refine sgy (some 13) (Value.bool (decide (s4.1 < 128))) rfl rfl rfl (y_pickT rfl hc14 rfl) ?_
      exact Exists.intro (decide (s4.1 < 128)) (And.intro (And.intro rfl trivial) (And.intro (bx_drop nd 0) hm))
    · refine sgn (some 11) rfl rfl (by exact wTF rfl rfl hc14) ?_
      refine sgn (some 12) rfl rfl (by exact wTF rfl rfl hc14) ?_
      refine sgy (some 13) (Value.bool false) rfl rfl rfl (y_pickF rfl hc14 rfl) ?_
      exact Exists.intro false (And.intro (And.intro rfl trivial) (And.intro (bx_drop nd 0) hm))
  · refine cw_ifm hm rfl (fun hc8 hm => ?_) (fun hc8 hm => ?_)
    · refine cw_skip ?_
      refine drop.of ?_
      refine cw_seq ?_
      refine cw_block ?_
      refine cw_seq ?_
      refine cw_reg (l := [0, 1, 2, 3]) rfl rfl ?_
      refine sgr (some 16) (S_api_Word.val a0) rfl rfl rfl (r_loadA 2 nd rfl rfl Try.underlying25 rfl i25 rfl) ?_
      refine sgy (some 17) (Value.int .i64 s4.1) rfl rfl rfl (y_move rfl) ?_
      obtain ⟨r9, hq10, hm⟩ := hm
      refine sgy (some 18) (e_ref01_Bit r9) rfl rfl rfl (y_call (enc := e_ref01_Bit) hq10 (fun k h hk => c_ref01_Bit hk) callee59 rfl) ?_
      refine sgy (some 19) (Value.bool (decide (r9 = 1))) rfl rfl rfl (y_bin rfl rfl rfl) ?_
      refine drop.of ?_
      refine cw_ifm hm rfl (fun hc11 hm => ?_) (fun hc11 hm => ?_)
      · refine cw_reg (l := [0, 1, 2, 3]) rfl rfl ?_
        refine sgr (some 20) (S_api_Word.val (⟨s4.2.1, s4.2.2⟩ : S_api_Word)) rfl rfl rfl (r_loadA 0 nd rfl rfl Try.underlying25 rfl i25 rfl) ?_
        refine sgy (some 21) (Value.int .i64 s4.1) rfl rfl rfl (y_move rfl) ?_
        obtain ⟨r12, hq13, hm⟩ := hm
        refine sgy (some 22) (e_ref01_Set r12) rfl rfl rfl (y_call (enc := e_ref01_Set) hq13 (fun k h hk => c_ref01_Set hk) callee60 rfl) ?_
        refine sg rfl rfl (b_store 0 nd rfl rfl rfl i25 rfl rfl rfl (c' := #[(Value.int .u64 r12.Hi), (Value.int .u64 r12.Lo)]) rfl (fun nd => ?_))
        refine drop.of ?_
        refine cw_reg (l := [0, 1, 2]) rfl rfl ?_
        refine sgy (some 14) (Value.int .i64 s4.1) rfl rfl rfl (y_move rfl) ?_
        refine sgy (some 15) (Value.int .i64 (iAdd .i64 s4.1 1)) rfl rfl rfl (y_bin rfl rfl rfl) ?_
        refine sgy (some 6) (Value.int .i64 (iAdd .i64 s4.1 1)) rfl rfl rfl (y_assign rfl) ?_
        exact Exists.intro ((iAdd .i64 s4.1 1), r12.Hi, r12.Lo) (And.intro (And.intro rfl trivial) (And.intro (bx_drop nd 0) hm))
      · refine cw_skip ?_
        refine drop.of ?_
        refine cw_reg (l := [0, 1, 2]) rfl rfl ?_
        refine sgy (some 14) (Value.int .i64 s4.1) rfl rfl rfl (y_move rfl) ?_
        refine sgy (some 15) (Value.int .i64 (iAdd .i64 s4.1 1)) rfl rfl rfl (y_bin rfl rfl rfl) ?_
        refine sgy (some 6) (Value.int .i64 (iAdd .i64 s4.1 1)) rfl rfl rfl (y_assign rfl) ?_
        exact Exists.intro ((iAdd .i64 s4.1 1), s4.2.1, s4.2.2) (And.intro (And.intro rfl trivial) (And.intro (bx_drop nd 0) hm))
    · refine cw_exit ?_
      refine drop.of ?_
      refine cw_seq ?_
      refine cw_reg (l := [0, 1]) rfl rfl ?_
      refine sgr (some 23) (S_api_Word.val (⟨s4.2.1, s4.2.2⟩ : S_api_Word)) rfl rfl rfl (r_loadA 0 nd rfl rfl Try.underlying25 rfl i25 rfl) ?_
      refine sg rfl rfl (b_store 1 nd rfl rfl rfl i25 rfl rfl rfl (c' := #[(Value.int .u64 s4.2.1), (Value.int .u64 s4.2.2)]) rfl (fun nd => ?_))
      refine drop.of ?_
      refine cw_ret ?_
      refine out_one [(S_api_Word.val (⟨s4.2.1, s4.2.2⟩ : S_api_Word))] (e_ref01_Cut (⟨s4.2.1, s4.2.2⟩ : S_api_Word)) Try.results34 ?_ rfl ?_
      · exact (And.intro (⟨_, rfl, res_box 1 nd rfl Try.underlying25 rfl i25 rfl⟩) trivial)
      · exact Exists.intro (⟨s4.2.1, s4.2.2⟩ : S_api_Word) (And.intro rfl hm)
/-! sesame/sesameref01.Fits -/
def e_ref01_Fits : Bool → Value := fun r => (Value.bool r)
def m_ref01_Fits (a0 : S_api_Word) (a1 : Int) (K : (Bool) → H → Prop) : H → Prop :=
  mIf (decide (a1 < 1)) (
    K false
    ) (
    mLoop (fun (rec4 : Int → H → Prop) (s3 : Int) =>
      mIf (decide (s3 < 128)) (
        mPure (m_ref01_Bit a0 s3) fun r6 =>
        mIf (decide (r6 = 1)) (
          K false
          ) (
          rec4 (iAdd .i64 s3 1)
          )
        ) (
        K true
        )
      ) a1
    )
set_option maxRecDepth 100000 in
set_option maxHeartbeats 8000000 in
theorem c_ref01_Fits {a0 : S_api_Word} {a1 : Int} {K : (Bool) → H → Prop} {h : H} (hm : m_ref01_Fits a0 a1 K h) : ACall Try.prog 33 #[(S_api_Word.val a0), (Value.int .i64 a1)] h (fun v h' => ∃ r, v = e_ref01_Fits r ∧ K r h') noP := by
  unfold m_ref01_Fits at hm
  have nd : (([] : List (Nat × Obj)).map Prod.fst).Nodup := List.nodup_nil
  refine cw_func Try.func33 rfl rfl ?_
  refine cw_seq ?_
  refine cw_reg (l := [0, 1]) rfl rfl ?_
  refine sg rfl rfl (b_box nd (c := #[(Value.int .u64 a0.Hi), (Value.int .u64 a0.Lo)]) rfl (fun b1 nd => ?_))
  refine sgy (some 4) (Value.bool false) rfl rfl rfl (y_assign rfl) ?_
  refine drop.of ?_
  refine cw_seq ?_
  refine cw_seq ?_
  refine cw_reg (l := [0, 1]) rfl rfl ?_
  refine sgy (some 6) (Value.int .i64 a1) rfl rfl rfl (y_move rfl) ?_
  refine sgy (some 7) (Value.bool (decide (a1 < 1))) rfl rfl rfl (y_bin rfl rfl rfl) ?_
  refine drop.of ?_
  refine cw_ifm hm rfl (fun hc2 hm => ?_) (fun hc2 hm => ?_)
  · refine cw_seq ?_
    refine cw_reg (l := [0]) rfl rfl ?_
    refine sgy (some 4) (Value.bool false) rfl rfl rfl (y_assign rfl) ?_
    refine drop.of ?_
    refine cw_ret ?_
    refine out_one [(Value.bool false)] (e_ref01_Fits false) Try.results33 ?_ rfl ?_
    · exact (And.intro (rfl) trivial)
    · exact Exists.intro false (And.intro rfl hm)
  · refine cw_skip ?_
    refine drop.of ?_
    refine cw_seq ?_
    refine cw_seq ?_
    refine cw_reg (l := [0, 1]) rfl rfl ?_
    refine sgy (some 8) (Value.int .i64 a1) rfl rfl rfl (y_move rfl) ?_
    refine sgy (some 5) (Value.int .i64 a1) rfl rfl rfl (y_assign rfl) ?_
    refine drop.of ?_
    refine cw_block ?_
    refine cw_loop [4, 5, 9, 10, 11, 12, 13, 14, 15, 16] (fun s3 => [(5, (Value.int .i64 s3))]) (fun s3 => [(b1, Obj.cells #[(Value.int .u64 a0.Hi), (Value.int .u64 a0.Lo)] 25 (0, 0))]) hm rfl (fun _ => rfl) ⟨rfl, trivial⟩ rfl (fun _ => nd) (fun rec4 s3 h junk nd hm => ?_)
    refine cw_seq ?_
    refine cw_seq ?_
    refine cw_reg (l := [0, 1]) rfl rfl ?_
    refine sgy (some 9) (Value.int .i64 s3) rfl rfl rfl (y_move rfl) ?_
    refine sgy (some 10) (Value.bool (decide (s3 < 128))) rfl rfl rfl (y_bin rfl rfl rfl) ?_
    refine drop.of ?_
    refine cw_ifm hm rfl (fun hc5 hm => ?_) (fun hc5 hm => ?_)
    · refine cw_skip ?_
      refine drop.of ?_
      refine cw_seq ?_
      refine cw_block ?_
      refine cw_seq ?_
      refine cw_reg (l := [0, 1, 2, 3]) rfl rfl ?_
      refine sgr (some 13) (S_api_Word.val a0) rfl rfl rfl (r_loadA 0 nd rfl rfl Try.underlying25 rfl i25 rfl) ?_
      refine sgy (some 14) (Value.int .i64 s3) rfl rfl rfl (y_move rfl) ?_
      obtain ⟨r6, hq7, hm⟩ := hm
      refine sgy (some 15) (e_ref01_Bit r6) rfl rfl rfl (y_call (enc := e_ref01_Bit) hq7 (fun k h hk => c_ref01_Bit hk) callee59 rfl) ?_
      refine sgy (some 16) (Value.bool (decide (r6 = 1))) rfl rfl rfl (y_bin rfl rfl rfl) ?_
      refine drop.of ?_
      refine cw_ifm hm rfl (fun hc8 hm => ?_) (fun hc8 hm => ?_)
      · refine cw_seq ?_
        refine cw_reg (l := [0]) rfl rfl ?_
        refine sgy (some 4) (Value.bool false) rfl rfl rfl (y_assign rfl) ?_
        refine drop.of ?_
        refine cw_ret ?_
        refine out_one [(Value.bool false)] (e_ref01_Fits false) Try.results33 ?_ rfl ?_
        · exact (And.intro (rfl) trivial)
        · exact Exists.intro false (And.intro rfl hm)
      · refine cw_skip ?_
        refine drop.of ?_
        refine cw_reg (l := [0, 1, 2]) rfl rfl ?_
        refine sgy (some 11) (Value.int .i64 s3) rfl rfl rfl (y_move rfl) ?_
        refine sgy (some 12) (Value.int .i64 (iAdd .i64 s3 1)) rfl rfl rfl (y_bin rfl rfl rfl) ?_
        refine sgy (some 5) (Value.int .i64 (iAdd .i64 s3 1)) rfl rfl rfl (y_assign rfl) ?_
        exact Exists.intro (iAdd .i64 s3 1) (And.intro (And.intro rfl trivial) (And.intro (bx_drop nd 0) hm))
    · refine cw_exit ?_
      refine drop.of ?_
      refine cw_seq ?_
      refine cw_reg (l := [0]) rfl rfl ?_
      refine sgy (some 4) (Value.bool true) rfl rfl rfl (y_assign rfl) ?_
      refine drop.of ?_
      refine cw_ret ?_
      refine out_one [(Value.bool true)] (e_ref01_Fits true) Try.results33 ?_ rfl ?_
      · exact (And.intro (rfl) trivial)
      · exact Exists.intro true (And.intro rfl hm)
/-! sesame/sesameref01.Cmp -/
def e_ref01_Cmp : Int → Value := fun r => (Value.int .i64 r)
def m_ref01_Cmp (a0 : S_api_Word) (a1 : S_api_Word) (K : (Int) → H → Prop) : H → Prop :=
  mLoop (fun (rec4 : Int → H → Prop) (s3 : Int) =>
    mIf (decide (0 ≤ s3)) (
      mPure (m_ref01_Bit a0 s3) fun r6 =>
      mPure (m_ref01_Bit a1 s3) fun r8 =>
      mIf (!decide (r6 = r8)) (
        mPure (m_ref01_Bit a0 s3) fun r11 =>
        mPure (m_ref01_Bit a1 s3) fun r13 =>
        K (iSub .i64 r11 r13)
        ) (
        rec4 (iSub .i64 s3 1)
        )
      ) (
      K 0
      )
    ) 127
set_option maxRecDepth 100000 in
set_option maxHeartbeats 8000000 in
theorem c_ref01_Cmp {a0 : S_api_Word} {a1 : S_api_Word} {K : (Int) → H → Prop} {h : H} (hm : m_ref01_Cmp a0 a1 K h) : ACall Try.prog 35 #[(S_api_Word.val a0), (S_api_Word.val a1)] h (fun v h' => ∃ r, v = e_ref01_Cmp r ∧ K r h') noP := by
  unfold m_ref01_Cmp at hm
  have nd : (([] : List (Nat × Obj)).map Prod.fst).Nodup := List.nodup_nil
  refine cw_func Try.func35 rfl rfl ?_
  refine cw_seq ?_
  refine cw_reg (l := [0, 1, 2]) rfl rfl ?_
  refine sg rfl rfl (b_box nd (c := #[(Value.int .u64 a0.Hi), (Value.int .u64 a0.Lo)]) rfl (fun b1 nd => ?_))
  refine sg rfl rfl (b_box nd (c := #[(Value.int .u64 a1.Hi), (Value.int .u64 a1.Lo)]) rfl (fun b2 nd => ?_))
  refine sgy (some 4) (Value.int .i64 0) rfl rfl rfl (y_assign rfl) ?_
  refine drop.of ?_
  refine cw_seq ?_
  refine cw_seq ?_
  refine cw_reg (l := [0]) rfl rfl ?_
  refine sgy (some 5) (Value.int .i64 127) rfl rfl rfl (y_assign rfl) ?_
  refine drop.of ?_
  refine cw_block ?_
  refine cw_loop [4, 5, 6, 7, 8, 9, 10, 11, 12, 13, 14, 15, 16, 17, 18, 19, 20, 21, 22, 23] (fun s3 => [(5, (Value.int .i64 s3))]) (fun s3 => [(b2, Obj.cells #[(Value.int .u64 a1.Hi), (Value.int .u64 a1.Lo)] 25 (0, 0)), (b1, Obj.cells #[(Value.int .u64 a0.Hi), (Value.int .u64 a0.Lo)] 25 (0, 0))]) hm rfl (fun _ => rfl) ⟨rfl, trivial⟩ rfl (fun _ => nd) (fun rec4 s3 h junk nd hm => ?_)
  refine cw_seq ?_
  refine cw_seq ?_
  refine cw_reg (l := [0, 1]) rfl rfl ?_
  refine sgy (some 6) (Value.int .i64 s3) rfl rfl rfl (y_move rfl) ?_
  refine sgy (some 7) (Value.bool (decide (0 ≤ s3))) rfl rfl rfl (y_bin rfl rfl rfl) ?_
  refine drop.of ?_
  refine cw_ifm hm rfl (fun hc5 hm => ?_) (fun hc5 hm => ?_)
  · refine cw_skip ?_
    refine drop.of ?_
    refine cw_seq ?_
    refine cw_block ?_
    refine cw_seq ?_
    refine cw_draw mixed rfl ?_
    refine tyy 1 (some 11) (Value.int .i64 s3) rfl rfl (by kernel_rfl) (by kernel_rfl) (by kernel_rfl) rfl (y_move rfl) ?_
    refine tyy 4 (some 14) (Value.int .i64 s3) rfl rfl (by kernel_rfl) (by kernel_rfl) (by kernel_rfl) rfl (y_move rfl) ?_
    refine trr 0 (some 10) (S_api_Word.val a0) rfl rfl (by kernel_rfl) (by kernel_rfl) (by kernel_rfl) rfl (r_loadA 1 nd rfl rfl Try.underlying25 rfl i25 rfl) ?_
    obtain ⟨r6, hq7, hm⟩ := hm
    refine tyy 2 (some 12) (e_ref01_Bit r6) rfl rfl (by kernel_rfl) (by kernel_rfl) (by kernel_rfl) rfl (y_call (enc := e_ref01_Bit) hq7 (fun k h hk => c_ref01_Bit hk) callee59 rfl) ?_
    refine trr 3 (some 13) (S_api_Word.val a1) rfl rfl (by kernel_rfl) (by kernel_rfl) (by kernel_rfl) rfl (r_loadA 0 nd rfl rfl Try.underlying25 rfl i25 rfl) ?_
    obtain ⟨r8, hq9, hm⟩ := hm
    refine tyy 5 (some 15) (e_ref01_Bit r8) rfl rfl (by kernel_rfl) (by kernel_rfl) (by kernel_rfl) rfl (y_call (enc := e_ref01_Bit) hq9 (fun k h hk => c_ref01_Bit hk) callee59 rfl) ?_
    refine tyy 6 (some 16) (Value.bool (!decide (r6 = r8))) rfl rfl (by kernel_rfl) (by kernel_rfl) (by kernel_rfl) rfl (y_bin rfl rfl rfl) ?_
    refine td (by kernel_rfl) ?_
    refine drop.of ?_
    refine cw_ifm hm rfl (fun hc10 hm => ?_) (fun hc10 hm => ?_)
    · refine cw_seq ?_
      refine cw_draw mixed rfl ?_
      refine tyy 1 (some 18) (Value.int .i64 s3) rfl rfl (by kernel_rfl) (by kernel_rfl) (by kernel_rfl) rfl (y_move rfl) ?_
      refine tyy 4 (some 21) (Value.int .i64 s3) rfl rfl (by kernel_rfl) (by kernel_rfl) (by kernel_rfl) rfl (y_move rfl) ?_
      refine trr 0 (some 17) (S_api_Word.val a0) rfl rfl (by kernel_rfl) (by kernel_rfl) (by kernel_rfl) rfl (r_loadA 1 nd rfl rfl Try.underlying25 rfl i25 rfl) ?_
      obtain ⟨r11, hq12, hm⟩ := hm
      refine tyy 2 (some 19) (e_ref01_Bit r11) rfl rfl (by kernel_rfl) (by kernel_rfl) (by kernel_rfl) rfl (y_call (enc := e_ref01_Bit) hq12 (fun k h hk => c_ref01_Bit hk) callee59 rfl) ?_
      refine trr 3 (some 20) (S_api_Word.val a1) rfl rfl (by kernel_rfl) (by kernel_rfl) (by kernel_rfl) rfl (r_loadA 0 nd rfl rfl Try.underlying25 rfl i25 rfl) ?_
      obtain ⟨r13, hq14, hm⟩ := hm
      refine tyy 5 (some 22) (e_ref01_Bit r13) rfl rfl (by kernel_rfl) (by kernel_rfl) (by kernel_rfl) rfl (y_call (enc := e_ref01_Bit) hq14 (fun k h hk => c_ref01_Bit hk) callee59 rfl) ?_
      refine tyy 6 (some 23) (Value.int .i64 (iSub .i64 r11 r13)) rfl rfl (by kernel_rfl) (by kernel_rfl) (by kernel_rfl) rfl (y_bin rfl rfl rfl) ?_
      refine tyy 7 (some 4) (Value.int .i64 (iSub .i64 r11 r13)) rfl rfl (by kernel_rfl) (by kernel_rfl) (by kernel_rfl) rfl (y_assign rfl) ?_
      refine td (by kernel_rfl) ?_
      refine drop.of ?_
      refine cw_ret ?_
      refine out_one [(Value.int .i64 (iSub .i64 r11 r13))] (e_ref01_Cmp (iSub .i64 r11 r13)) Try.results35 ?_ rfl ?_
      · exact (And.intro (rfl) trivial)
      · exact Exists.intro (iSub .i64 r11 r13) (And.intro rfl hm)
    · refine cw_skip ?_
      refine drop.of ?_
      refine cw_reg (l := [0, 1, 2]) rfl rfl ?_
      refine sgy (some 8) (Value.int .i64 s3) rfl rfl rfl (y_move rfl) ?_
      refine sgy (some 9) (Value.int .i64 (iSub .i64 s3 1)) rfl rfl rfl (y_bin rfl rfl rfl) ?_
      refine sgy (some 5) (Value.int .i64 (iSub .i64 s3 1)) rfl rfl rfl (y_assign rfl) ?_
      exact Exists.intro (iSub .i64 s3 1) (And.intro (And.intro rfl trivial) (And.intro (bx_drop nd 0) hm))
  · refine cw_exit ?_
    refine drop.of ?_
    refine cw_seq ?_
    refine cw_reg (l := [0]) rfl rfl ?_
    refine sgy (some 4) (Value.int .i64 0) rfl rfl rfl (y_assign rfl) ?_
    refine drop.of ?_
    refine cw_ret ?_
    refine out_one [(Value.int .i64 0)] (e_ref01_Cmp 0) Try.results35 ?_ rfl ?_
    · exact (And.intro (rfl) trivial)
    · exact Exists.intro 0 (And.intro rfl hm)
end Go.Proofs.Ytnmaknkbdfpbkaa.K
