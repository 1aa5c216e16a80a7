/- Arguments opened: words, texts, rows of bytes. -/
import Derived.Test.YtnmaknkbdfpbkaaB1
import Derived.Test.YtnmaknkbdfpbkaaL2
import Derived.Test.YtnmaknkbdfpbkaaWd1
import Derived.ChangeMaps5
namespace Go.Proofs.Ytnmaknkbdfpbkaa.K
open Go Go.ChangeShapes Go.WideShapes Go.ChangeAt Go.RowKit Go.Proofs

theorem own : ownKnob Try.prog.godebug = none := by kernel_rfl
theorem laid : laidOutB Try.prog = true := by kernel_rfl
section
variable {HH : Type} {enc : TypeId × Value → HH} {W : World} {base : Nat} {v : Value} {d : DataW HH} {ps : List MemPlace}
set_option maxRecDepth 100000 in
theorem open_wordC (n : Nat) (cs : List Value) (y : DataW HH × List MemPlace) (h : DataW.trod enc Try.prog W 0 (fun _ => true) true n N_api_Word cs = some y) : ∃ x : Nat, cs = (wordOf x).cells ∧ x < 2 ^ 128 := by
  obtain ⟨y0, y1, m, _, hl, h0, h1⟩ := trod_struct2 U_api_Word h
  have hc : Try.prog.cellsOf N_api_Word = 2 := by kernel_rfl
  rw [hc] at hl
  match cs, hl with
  | [a, b], _ =>
    obtain ⟨x, e1, _, w1⟩ := DataW.trod_int (k := .u64) (by kernel_rfl) h0
    obtain ⟨z, e2, _, w2⟩ := DataW.trod_int (k := .u64) (by kernel_rfl) h1
    replace e1 : [a] = [Value.int .u64 x] := (show [a] = _ by kernel_rfl).trans e1
    replace e2 : [b] = [Value.int .u64 z] := (show [b] = _ by kernel_rfl).trans e2
    injection e1 with e1
    injection e2 with e2
    subst e1; subst e2
    obtain ⟨n, rfl, hn⟩ := u_wf w1
    obtain ⟨k, rfl, hk⟩ := u_wf w2
    exact ⟨valW n k, by rw [wordOf_val hk]; rfl, valW_lt hn hk⟩
set_option maxRecDepth 100000 in
theorem open_word (hval : Value.okWide Try.prog W .any base N_api_Word v) (h : DataW.Trod enc Try.prog W 0 (fun _ => true) true N_api_Word v d ps) : ∃ x : Nat, v = (wordOf x).val ∧ x < 2 ^ 128 := by
  obtain ⟨cs, rfl, _⟩ := okWide_struct U_api_Word hval
  obtain ⟨fuel, hf⟩ := h
  obtain ⟨x, e, hx⟩ := open_wordC _ _ _ hf
  exact ⟨x, by rw [S_api_Word.val, ← e]; rfl, hx⟩
theorem open_u8C (n : Nat) (cs : List Value) (y : DataW HH × List MemPlace) (h : DataW.trod enc Try.prog W 0 (fun _ => true) true n N_u8 cs = some y) : ∃ x : UInt8, cs = cU8 x ∧ True := by
  obtain ⟨x, e, _, w⟩ := DataW.trod_int (k := .u8) (by kernel_rfl) h
  have w : (decide (IntKind.u8.min ≤ x) && decide (x ≤ IntKind.u8.max)) = true := w
  rw [Bool.and_eq_true, decide_eq_true_eq, decide_eq_true_eq] at w
  have w1 : (0 : Int) ≤ x := w.1
  have w2 : x ≤ (255 : Int) := w.2
  refine ⟨UInt8.ofNat x.toNat, ?_, trivial⟩
  have : (UInt8.ofNat x.toNat).toNat = x.toNat := by rw [UInt8.toNat_ofNat']; exact Nat.mod_eq_of_lt (by omega)
  rw [e, cU8, this, Int.toNat_of_nonneg w1]
set_option maxRecDepth 100000 in
theorem open_bytes (hval : Value.okWide Try.prog W .any base N_Sl_u8 v) (h : DataW.Trod enc Try.prog W 0 (fun _ => true) true N_Sl_u8 v d ps) : ∃ s bs, v = Sl.val s ∧ Arr cU8 (heapH W) s bs ∧ s.cap ≤ maxLen ∧ ∀ B, (d.weights Try.prog N_Sl_u8).all (· ≤ B) = true → bs.length ≤ B := by
  obtain ⟨s, xs, e, a, _, c, w⟩ := open_arr cU8 (fun _ => True) u8_len (by decide) (by kernel_rfl) (by kernel_rfl) open_u8C hval h
  have hb : Try.prog.bytesOf N_u8 = 1 := by kernel_rfl
  rw [hb] at w
  exact ⟨s, xs, e, a, c, fun B q => by have := w B q; omega⟩
end
end Go.Proofs.Ytnmaknkbdfpbkaa.K
