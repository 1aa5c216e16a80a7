/- Arguments opened: texts, rows of bytes. -/
import Derived.Test.YtiajjcboddaenaaB1
import Derived.Test.YtiajjcboddaenaaL8
import Derived.Test.YtiajjcboddaenaaT
import Derived.ChangeMaps5
namespace Go.Proofs.Ytiajjcboddaenaa.K
open Go Go.ChangeShapes Go.WideShapes Go.ChangeAt Go.RowKit Go.Proofs

theorem own : ownKnob Try.prog.godebug = none := by kernel_rfl
theorem laid : laidOutB Try.prog = true := by kernel_rfl
section
variable {HH : Type} {enc : TypeId × Value → HH} {W : World} {base : Nat} {v : Value} {d : DataW HH} {ps : List MemPlace}
theorem open_u8C (n : Nat) (cs : List Value) (y : DataW HH × List MemPlace) (h : DataW.trod enc Try.prog W 0 (fun _ => true) true n N_u8 cs = some y) : ∃ x : UInt8, cs = cU8 x ∧ True := by
  obtain ⟨x, e, _, w⟩ := DataW.trod_int (k := .u8) (by kernel_rfl) h
  have w : (decide (IntKind.u8.min ≤ x) && decide (x ≤ IntKind.u8.max)) = true := w
  rw [Bool.and_eq_true, decide_eq_true_eq, decide_eq_true_eq] at w
  have w1 : (0 : Int) ≤ x := w.1
  have w2 : x ≤ (255 : Int) := w.2
  refine ⟨UInt8.ofNat x.toNat, ?_, trivial⟩
  have : (UInt8.ofNat x.toNat).toNat = x.toNat := by rw [UInt8.toNat_ofNat']; exact Nat.mod_eq_of_lt (by omega)
  rw [e, cU8, this, Int.toNat_of_nonneg w1]
set_option maxRecDepth 100000 in
theorem open_bytes (hval : Value.okWide Try.prog W .any base N_Sl_u8 v) (h : DataW.Trod enc Try.prog W 0 (fun _ => true) true N_Sl_u8 v d ps) : ∃ s bs, v = Sl.val s ∧ Arr cU8 (heapH W) s bs ∧ s.cap ≤ maxLen ∧ ∀ B, (d.weights Try.prog N_Sl_u8).all (· ≤ B) = true → bs.length ≤ B := by
  obtain ⟨s, xs, e, a, _, c, w⟩ := open_arr cU8 (fun _ => True) u8_len (by decide) (by kernel_rfl) (by kernel_rfl) open_u8C hval h
  have hb : Try.prog.bytesOf N_u8 = 1 := by kernel_rfl
  rw [hb] at w
  exact ⟨s, xs, e, a, c, fun B q => by have := w B q; omega⟩
end
end Go.Proofs.Ytiajjcboddaenaa.K
