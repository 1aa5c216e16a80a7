/- The book: its keys, its state. -/
import Derived.Test.YtnmaknkbdfpbkaaL4
import Derived.Test.YtnmaknkbdfpbkaaFbook
namespace Go.Proofs.Ytnmaknkbdfpbkaa.K
open Go
deriving instance DecidableEq for S_api_Word
deriving instance DecidableEq for S_api_Cap
deriving instance DecidableEq for S_book_whom
theorem key_int {t : TypeId} (hu : Try.prog.underlying t = some (.int .i64)) : KeyEq (eqV Try.prog 40 t) (Value.int .i64) := fun a b => by
  show eqV Try.prog (39 + 1) t _ _ = _
  rw [eqV.eq_2, hu]
  rfl
theorem cap_iff (a b : S_api_Cap) : ((decide (a.Obj = b.Obj)) && (((decide (a.Pass.Hi = b.Pass.Hi)) && ((decide (a.Pass.Lo = b.Pass.Lo)) && true)) && true)) = decide (a = b) := by
  obtain ⟨o, hi, lo⟩ := a
  obtain ⟨o', hi', lo'⟩ := b
  rw [Bool.eq_iff_iff]
  simp
theorem key_cap : KeyEq (eqV Try.prog 40 N_api_Cap) S_api_Cap.val := fun a b =>
  (show eqV Try.prog 40 N_api_Cap a.val b.val = some ((decide (a.Obj = b.Obj)) && (((decide (a.Pass.Hi = b.Pass.Hi)) && ((decide (a.Pass.Lo = b.Pass.Lo)) && true)) && true)) by kernel_rfl).trans (by rw [cap_iff])
theorem key_whom : KeyEq (eqV Try.prog 40 N_book_whom) S_book_whom.val := fun a b =>
  (show eqV Try.prog 40 N_book_whom a.val b.val = some ((decide (a.xproc = b.xproc)) && (((decide (a.xc.Obj = b.xc.Obj)) && (((decide (a.xc.Pass.Hi = b.xc.Pass.Hi)) && ((decide (a.xc.Pass.Lo = b.xc.Pass.Lo)) && true)) && true)) && true)) by kernel_rfl).trans (by
    rw [cap_iff]
    obtain ⟨p, c⟩ := a
    obtain ⟨q, e⟩ := b
    congr 1
    rw [Bool.eq_iff_iff]
    simp)
end Go.Proofs.Ytnmaknkbdfpbkaa.K
