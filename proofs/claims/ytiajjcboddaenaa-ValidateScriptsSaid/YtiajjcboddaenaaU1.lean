/- Unsigned numbers of 64 bits as natural numbers. -/
import Derived.Test.YtiajjcboddaenaaK12
import Derived.Laws.BitsLemmas
import GoSem.Claim
namespace Go.Proofs.Ytiajjcboddaenaa.K
open Go

theorem i64_eq {x : Int} (h1 : -9223372036854775808 ≤ x) (h2 : x < 9223372036854775808) : IntKind.i64.wrap x = x := by rw [IntKind.wrap_i64]; omega
theorem iAdd_eq {a b : Int} (h1 : -9223372036854775808 ≤ a + b) (h2 : a + b < 9223372036854775808) : iAdd .i64 a b = a + b := i64_eq h1 h2
theorem iSub_eq {a b : Int} (h1 : -9223372036854775808 ≤ a - b) (h2 : a - b < 9223372036854775808) : iSub .i64 a b = a - b := i64_eq h1 h2
theorem wrap_u64 (x : Int) : IntKind.u64.wrap x = x % 18446744073709551616 := by
  unfold IntKind.wrap
  simp [IntKind.signed, IntKind.bits]
theorem u_wrap {n : Nat} (h : n < 2 ^ 64) : IntKind.u64.wrap (n : Int) = (n : Int) := by rw [wrap_u64]; omega
theorem u_bv {n : Nat} (h : n < 2 ^ 64) : (BitVec.ofInt 64 (n : Int)).toNat = n := by
  rw [BitVec.ofInt_natCast, BitVec.toNat_ofNat]; exact Nat.mod_eq_of_lt h
theorem u_or {a b : Nat} (ha : a < 2 ^ 64) (hb : b < 2 ^ 64) : iOr .u64 (a : Int) (b : Int) = ((a ||| b : Nat) : Int) := by
  show IntKind.u64.wrap ((BitVec.ofInt 64 (a : Int) ||| BitVec.ofInt 64 (b : Int)).toNat : Int) = _
  rw [BitVec.toNat_or, u_bv ha, u_bv hb, u_wrap (Nat.or_lt_two_pow ha hb)]
theorem u_and {a b : Nat} (ha : a < 2 ^ 64) (hb : b < 2 ^ 64) : iAnd .u64 (a : Int) (b : Int) = ((a &&& b : Nat) : Int) := by
  show IntKind.u64.wrap ((BitVec.ofInt 64 (a : Int) &&& BitVec.ofInt 64 (b : Int)).toNat : Int) = _
  rw [BitVec.toNat_and, u_bv ha, u_bv hb, u_wrap (Nat.and_lt_two_pow _ hb)]
theorem pow_lt {n : Nat} (h : n < 64) : 2 ^ n < 2 ^ 64 := Nat.pow_lt_pow_right (by decide) h
theorem u_shl1 {n : Nat} (h : n < 64) : iShl .u64 1 (n : Int) = ((2 ^ n : Nat) : Int) := by
  show IntKind.u64.wrap (1 * 2 ^ (min (n : Int).toNat 64)) = _
  rw [Int.toNat_natCast, Nat.min_eq_left (by omega), Int.one_mul]
  have : ((2 : Int) ^ n) = ((2 ^ n : Nat) : Int) := by simp
  rw [this, u_wrap (pow_lt h)]
theorem u_shr {a n : Nat} (h : n ≤ 64) : iShr .u64 (a : Int) (n : Int) = ((a / 2 ^ n : Nat) : Int) := by
  show (a : Int).fdiv (2 ^ (min (n : Int).toNat 64)) = _
  rw [Int.toNat_natCast, Nat.min_eq_left h]
  have : ((2 : Int) ^ n) = ((2 ^ n : Nat) : Int) := by simp
  rw [this, Int.fdiv_eq_ediv_of_nonneg _ (Int.natCast_nonneg _)]
  rfl
theorem u_mask {n : Nat} (h : n < 64) : iSub .u64 (iShl .u64 1 (n : Int)) 1 = ((2 ^ n - 1 : Nat) : Int) := by
  rw [u_shl1 h]
  show IntKind.u64.wrap (((2 ^ n : Nat) : Int) - 1) = _
  have h1 : 0 < 2 ^ n := Nat.two_pow_pos n
  have h2 := pow_lt h
  rw [show ((2 ^ n : Nat) : Int) - 1 = ((2 ^ n - 1 : Nat) : Int) by omega, u_wrap (by omega)]
theorem u_low {a n : Nat} (ha : a < 2 ^ 64) (h : n < 64) : iAnd .u64 (a : Int) (iSub .u64 (iShl .u64 1 (n : Int)) 1) = ((a % 2 ^ n : Nat) : Int) := by
  rw [u_mask h, u_and ha (by have := pow_lt h; omega), Nat.and_two_pow_sub_one_eq_mod]
theorem u_wf {x : Int} (h : (Lit.int .u64 x).wf = true) : ∃ n : Nat, x = n ∧ n < 2 ^ 64 := by
  simp [Lit.wf, IntKind.min, IntKind.max, IntKind.signed, IntKind.bits] at h
  exact ⟨x.toNat, by omega, by omega⟩
theorem i_wf {x : Int} (h : (Lit.int .i64 x).wf = true) : -9223372036854775808 ≤ x ∧ x ≤ 9223372036854775807 := by
  simp [Lit.wf, IntKind.min, IntKind.max, IntKind.signed, IntKind.bits] at h
  omega
theorem u8_wf {x : Int} (h : (Lit.int .u8 x).wf = true) : ∃ n : Nat, x = n ∧ n < 256 := by
  simp [Lit.wf, IntKind.min, IntKind.max, IntKind.signed, IntKind.bits] at h
  exact ⟨x.toNat, by omega, by omega⟩
/-- A bit, as the reference reads it. -/
theorem u_bit {a n : Nat} (h : n < 64) : IntKind.wrap .i64 (iRem .u64 (iShr .u64 (a : Int) (n : Int)) 2) = (((a.testBit n).toNat : Nat) : Int) := by
  rw [u_shr (by omega)]
  have e : iRem .u64 ((a / 2 ^ n : Nat) : Int) 2 = ((a / 2 ^ n % 2 : Nat) : Int) := by
    unfold iRem
    rw [Int.tmod_eq_emod_of_nonneg (Int.natCast_nonneg _)]
    rfl
  rw [e, Nat.testBit_eq_decide_div_mod_eq]
  have : a / 2 ^ n % 2 < 2 := Nat.mod_lt _ (by decide)
  rcases (show a / 2 ^ n % 2 = 0 ∨ a / 2 ^ n % 2 = 1 by omega) with q | q <;> rw [q] <;> decide
/-- A bit set where none is. -/
theorem or_pow {x n : Nat} (h : x < 2 ^ n) : x ||| 2 ^ n = x + 2 ^ n := by
  have := Nat.two_pow_add_eq_or_of_lt h 1
  rw [Nat.mul_one] at this
  rw [Nat.or_comm, ← this, Nat.add_comm]
theorem mod_succ (x n : Nat) : x % 2 ^ (n + 1) = x % 2 ^ n + (if x.testBit n then 2 ^ n else 0) := by
  rw [Nat.mod_pow_succ, Nat.testBit_eq_decide_div_mod_eq]
  rcases (show x / 2 ^ n % 2 = 0 ∨ x / 2 ^ n % 2 = 1 by omega) with q | q <;> rw [q] <;> simp
/-- int is type 3 in every dump. -/
abbrev N_int : Nat := 3
theorem ci_len : ∀ x : Int, (cInt .i64 x).length = 1 := fun _ => rfl
theorem ia (a b : Nat) (h : a + b < 2 ^ 62) : iAdd .i64 (a : Int) (b : Int) = ((a + b : Nat) : Int) := (iAdd_eq (a := (a : Int)) (b := (b : Int)) (by omega) (by omega)).trans (by omega)
theorem ia1 (a : Nat) (h : a < 2 ^ 61) : iAdd .i64 (a : Int) 1 = ((a + 1 : Nat) : Int) := ia a 1 (by omega)
theorem is_ (a b : Nat) (h : a < 2 ^ 62) (hb : b ≤ a) : iSub .i64 (a : Int) (b : Int) = ((a - b : Nat) : Int) := (iSub_eq (a := (a : Int)) (b := (b : Int)) (by omega) (by omega)).trans (by omega)
theorem is1 (a : Nat) (h : a < 2 ^ 62) (hb : 1 ≤ a) : iSub .i64 (a : Int) 1 = ((a - 1 : Nat) : Int) := is_ a 1 h hb
theorem im2 (a : Nat) (h : a < 2 ^ 60) : iMul .i64 2 (a : Int) = ((2 * a : Nat) : Int) := by
  have : iMul .i64 2 (a : Int) = 2 * (a : Int) := i64_eq (by omega) (by omega)
  rw [this]; omega
theorem iq (a k : Nat) (h : a < 2 ^ 62) : iQuo .i64 (a : Int) (k : Int) = ((a / k : Nat) : Int) := by
  have e : (a : Int).tdiv (k : Int) = ((a / k : Nat) : Int) := rfl
  have l : a / k ≤ a := Nat.div_le_self a k
  show IntKind.i64.wrap ((a : Int).tdiv (k : Int)) = _
  rw [e]
  generalize a / k = c at l
  exact i64_eq (by omega) (by omega)
theorem cb_len : ∀ x : Bool, (cBool x).length = 1 := fun _ => rfl
theorem ci_plain : ∀ x : Int, (cInt .i64 x).all plainVal = true := fun _ => rfl
theorem iMul_eq {a b : Int} (h1 : -9223372036854775808 ≤ a * b) (h2 : a * b < 9223372036854775808) : iMul .i64 a b = a * b := i64_eq h1 h2
end Go.Proofs.Ytiajjcboddaenaa.K
