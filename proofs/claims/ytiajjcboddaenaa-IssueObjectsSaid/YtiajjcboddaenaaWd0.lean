/- Words of 128 bits as natural numbers: cutting, by the layer's way and the reference's. A part of Wd1, for seats that print no more. -/
import Derived.Test.YtiajjcboddaenaaL1
import Derived.Test.YtiajjcboddaenaaU1
import Derived.Test.YtiajjcboddaenaaFwide
import Derived.Test.YtiajjcboddaenaaFref01
namespace Go.Proofs.Ytiajjcboddaenaa.K
open Go
theorem word_len : ∀ x : S_api_Word, (S_api_Word.cells x).length = 2 := fun _ => rfl
theorem word_plain : ∀ x : S_api_Word, (S_api_Word.cells x).all plainVal = true := fun _ => rfl
/-- The word of a number. -/
def wordOf (n : Nat) : S_api_Word := ⟨((n / 2 ^ 64 : Nat) : Int), ((n % 2 ^ 64 : Nat) : Int)⟩
/-- The number of a word. -/
def valW (hi lo : Nat) : Nat := 2 ^ 64 * hi + lo
theorem valW_lt {hi lo : Nat} (h1 : hi < 2 ^ 64) (h2 : lo < 2 ^ 64) : valW hi lo < 2 ^ 128 := by unfold valW; omega
theorem wordOf_val {hi lo : Nat} (h2 : lo < 2 ^ 64) : wordOf (valW hi lo) = ⟨(hi : Int), (lo : Int)⟩ := by
  unfold wordOf valW
  rw [show (2 ^ 64 * hi + lo) / 2 ^ 64 = hi by omega, show (2 ^ 64 * hi + lo) % 2 ^ 64 = lo by omega]
theorem wordOf_inj {a b : Nat} (e : wordOf a = wordOf b) : a = b := by
  unfold wordOf at e
  injection e with e1 e2
  have e1 : a / 2 ^ 64 = b / 2 ^ 64 := Int.ofNat.inj e1
  have e2 : a % 2 ^ 64 = b % 2 ^ 64 := Int.ofNat.inj e2
  omega
theorem wordOf_zero : wordOf 0 = ⟨0, 0⟩ := by unfold wordOf; rfl
/-- The program's comparison of two words. -/
def eqWd (x w : S_api_Word) : Bool := (decide (x.Hi = w.Hi)) && ((decide (x.Lo = w.Lo)) && true)
theorem eqWd_iff (x w : S_api_Word) : eqWd x w = true ↔ x = w := by
  cases x; cases w; simp [eqWd]
theorem eqWd_refl (x : S_api_Word) : eqWd x x = true := (eqWd_iff x x).2 rfl
theorem eqWd_num (a b : Nat) : eqWd (wordOf a) (wordOf b) = decide (a = b) := by
  rw [Bool.eq_iff_iff, eqWd_iff, decide_eq_true_eq]
  exact ⟨wordOf_inj, fun e => by rw [e]⟩
/-- A width brought into its bounds. -/
def wc (w : Int) : Nat := (min (max w 0) 128).toNat
theorem wc_le (w : Int) : wc w ≤ 128 := by unfold wc; omega
theorem wc_eq (w : Int) : iMin (iMax w 0) 128 = (wc w : Int) := by
  unfold iMin iMax wc
  split <;> split <;> omega
theorem two_le {a b : Nat} (h : a ≤ b) : 2 ^ a ≤ 2 ^ b := Nat.pow_le_pow_right (by decide) h
theorem mod_lt128 {n : Nat} (hn : n < 2 ^ 128) (k : Nat) : n % 2 ^ k < 2 ^ 128 := Nat.lt_of_le_of_lt (Nat.mod_le _ _) hn
section
variable {h : H}
theorem p_cut {K : Int → H → Prop} {x : Nat} {b : Int} (hx : x < 2 ^ 64) (k : K ((x % 2 ^ (min b.toNat 64) : Nat) : Int) h) : m_wide_cut (x : Int) b K h := by
  unfold m_wide_cut
  refine w_if' (fun c => ?_) fun c => w_if' (fun c2 => ?_) fun c2 => ?_
  · rw [show min b.toNat 64 = 0 by omega, Nat.pow_zero, Nat.mod_one] at k; exact k
  · rw [show min b.toNat 64 = 64 by omega, Nat.mod_eq_of_lt hx] at k; exact k
  · refine w_nn (by omega) ?_
    obtain ⟨n, rfl⟩ := Int.eq_ofNat_of_zero_le (show 0 ≤ b by omega)
    rw [show min (n : Int).toNat 64 = n by omega] at k
    rw [u_low hx (by omega)]; exact k
theorem wordOf_mod (n c : Nat) (hc : c ≤ 128) : wordOf (n % 2 ^ c) = ⟨((n / 2 ^ 64 % 2 ^ (c - 64) : Nat) : Int), ((n % 2 ^ 64 % 2 ^ (min c 64) : Nat) : Int)⟩ := by
  unfold wordOf
  by_cases h : c ≤ 64
  · have h1 : n % 2 ^ c < 2 ^ 64 := Nat.lt_of_lt_of_le (Nat.mod_lt _ (Nat.two_pow_pos c)) (two_le h)
    rw [Nat.div_eq_of_lt h1, Nat.mod_eq_of_lt h1, show c - 64 = 0 by omega, Nat.min_eq_left h, Nat.mod_mod_of_dvd _ (Nat.pow_dvd_pow 2 h), Nat.pow_zero, Nat.mod_one]
  · have e : 2 ^ c = 2 ^ 64 * 2 ^ (c - 64) := by rw [← Nat.pow_add]; congr 1; omega
    rw [Nat.min_eq_right (by omega), Nat.mod_mod, e, Nat.mod_mul_right_div_self, Nat.mod_mul_right_mod]
theorem p_Cut {K : S_api_Word → H → Prop} {n : Nat} {w : Int} (hn : n < 2 ^ 128) (k : K (wordOf (n % 2 ^ wc w)) h) : m_wide_Cut (wordOf n) w K h := by
  unfold m_wide_Cut
  have hc := wc_le w
  rw [wc_eq, iSub_eq (by omega) (by omega)]
  refine w_pure _ (fun _ _ q => p_cut (by omega) q) (w_pure _ (fun _ _ q => p_cut (by omega) q) ?_)
  rw [wordOf_mod _ _ hc] at k
  rw [show min ((wc w : Int) - 64).toNat 64 = wc w - 64 by omega, show min (wc w : Int).toNat 64 = min (wc w) 64 by omega]
  exact k
theorem bit_val {hi lo : Nat} (h2 : lo < 2 ^ 64) (i : Nat) : (valW hi lo).testBit i = if i < 64 then lo.testBit i else hi.testBit (i - 64) := by
  unfold valW
  rw [Nat.testBit_two_pow_mul_add hi h2 i]
theorem bit_num (n i : Nat) : n.testBit i = if i < 64 then (n % 2 ^ 64).testBit i else (n / 2 ^ 64).testBit (i - 64) := by
  have : n = valW (n / 2 ^ 64) (n % 2 ^ 64) := by unfold valW; omega
  conv => lhs; rw [this]
  exact bit_val (by omega) i
theorem p_RBit {K : Int → H → Prop} {n i : Nat} (hi : i < 128) (k : K (((n.testBit i).toNat : Nat) : Int) h) : m_ref01_Bit (wordOf n) (i : Int) K h := by
  unfold m_ref01_Bit
  rw [bit_num] at k
  refine w_if' (fun c => ?_) fun c => ?_
  · rw [if_pos (by omega)] at k
    rw [u_wrap (by omega)]
    refine w_nn (by omega) ?_
    show K (IntKind.wrap .i64 (iRem .u64 (iShr .u64 ((n % 2 ^ 64 : Nat) : Int) (i : Int)) 2)) h
    rw [u_bit (by omega)]; exact k
  · rw [if_neg (by omega)] at k
    rw [iSub_eq (by omega) (by omega), show (i : Int) - 64 = ((i - 64 : Nat) : Int) by omega, u_wrap (by omega)]
    refine w_nn (by omega) ?_
    show K (IntKind.wrap .i64 (iRem .u64 (iShr .u64 ((n / 2 ^ 64 : Nat) : Int) ((i - 64 : Nat) : Int)) 2)) h
    rw [u_bit (by omega)]; exact k
theorem p_RSet {K : S_api_Word → H → Prop} {n i : Nat} (hn : n < 2 ^ 128) (hi : i < 128) (k : K (wordOf (n ||| 2 ^ i)) h) : m_ref01_Set (wordOf n) (i : Int) K h := by
  unfold m_ref01_Set
  have e : wordOf (n ||| 2 ^ i) = if i < 64 then ⟨((n / 2 ^ 64 : Nat) : Int), ((n % 2 ^ 64 ||| 2 ^ i : Nat) : Int)⟩ else ⟨((n / 2 ^ 64 ||| 2 ^ (i - 64) : Nat) : Int), ((n % 2 ^ 64 : Nat) : Int)⟩ := by
    unfold wordOf
    have hd : (n ||| 2 ^ i) / 2 ^ 64 = n / 2 ^ 64 ||| 2 ^ i / 2 ^ 64 := by rw [← Nat.shiftRight_eq_div_pow, Nat.shiftRight_or_distrib, Nat.shiftRight_eq_div_pow, Nat.shiftRight_eq_div_pow]
    have hm : (n ||| 2 ^ i) % 2 ^ 64 = n % 2 ^ 64 ||| 2 ^ i % 2 ^ 64 := Nat.or_mod_two_pow
    rw [hd, hm]
    split
    · rename_i c
      have c1 := pow_lt c
      rw [Nat.div_eq_of_lt c1, Nat.mod_eq_of_lt c1, Nat.or_zero]
    · rename_i c
      have c1 : 2 ^ i = 2 ^ 64 * 2 ^ (i - 64) := by rw [← Nat.pow_add]; congr 1; omega
      rw [c1, Nat.mul_div_cancel_left _ (by decide), Nat.mul_mod_right, Nat.or_zero]
  rw [e] at k
  refine w_join (w_if' (fun c => ?_) fun c => ?_)
  · rw [if_pos (by omega)] at k
    rw [u_wrap (by omega)]
    refine w_nn (by omega) ?_
    show K ⟨((n / 2 ^ 64 : Nat) : Int), iOr .u64 ((n % 2 ^ 64 : Nat) : Int) (iShl .u64 1 (i : Int))⟩ h
    rw [u_shl1 (by omega), u_or (by omega) (pow_lt (by omega))]; exact k
  · rw [if_neg (by omega)] at k
    rw [iSub_eq (by omega) (by omega), show (i : Int) - 64 = ((i - 64 : Nat) : Int) by omega, u_wrap (by omega)]
    refine w_nn (by omega) ?_
    show K ⟨iOr .u64 ((n / 2 ^ 64 : Nat) : Int) (iShl .u64 1 ((i - 64 : Nat) : Int)), ((n % 2 ^ 64 : Nat) : Int)⟩ h
    rw [u_shl1 (by omega), u_or (by omega) (pow_lt (by omega))]; exact k
theorem set_mod {n i : Nat} (b : n.testBit i = true) : n % 2 ^ i ||| 2 ^ i = n % 2 ^ (i + 1) := by
  rw [or_pow (Nat.mod_lt _ (Nat.two_pow_pos i)), mod_succ, b, if_pos rfl]
theorem keep_mod {n i : Nat} (b : n.testBit i = false) : n % 2 ^ (i + 1) = n % 2 ^ i := by
  rw [mod_succ, b]; rfl
theorem wordOf_eta (n : Nat) : (⟨(wordOf n).Hi, (wordOf n).Lo⟩ : S_api_Word) = wordOf n := rfl
theorem p_RCut {K : S_api_Word → H → Prop} {n : Nat} {w : Int} (hn : n < 2 ^ 128) (k : K (wordOf (n % 2 ^ wc w)) h) : m_ref01_Cut (wordOf n) w K h := by
  unfold m_ref01_Cut
  refine w_loop (fun s : Int × Int × Int => 128 - s.1.toNat) (fun s h' => h = h' ∧ ∃ i : Nat, s = ((i : Int), (wordOf (n % 2 ^ i)).Hi, (wordOf (n % 2 ^ i)).Lo) ∧ i ≤ wc w) ?_ ⟨rfl, 0, by rw [Nat.pow_zero, Nat.mod_one]; rfl, Nat.zero_le _⟩
  rintro rec s _ ⟨rfl, i, rfl, hi⟩ ih
  have hwc : wc w = (min (max w 0) 128).toNat := rfl
  refine w_if (fun c => ?_) fun c => ?_
  · rw [Bool.and_eq_true, decide_eq_true_eq, decide_eq_true_eq] at c
    simp only at c ⊢
    refine w_pure _ (fun _ _ q => p_RBit (by omega) q) ?_
    rw [iAdd_eq (by omega) (by omega)]
    refine w_if (fun b => ?_) fun b => ?_
    · have b : n.testBit i = true := by revert b; cases n.testBit i <;> simp
      refine w_pure _ (fun _ _ q => p_RSet (mod_lt128 hn i) (by omega) q) ?_
      rw [set_mod b]
      exact ih _ _ ⟨rfl, i + 1, rfl, by omega⟩ (by simp only; omega)
    · have b : n.testBit i = false := by revert b; cases n.testBit i <;> simp
      refine ih _ _ ⟨rfl, i + 1, ?_, by omega⟩ (by simp only; omega)
      rw [keep_mod b]; rfl
  · rw [Bool.and_eq_false_iff, decide_eq_false_iff_not, decide_eq_false_iff_not] at c
    simp only at c
    have : i = wc w := by omega
    subst this
    exact k
end
end Go.Proofs.Ytiajjcboddaenaa.K
