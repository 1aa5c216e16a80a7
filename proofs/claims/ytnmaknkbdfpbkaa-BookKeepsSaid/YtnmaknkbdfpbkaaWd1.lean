/- Words of 128 bits as natural numbers: what the layer's functions and the reference's come to. -/
import Derived.Test.YtnmaknkbdfpbkaaL1
import Derived.Test.YtnmaknkbdfpbkaaU1
import Derived.Test.YtnmaknkbdfpbkaaFwide
import Derived.Test.YtnmaknkbdfpbkaaFref01
namespace Go.Proofs.Ytnmaknkbdfpbkaa.K
open Go

theorem word_len : ∀ x : S_api_Word, (S_api_Word.cells x).length = 2 := fun _ => rfl
theorem word_plain : ∀ x : S_api_Word, (S_api_Word.cells x).all plainVal = true := fun _ => rfl
/-- The word of a number. -/
def wordOf (n : Nat) : S_api_Word := ⟨((n / 2 ^ 64 : Nat) : Int), ((n % 2 ^ 64 : Nat) : Int)⟩
/-- The number of a word. -/
def valW (hi lo : Nat) : Nat := 2 ^ 64 * hi + lo
theorem valW_lt {hi lo : Nat} (h1 : hi < 2 ^ 64) (h2 : lo < 2 ^ 64) : valW hi lo < 2 ^ 128 := by unfold valW; omega
theorem wordOf_val {hi lo : Nat} (h2 : lo < 2 ^ 64) : wordOf (valW hi lo) = ⟨(hi : Int), (lo : Int)⟩ := by
  unfold wordOf valW
  rw [show (2 ^ 64 * hi + lo) / 2 ^ 64 = hi by omega, show (2 ^ 64 * hi + lo) % 2 ^ 64 = lo by omega]
theorem wordOf_inj {a b : Nat} (e : wordOf a = wordOf b) : a = b := by
  unfold wordOf at e
  injection e with e1 e2
  have e1 : a / 2 ^ 64 = b / 2 ^ 64 := Int.ofNat.inj e1
  have e2 : a % 2 ^ 64 = b % 2 ^ 64 := Int.ofNat.inj e2
  omega
theorem wordOf_zero : wordOf 0 = ⟨0, 0⟩ := by unfold wordOf; rfl
/-- The program's comparison of two words. -/
def eqW (x w : S_api_Word) : Bool := (decide (x.Hi = w.Hi)) && ((decide (x.Lo = w.Lo)) && true)
theorem eqW_iff (x w : S_api_Word) : eqW x w = true ↔ x = w := by
  cases x; cases w; simp [eqW]
theorem eqW_refl (x : S_api_Word) : eqW x x = true := (eqW_iff x x).2 rfl
theorem eqW_num (a b : Nat) : eqW (wordOf a) (wordOf b) = decide (a = b) := by
  rw [Bool.eq_iff_iff, eqW_iff, decide_eq_true_eq]
  exact ⟨wordOf_inj, fun e => by rw [e]⟩
/-- A width brought into its bounds. -/
def wc (w : Int) : Nat := (min (max w 0) 128).toNat
theorem wc_le (w : Int) : wc w ≤ 128 := by unfold wc; omega
theorem wc_eq (w : Int) : iMin (iMax w 0) 128 = (wc w : Int) := by
  unfold iMin iMax wc
  split <;> split <;> omega
theorem two_le {a b : Nat} (h : a ≤ b) : 2 ^ a ≤ 2 ^ b := Nat.pow_le_pow_right (by decide) h
theorem mod_lt128 {n : Nat} (hn : n < 2 ^ 128) (k : Nat) : n % 2 ^ k < 2 ^ 128 := Nat.lt_of_le_of_lt (Nat.mod_le _ _) hn
section
variable {h : H}
theorem p_cut {K : Int → H → Prop} {x : Nat} {b : Int} (hx : x < 2 ^ 64) (k : K ((x % 2 ^ (min b.toNat 64) : Nat) : Int) h) : m_wide_cut (x : Int) b K h := by
  unfold m_wide_cut
  refine w_if' (fun c => ?_) fun c => w_if' (fun c2 => ?_) fun c2 => ?_
  · rw [show min b.toNat 64 = 0 by omega, Nat.pow_zero, Nat.mod_one] at k; exact k
  · rw [show min b.toNat 64 = 64 by omega, Nat.mod_eq_of_lt hx] at k; exact k
  · refine w_nn (by omega) ?_
    obtain ⟨n, rfl⟩ := Int.eq_ofNat_of_zero_le (show 0 ≤ b by omega)
    rw [show min (n : Int).toNat 64 = n by omega] at k
    rw [u_low hx (by omega)]; exact k
theorem wordOf_mod (n c : Nat) (hc : c ≤ 128) : wordOf (n % 2 ^ c) = ⟨((n / 2 ^ 64 % 2 ^ (c - 64) : Nat) : Int), ((n % 2 ^ 64 % 2 ^ (min c 64) : Nat) : Int)⟩ := by
  unfold wordOf
  by_cases h : c ≤ 64
  · have h1 : n % 2 ^ c < 2 ^ 64 := Nat.lt_of_lt_of_le (Nat.mod_lt _ (Nat.two_pow_pos c)) (two_le h)
    rw [Nat.div_eq_of_lt h1, Nat.mod_eq_of_lt h1, show c - 64 = 0 by omega, Nat.min_eq_left h, Nat.mod_mod_of_dvd _ (Nat.pow_dvd_pow 2 h), Nat.pow_zero, Nat.mod_one]
  · have e : 2 ^ c = 2 ^ 64 * 2 ^ (c - 64) := by rw [← Nat.pow_add]; congr 1; omega
    rw [Nat.min_eq_right (by omega), Nat.mod_mod, e, Nat.mod_mul_right_div_self, Nat.mod_mul_right_mod]
theorem p_Cut {K : S_api_Word → H → Prop} {n : Nat} {w : Int} (hn : n < 2 ^ 128) (k : K (wordOf (n % 2 ^ wc w)) h) : m_wide_Cut (wordOf n) w K h := by
  unfold m_wide_Cut
  have hc := wc_le w
  rw [wc_eq, iSub_eq (by omega) (by omega)]
  refine w_pure _ (fun _ _ q => p_cut (by omega) q) (w_pure _ (fun _ _ q => p_cut (by omega) q) ?_)
  rw [wordOf_mod _ _ hc] at k
  rw [show min ((wc w : Int) - 64).toNat 64 = wc w - 64 by omega, show min (wc w : Int).toNat 64 = min (wc w) 64 by omega]
  exact k
/-- Has a number no more bits than a width? -/
def fitsB (n : Nat) (w : Int) : Bool := decide (1 ≤ w) && decide (n < 2 ^ wc w)
theorem p_Fits {K : Bool → H → Prop} {n : Nat} {w : Int} (hn : n < 2 ^ 128) (k : K (fitsB n w) h) : m_wide_Fits (wordOf n) w K h := by
  unfold m_wide_Fits
  unfold fitsB at k
  refine w_if' (fun c => ?_) fun c => ?_
  · refine w_pure _ (fun _ _ q => p_Cut hn q) ?_
    rw [decide_eq_true c, Bool.true_and] at k
    have : eqW (wordOf (n % 2 ^ wc w)) (wordOf n) = decide (n < 2 ^ wc w) := by
      rw [eqW_num, decide_eq_decide]
      exact ⟨fun e => by rw [← e]; exact Nat.mod_lt _ (Nat.two_pow_pos _), fun e => Nat.mod_eq_of_lt e⟩
    rw [← this] at k; exact k
  · rw [decide_eq_false c] at k; exact k
def cmpI (a b : Nat) : Int := if a = b then 0 else if a < b then -1 else 1
theorem p_Cmp {K : Int → H → Prop} {a b : Nat} (k : K (cmpI a b) h) : m_wide_Cmp (wordOf a) (wordOf b) K h := by
  unfold m_wide_Cmp
  unfold cmpI at k
  refine w_if (fun c => ?_) fun c => w_if (fun c2 => ?_) fun c2 => ?_
  · have c : eqW (wordOf a) (wordOf b) = true := c
    rw [eqW_num, decide_eq_true_eq] at c
    rw [if_pos c] at k; exact k
  · have c : eqW (wordOf a) (wordOf b) = false := c
    rw [eqW_num, decide_eq_false_iff_not] at c
    rw [if_neg c, if_pos] at k
    · exact k
    · simp only [Bool.or_eq_true, Bool.and_eq_true, decide_eq_true_eq] at c2
      unfold wordOf at c2
      simp only at c2
      omega
  · have c : eqW (wordOf a) (wordOf b) = false := c
    rw [eqW_num, decide_eq_false_iff_not] at c
    rw [if_neg c, if_neg] at k
    · exact k
    · simp only [Bool.or_eq_false_iff, Bool.and_eq_false_iff, decide_eq_false_iff_not] at c2
      unfold wordOf at c2
      simp only at c2
      omega
/-- The next word of a width. -/
def nextF (n : Nat) (w : Int) : S_api_Word × Bool := if fitsB (n + 1) w then (wordOf (n + 1), true) else (wordOf 0, false)
theorem next_word (n : Nat) (hn : n < 2 ^ 128) : (if iAdd .u64 (wordOf n).Lo 1 = 0 then (⟨iAdd .u64 (wordOf n).Hi 1, iAdd .u64 (wordOf n).Lo 1⟩ : S_api_Word) else ⟨(wordOf n).Hi, iAdd .u64 (wordOf n).Lo 1⟩) = wordOf ((n + 1) % 2 ^ 128) := by
  have e1 : iAdd .u64 (wordOf n).Lo 1 = (((n % 2 ^ 64 + 1) % 2 ^ 64 : Nat) : Int) := by
    show IntKind.u64.wrap (((n % 2 ^ 64 : Nat) : Int) + 1) = _
    rw [wrap_u64]; omega
  have e2 : iAdd .u64 (wordOf n).Hi 1 = (((n / 2 ^ 64 + 1) % 2 ^ 64 : Nat) : Int) := by
    show IntKind.u64.wrap (((n / 2 ^ 64 : Nat) : Int) + 1) = _
    rw [wrap_u64]; omega
  rw [e1, e2]
  unfold wordOf
  split
  · rename_i c
    congr 1
    · omega
    · omega
  · rename_i c
    congr 1
    · show ((n / 2 ^ 64 : Nat) : Int) = _; omega
    · omega
theorem p_Next {K : S_api_Word × Bool → H → Prop} {n : Nat} {w : Int} (hn : n < 2 ^ 128) (k : K (nextF n w) h) : m_wide_Next (wordOf n) w K h := by
  unfold m_wide_Next
  refine w_joinP (fun s h' => h = h' ∧ (⟨s.1, s.2⟩ : S_api_Word) = wordOf ((n + 1) % 2 ^ 128)) (fun rest hr => ?_) ?_
  · have := next_word n hn
    refine w_if' (fun c => hr _ _ ⟨rfl, ?_⟩) fun c => hr _ _ ⟨rfl, ?_⟩
    · rw [if_pos c] at this; exact this
    · rw [if_neg c] at this; exact this
  rintro ⟨s1, s2⟩ _ ⟨rfl, e⟩
  have e : (⟨s1, s2⟩ : S_api_Word) = wordOf ((n + 1) % 2 ^ 128) := e
  refine w_pure _ (fun _ _ q => p_Fits hn q) ?_
  have hm : (n + 1) % 2 ^ 128 < 2 ^ 128 := Nat.mod_lt _ (by decide)
  have hc := two_le (wc_le w)
  have fit : fitsB (n + 1) w = (fitsB n w && fitsB ((n + 1) % 2 ^ 128) w && !decide ((n + 1) % 2 ^ 128 = 0)) := by
    rw [Bool.eq_iff_iff]
    simp only [fitsB, Bool.and_eq_true, decide_eq_true_eq, Bool.not_eq_true', decide_eq_false_iff_not]
    generalize 2 ^ wc w = W at hc
    omega
  have zero : ((decide (s1 = 0)) && ((decide (s2 = 0)) && true)) = decide ((n + 1) % 2 ^ 128 = 0) := by
    have : eqW ⟨s1, s2⟩ ⟨0, 0⟩ = decide ((n + 1) % 2 ^ 128 = 0) := by
      rw [e, ← wordOf_zero, eqW_num]
    exact this
  unfold nextF at k
  refine w_joinP (fun b h' => h = h' ∧ b = (!(fitsB n w && fitsB ((n + 1) % 2 ^ 128) w))) (fun rest hr => ?_) ?_
  · refine w_if (fun c => hr _ _ ⟨rfl, ?_⟩) fun c => ?_
    · have : fitsB n w = false := by simpa using c
      rw [this]; rfl
    · have c : fitsB n w = true := by simpa using c
      show mPure (m_wide_Fits (⟨s1, s2⟩ : S_api_Word) w) _ h
      rw [e]
      exact w_pure _ (fun _ _ q => p_Fits hm q) (hr _ _ ⟨rfl, by rw [c, Bool.true_and]⟩)
  rintro b _ ⟨rfl, rfl⟩
  show mIf ((!(fitsB n w && fitsB ((n + 1) % 2 ^ 128) w)) || ((decide (s1 = 0)) && ((decide (s2 = 0)) && true))) (K ((⟨0, 0⟩ : S_api_Word), false)) (K ((⟨s1, s2⟩ : S_api_Word), true)) h
  rw [zero]
  refine w_if (fun c => ?_) fun c => ?_
  · have : fitsB (n + 1) w = false := by
      rw [fit]
      revert c
      generalize (fitsB n w && fitsB ((n + 1) % 2 ^ 128) w) = p
      generalize decide ((n + 1) % 2 ^ 128 = 0) = q
      cases p <;> cases q <;> simp
    rw [this] at k
    rw [← wordOf_zero]; exact k
  · have : fitsB (n + 1) w = true := by
      rw [fit]
      revert c
      generalize (fitsB n w && fitsB ((n + 1) % 2 ^ 128) w) = p
      generalize decide ((n + 1) % 2 ^ 128 = 0) = q
      cases p <;> cases q <;> simp
    rw [this, if_pos rfl] at k
    have hlt : n + 1 < 2 ^ 128 := by
      simp only [fitsB, Bool.and_eq_true, decide_eq_true_eq] at this
      omega
    rw [e, Nat.mod_eq_of_lt hlt]; exact k

/-! The reference. -/
theorem bit_val {hi lo : Nat} (h2 : lo < 2 ^ 64) (i : Nat) : (valW hi lo).testBit i = if i < 64 then lo.testBit i else hi.testBit (i - 64) := by
  unfold valW
  rw [Nat.testBit_two_pow_mul_add hi h2 i]
theorem bit_num (n i : Nat) : n.testBit i = if i < 64 then (n % 2 ^ 64).testBit i else (n / 2 ^ 64).testBit (i - 64) := by
  have : n = valW (n / 2 ^ 64) (n % 2 ^ 64) := by unfold valW; omega
  conv => lhs; rw [this]
  exact bit_val (by omega) i
theorem p_RBit {K : Int → H → Prop} {n i : Nat} (hi : i < 128) (k : K (((n.testBit i).toNat : Nat) : Int) h) : m_ref01_Bit (wordOf n) (i : Int) K h := by
  unfold m_ref01_Bit
  rw [bit_num] at k
  refine w_if' (fun c => ?_) fun c => ?_
  · rw [if_pos (by omega)] at k
    rw [u_wrap (by omega)]
    refine w_nn (by omega) ?_
    show K (IntKind.wrap .i64 (iRem .u64 (iShr .u64 ((n % 2 ^ 64 : Nat) : Int) (i : Int)) 2)) h
    rw [u_bit (by omega)]; exact k
  · rw [if_neg (by omega)] at k
    rw [iSub_eq (by omega) (by omega), show (i : Int) - 64 = ((i - 64 : Nat) : Int) by omega, u_wrap (by omega)]
    refine w_nn (by omega) ?_
    show K (IntKind.wrap .i64 (iRem .u64 (iShr .u64 ((n / 2 ^ 64 : Nat) : Int) ((i - 64 : Nat) : Int)) 2)) h
    rw [u_bit (by omega)]; exact k
theorem p_RSet {K : S_api_Word → H → Prop} {n i : Nat} (hn : n < 2 ^ 128) (hi : i < 128) (k : K (wordOf (n ||| 2 ^ i)) h) : m_ref01_Set (wordOf n) (i : Int) K h := by
  unfold m_ref01_Set
  have e : wordOf (n ||| 2 ^ i) = if i < 64 then ⟨((n / 2 ^ 64 : Nat) : Int), ((n % 2 ^ 64 ||| 2 ^ i : Nat) : Int)⟩ else ⟨((n / 2 ^ 64 ||| 2 ^ (i - 64) : Nat) : Int), ((n % 2 ^ 64 : Nat) : Int)⟩ := by
    unfold wordOf
    have hd : (n ||| 2 ^ i) / 2 ^ 64 = n / 2 ^ 64 ||| 2 ^ i / 2 ^ 64 := by rw [← Nat.shiftRight_eq_div_pow, Nat.shiftRight_or_distrib, Nat.shiftRight_eq_div_pow, Nat.shiftRight_eq_div_pow]
    have hm : (n ||| 2 ^ i) % 2 ^ 64 = n % 2 ^ 64 ||| 2 ^ i % 2 ^ 64 := Nat.or_mod_two_pow
    rw [hd, hm]
    split
    · rename_i c
      have c1 := pow_lt c
      rw [Nat.div_eq_of_lt c1, Nat.mod_eq_of_lt c1, Nat.or_zero]
    · rename_i c
      have c1 : 2 ^ i = 2 ^ 64 * 2 ^ (i - 64) := by rw [← Nat.pow_add]; congr 1; omega
      rw [c1, Nat.mul_div_cancel_left _ (by decide), Nat.mul_mod_right, Nat.or_zero]
  rw [e] at k
  refine w_join (w_if' (fun c => ?_) fun c => ?_)
  · rw [if_pos (by omega)] at k
    rw [u_wrap (by omega)]
    refine w_nn (by omega) ?_
    show K ⟨((n / 2 ^ 64 : Nat) : Int), iOr .u64 ((n % 2 ^ 64 : Nat) : Int) (iShl .u64 1 (i : Int))⟩ h
    rw [u_shl1 (by omega), u_or (by omega) (pow_lt (by omega))]; exact k
  · rw [if_neg (by omega)] at k
    rw [iSub_eq (by omega) (by omega), show (i : Int) - 64 = ((i - 64 : Nat) : Int) by omega, u_wrap (by omega)]
    refine w_nn (by omega) ?_
    show K ⟨iOr .u64 ((n / 2 ^ 64 : Nat) : Int) (iShl .u64 1 ((i - 64 : Nat) : Int)), ((n % 2 ^ 64 : Nat) : Int)⟩ h
    rw [u_shl1 (by omega), u_or (by omega) (pow_lt (by omega))]; exact k
theorem set_mod {n i : Nat} (b : n.testBit i = true) : n % 2 ^ i ||| 2 ^ i = n % 2 ^ (i + 1) := by
  rw [or_pow (Nat.mod_lt _ (Nat.two_pow_pos i)), mod_succ, b, if_pos rfl]
theorem keep_mod {n i : Nat} (b : n.testBit i = false) : n % 2 ^ (i + 1) = n % 2 ^ i := by
  rw [mod_succ, b]; rfl
theorem wordOf_eta (n : Nat) : (⟨(wordOf n).Hi, (wordOf n).Lo⟩ : S_api_Word) = wordOf n := rfl
theorem p_RCut {K : S_api_Word → H → Prop} {n : Nat} {w : Int} (hn : n < 2 ^ 128) (k : K (wordOf (n % 2 ^ wc w)) h) : m_ref01_Cut (wordOf n) w K h := by
  unfold m_ref01_Cut
  refine w_loop (fun s : Int × Int × Int => 128 - s.1.toNat) (fun s h' => h = h' ∧ ∃ i : Nat, s = ((i : Int), (wordOf (n % 2 ^ i)).Hi, (wordOf (n % 2 ^ i)).Lo) ∧ i ≤ wc w) ?_ ⟨rfl, 0, by rw [Nat.pow_zero, Nat.mod_one]; rfl, Nat.zero_le _⟩
  rintro rec s _ ⟨rfl, i, rfl, hi⟩ ih
  have hwc : wc w = (min (max w 0) 128).toNat := rfl
  refine w_if (fun c => ?_) fun c => ?_
  · rw [Bool.and_eq_true, decide_eq_true_eq, decide_eq_true_eq] at c
    simp only at c ⊢
    refine w_pure _ (fun _ _ q => p_RBit (by omega) q) ?_
    rw [iAdd_eq (by omega) (by omega)]
    refine w_if (fun b => ?_) fun b => ?_
    · have b : n.testBit i = true := by revert b; cases n.testBit i <;> simp
      refine w_pure _ (fun _ _ q => p_RSet (mod_lt128 hn i) (by omega) q) ?_
      rw [set_mod b]
      exact ih _ _ ⟨rfl, i + 1, rfl, by omega⟩ (by simp only; omega)
    · have b : n.testBit i = false := by revert b; cases n.testBit i <;> simp
      refine ih _ _ ⟨rfl, i + 1, ?_, by omega⟩ (by simp only; omega)
      rw [keep_mod b]; rfl
  · rw [Bool.and_eq_false_iff, decide_eq_false_iff_not, decide_eq_false_iff_not] at c
    simp only at c
    have : i = wc w := by omega
    subst this
    exact k
theorem p_RFits {K : Bool → H → Prop} {n : Nat} {w : Int} (hn : n < 2 ^ 128) (k : K (fitsB n w) h) : m_ref01_Fits (wordOf n) w K h := by
  unfold m_ref01_Fits
  unfold fitsB at k
  refine w_if' (fun c => ?_) fun c => ?_
  · rw [decide_eq_false (by omega)] at k; exact k
  rw [decide_eq_true (by omega), Bool.true_and] at k
  have hwc : wc w = (min (max w 0) 128).toNat := rfl
  refine w_loop (fun i : Int => 128 - i.toNat) (fun s h' => h = h' ∧ w ≤ s ∧ ∀ j : Nat, w ≤ j → (j : Int) < s → n.testBit j = false) ?_ ⟨rfl, by omega, fun j h1 h2 => by omega⟩
  rintro rec s _ ⟨rfl, hs, hb⟩ ih
  obtain ⟨i, rfl⟩ := Int.eq_ofNat_of_zero_le (show 0 ≤ s by omega)
  refine w_if' (fun c2 => ?_) fun c2 => ?_
  · refine w_pure _ (fun _ _ q => p_RBit (by omega) q) ?_
    refine w_if (fun b => ?_) fun b => ?_
    · have b : n.testBit i = true := by revert b; cases n.testBit i <;> simp
      rw [decide_eq_false] at k
      · exact k
      · intro hlt
        have h1 : n < 2 ^ i := Nat.lt_of_lt_of_le hlt (two_le (by omega))
        rw [Nat.testBit_lt_two_pow h1] at b; cases b
    · have b : n.testBit i = false := by revert b; cases n.testBit i <;> simp
      rw [iAdd_eq (by omega) (by omega)]
      refine ih _ _ ⟨rfl, by omega, fun j h1 h2 => ?_⟩ (by omega)
      by_cases e : j = i
      · rw [e]; exact b
      · exact hb j h1 (by omega)
  · rw [decide_eq_true] at k
    · exact k
    · refine Nat.lt_pow_two_of_testBit _ fun j hj => ?_
      by_cases e : j < 128
      · exact hb j (by omega) (by omega)
      · exact Nat.testBit_lt_two_pow (Nat.lt_of_lt_of_le hn (two_le (by omega)))
theorem half (n i : Nat) : n / 2 ^ i = 2 * (n / 2 ^ (i + 1)) + (n.testBit i).toNat := by
  have h1 : n / 2 ^ (i + 1) = n / 2 ^ i / 2 := by rw [Nat.pow_succ, Nat.div_div_eq_div_mul]
  have h2 : (n.testBit i).toNat = n / 2 ^ i % 2 := by
    rw [Nat.testBit_eq_decide_div_mod_eq]
    have : n / 2 ^ i % 2 < 2 := Nat.mod_lt _ (by decide)
    rcases (show n / 2 ^ i % 2 = 0 ∨ n / 2 ^ i % 2 = 1 by omega) with q | q <;> rw [q] <;> decide
  omega
theorem p_RCmp {K : Int → H → Prop} {a b : Nat} (ha : a < 2 ^ 128) (hb : b < 2 ^ 128) (k : K (cmpI a b) h) : m_ref01_Cmp (wordOf a) (wordOf b) K h := by
  unfold m_ref01_Cmp
  refine w_loop (fun i : Int => (i + 1).toNat) (fun s h' => h = h' ∧ ∃ m : Nat, s = (m : Int) - 1 ∧ m ≤ 128 ∧ a / 2 ^ m = b / 2 ^ m) ?_ ⟨rfl, 128, rfl, Nat.le_refl _, by rw [Nat.div_eq_of_lt ha, Nat.div_eq_of_lt hb]⟩
  rintro rec s _ ⟨rfl, m, rfl, hm, he⟩ ih
  refine w_if' (fun c => ?_) fun c => ?_
  · obtain ⟨i, rfl⟩ : ∃ i, m = i + 1 := ⟨m - 1, by omega⟩
    rw [show ((i + 1 : Nat) : Int) - 1 = (i : Int) by omega]
    refine w_pure _ (fun _ _ q => p_RBit (by omega) q) (w_pure _ (fun _ _ q => p_RBit (by omega) q) ?_)
    have h1 := half a i
    have h2 := half b i
    refine w_if (fun e => ?_) fun e => ?_
    · refine w_pure _ (fun _ _ q => p_RBit (by omega) q) (w_pure _ (fun _ _ q => p_RBit (by omega) q) ?_)
      have hne : (a.testBit i).toNat ≠ (b.testBit i).toNat := by
        intro q; rw [q] at e; simp at e
      have hlt : a / 2 ^ i < b / 2 ^ i ↔ a < b := by
        have l1 : a / 2 ^ i < b / 2 ^ i → a < b := fun q => Nat.lt_of_not_le fun q' => Nat.not_le.2 q (Nat.div_le_div_right q')
        have l2 : b / 2 ^ i < a / 2 ^ i → b < a := fun q => Nat.lt_of_not_le fun q' => Nat.not_le.2 q (Nat.div_le_div_right q')
        constructor
        · exact l1
        · intro q
          rcases Nat.lt_trichotomy (a / 2 ^ i) (b / 2 ^ i) with r | r | r
          · exact r
          · omega
          · have := l2 r; omega
      have ne : a ≠ b := fun q => by rw [q] at hne; exact hne rfl
      unfold cmpI at k
      rw [if_neg ne] at k
      revert hne h1 h2
      cases a.testBit i <;> cases b.testBit i <;> intro h1 h2 hne
      · exact absurd rfl hne
      · rw [if_pos (hlt.1 (by simp at h1 h2; omega))] at k; exact k
      · rw [if_neg (fun q => by have := hlt.2 q; simp at h1 h2; omega)] at k; exact k
      · exact absurd rfl hne
    · have e : (a.testBit i).toNat = (b.testBit i).toNat := by
        simp only [Bool.not_eq_false', decide_eq_true_eq] at e; omega
      rw [iSub_eq (by omega) (by omega)]
      exact ih _ _ ⟨rfl, i, rfl, by omega, by omega⟩ (by omega)
  · have : m = 0 := by omega
    subst this
    rw [Nat.pow_zero, Nat.div_one, Nat.div_one] at he
    unfold cmpI at k
    rw [if_pos he] at k; exact k
theorem mod_top (n i k : Nat) (hk : i ≤ k) : (n % 2 ^ k - n % 2 ^ i) % 2 ^ i = 0 ∧ n % 2 ^ i ≤ n % 2 ^ k := by
  have h1 : n % 2 ^ k % 2 ^ i = n % 2 ^ i := Nat.mod_mod_of_dvd _ (Nat.pow_dvd_pow 2 hk)
  have h2 : n % 2 ^ i ≤ n % 2 ^ k := by rw [← h1]; exact Nat.mod_le _ _
  refine ⟨?_, h2⟩
  have h3 := Nat.div_add_mod (n % 2 ^ k) (2 ^ i)
  rw [h1] at h3
  have : n % 2 ^ k - n % 2 ^ i = 2 ^ i * (n % 2 ^ k / 2 ^ i) := by omega
  rw [this]; exact Nat.mul_mod_right _ _
theorem p_RNext {K : S_api_Word × Bool → H → Prop} {n : Nat} {w : Int} (hn : n < 2 ^ 128) (k : K (nextF n w) h) : m_ref01_Next (wordOf n) w K h := by
  unfold m_ref01_Next
  refine w_pure _ (fun _ _ q => p_RFits hn q) ?_
  unfold nextF at k
  have hwc : wc w = (min (max w 0) 128).toNat := rfl
  refine w_if (fun c => ?_) fun c => ?_
  · have c : fitsB n w = false := by simpa using c
    have : fitsB (n + 1) w = false := by
      rw [Bool.eq_false_iff] at c ⊢
      intro q; apply c
      simp only [fitsB, Bool.and_eq_true, decide_eq_true_eq] at q ⊢
      omega
    rw [this] at k
    rw [← wordOf_zero]; exact k
  have c : fitsB n w = true := by simpa using c
  have cc := c
  simp only [fitsB, Bool.and_eq_true, decide_eq_true_eq] at cc
  obtain ⟨w1, hlt⟩ := cc
  refine w_loop (fun i : Int => 128 - i.toNat) (fun s h' => h = h' ∧ ∃ i : Nat, s = (i : Int) ∧ i ≤ wc w ∧ n % 2 ^ i = 2 ^ i - 1) ?_ ⟨rfl, 0, rfl, Nat.zero_le _, by rw [Nat.pow_zero, Nat.mod_one]⟩
  rintro rec s _ ⟨rfl, i, rfl, hi, hones⟩ ih
  have hpi := Nat.two_pow_pos i
  refine w_if (fun c2 => ?_) fun c2 => ?_
  · rw [Bool.and_eq_true, decide_eq_true_eq, decide_eq_true_eq] at c2
    refine w_pure _ (fun _ _ q => p_RBit (by omega) q) ?_
    have hm := mod_succ n i
    refine w_if (fun b => ?_) fun b => ?_
    · have b : n.testBit i = false := by revert b; cases n.testBit i <;> simp
      rw [b] at hm
      have hm : n % 2 ^ (i + 1) = 2 ^ i - 1 := by rw [hm, hones]; rfl
      rw [iAdd_eq (by omega) (by omega)]
      refine w_loop (fun s : Int × Int × Int => 128 - s.1.toNat) (fun s h' => h = h' ∧ ∃ j : Nat, s = ((j : Int), (wordOf (n % 2 ^ j - n % 2 ^ (i + 1))).Hi, (wordOf (n % 2 ^ j - n % 2 ^ (i + 1))).Lo) ∧ i + 1 ≤ j ∧ j ≤ 128) ?_ ⟨rfl, i + 1, by rw [Nat.sub_self]; rfl, by omega, by omega⟩
      rintro rec2 s _ ⟨rfl, j, rfl, hj1, hj2⟩ ih2
      obtain ⟨t1, t2⟩ := mod_top n (i + 1) j hj1
      have small : n % 2 ^ j - n % 2 ^ (i + 1) < 2 ^ j := Nat.lt_of_le_of_lt (Nat.sub_le _ _) (Nat.mod_lt _ (Nat.two_pow_pos j))
      refine w_if' (fun c3 => ?_) fun c3 => ?_
      · simp only at c3 ⊢
        refine w_pure _ (fun _ _ q => p_RBit (by omega) q) ?_
        rw [iAdd_eq (by omega) (by omega)]
        have hmj := mod_succ n j
        refine w_if (fun bj => ?_) fun bj => ?_
        · have bj : n.testBit j = true := by revert bj; cases n.testBit j <;> simp
          rw [bj, if_pos rfl] at hmj
          rw [wordOf_eta]
          refine w_pure _ (fun _ _ q => p_RSet (Nat.lt_of_lt_of_le small (two_le (by omega))) (by omega) q) ?_
          refine ih2 _ _ ⟨rfl, j + 1, ?_, by omega, by omega⟩ (by simp only; omega)
          rw [or_pow small, hmj]
          have : n % 2 ^ j - n % 2 ^ (i + 1) + 2 ^ j = n % 2 ^ j + 2 ^ j - n % 2 ^ (i + 1) := by omega
          rw [this]; rfl
        · have bj : n.testBit j = false := by revert bj; cases n.testBit j <;> simp
          rw [bj] at hmj
          refine ih2 _ _ ⟨rfl, j + 1, ?_, by omega, by omega⟩ (by simp only; omega)
          rw [hmj]; rfl
      · simp only at c3
        have : j = 128 := by omega
        subst this
        rw [Nat.mod_eq_of_lt hn] at t1 t2 small ⊢
        rw [wordOf_eta]
        refine w_pure _ (fun _ _ q => p_RSet small (by omega) q) ?_
        have hor : (n - n % 2 ^ (i + 1)) ||| 2 ^ i = n + 1 := by
          obtain ⟨q, hq⟩ := Nat.dvd_of_mod_eq_zero t1
          rw [hq, ← Nat.two_pow_add_eq_or_of_lt (Nat.pow_lt_pow_right (by decide) (Nat.lt_succ_self i)) q, ← hq, hm]
          have := hm ▸ t2
          omega
        rw [hor]
        have : fitsB (n + 1) w = true := by
          simp only [fitsB, Bool.and_eq_true, decide_eq_true_eq]
          refine ⟨w1, ?_⟩
          obtain ⟨q, hq⟩ := Nat.dvd_of_mod_eq_zero t1
          have e : 2 ^ wc w = 2 ^ (i + 1) * 2 ^ (wc w - (i + 1)) := by rw [← Nat.pow_add]; congr 1; omega
          have hq2 : 2 ^ (i + 1) * q < 2 ^ (i + 1) * 2 ^ (wc w - (i + 1)) := by rw [← hq, ← e]; omega
          have hq3 : q + 1 ≤ 2 ^ (wc w - (i + 1)) := Nat.lt_of_mul_lt_mul_left hq2
          have hq4 := Nat.mul_le_mul_left (2 ^ (i + 1)) hq3
          rw [← e, Nat.mul_add, Nat.mul_one, ← hq] at hq4
          have : 2 ^ (i + 1) = 2 * 2 ^ i := by rw [Nat.pow_succ]; omega
          omega
        rw [this, if_pos rfl] at k
        exact k
    · have b : n.testBit i = true := by revert b; cases n.testBit i <;> simp
      rw [b, if_pos rfl, hones] at hm
      rw [iAdd_eq (by omega) (by omega)]
      refine ih _ _ ⟨rfl, i + 1, rfl, by omega, ?_⟩ (by omega)
      rw [hm, Nat.pow_succ]; omega
  · rw [Bool.and_eq_false_iff, decide_eq_false_iff_not, decide_eq_false_iff_not] at c2
    have : i = wc w := by omega
    subst this
    rw [Nat.mod_eq_of_lt hlt] at hones
    have : fitsB (n + 1) w = false := by
      rw [Bool.eq_false_iff]
      intro q
      simp only [fitsB, Bool.and_eq_true, decide_eq_true_eq] at q
      omega
    rw [this] at k
    rw [← wordOf_zero]; exact k
end
end Go.Proofs.Ytnmaknkbdfpbkaa.K
