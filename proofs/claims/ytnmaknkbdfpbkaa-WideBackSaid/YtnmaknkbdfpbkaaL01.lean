/- The laws of the words' layer. -/
import Derived.Test.YtnmaknkbdfpbkaaWd4
import Derived.Test.YtnmaknkbdfpbkaaFlaw01
namespace Go.Proofs.Ytnmaknkbdfpbkaa.K
open Go

section
variable {h : H}
theorem t_known01 {K : Bool → H → Prop} (k : ∀ h', Keeps h h' → K true h') : m_law01_known K h := by
  unfold m_law01_known
  rw [show (⟨1, 258⟩ : S_api_Word) = wordOf 18446744073709551874 from rfl, show (⟨0, 18446744073709551615⟩ : S_api_Word) = wordOf 18446744073709551615 from rfl]
  refine t_Bytes fun s h1 bu k1 _ _ => ?_
  refine w_pure _ (fun _ _ q => p_Parse q) ?_
  rw [show parseF (ByteArray.mk #[102, 102]).data.toList = (wordOf 255, 0) from by kernel_rfl]
  refine w_pure _ (fun _ _ q => p_Next (by decide) q) ?_
  rw [show nextF 18446744073709551615 65 = (wordOf 18446744073709551616, true) from by kernel_rfl]
  have hl := bu.arr.len
  rw [bytesLE_len] at hl
  have by_ : ∀ (i : Nat) (b : UInt8), (bytesLE 18446744073709551874)[i]? = some b → ∀ (kk : Int → H → Prop), kk ((b.toNat : Nat) : Int) h1 → mIdx s (i : Int) 1 (fun a => mLoad (cInt .u8) a kk) h1 := fun i b e kk y =>
    w_get u8_len bu.arr e rfl (v' := ((b.toNat : Nat) : Int)) rfl y
  refine w_joinV true (fun j hj => w_ifT (decide_eq_true (by omega)) (by_ 0 2 (by decide +kernel) _ hj)) ?_
  refine w_joinV true (fun j hj => w_ifT rfl (by_ 1 1 (by decide +kernel) _ hj)) ?_
  refine w_joinV true (fun j hj => w_ifT rfl (by_ 8 1 (by decide +kernel) _ hj)) ?_
  refine w_joinP (fun b h' => b = true ∧ Keeps h h') (fun rest hr => ?_) ?_
  · refine w_ifT (by decide +kernel) (t_Text (by decide) fun h2 k2 => hr _ _ ⟨?_, k1.trans k2⟩)
    rw [show (ByteArray.mk #[49, 48, 48, 48, 48, 48, 48, 48, 48, 48, 48, 48, 48, 48, 48, 48, 48]) = ⟨[49, 48, 48, 48, 48, 48, 48, 48, 48, 48, 48, 48, 48, 48, 48, 48, 48].toArray⟩ from rfl, bytes_eq]
    decide +kernel
  rintro _ h2 ⟨rfl, k2⟩
  refine w_joinV true (fun j hj => w_ifT rfl (w_pure _ (fun _ _ q => p_Fits (by decide) q) ?_)) ?_
  · rw [show fitsB 255 8 = true from by decide +kernel]; exact hj
  refine w_ifT rfl (w_pure _ (fun _ _ q => p_Cmp q) ?_)
  rw [show cmpI 255 18446744073709551616 = -1 from by decide +kernel]
  exact k _ k2
theorem cmpI_anti (a b : Nat) : cmpI b a = -cmpI a b := by
  unfold cmpI
  split <;> split <;> (try split) <;> omega
theorem fits_cut {a : Nat} {w : Int} (hw : 1 ≤ w) : fitsB (a % 2 ^ wc w) w = true := by
  unfold fitsB
  rw [decide_eq_true hw, decide_eq_true (Nat.mod_lt _ (Nat.two_pow_pos _))]; rfl
theorem t_WideOrder {K : Bool → H → Prop} {a b c : Nat} {w : Int} (ha : a < 2 ^ 128) (k : ∀ h', Keeps h h' → K true h') : m_law01_WideOrder (wordOf a) (wordOf b) (wordOf c) w K h := by
  unfold m_law01_WideOrder
  refine w_pure _ (fun _ _ q => p_Cmp q) ?_
  refine w_joinV (cmpI a b) (fun j hj => ?_) ?_
  · unfold cmpI at hj
    refine w_if (fun c => ?_) fun c => ?_
    · rw [Bool.or_eq_true, Bool.and_eq_true, decide_eq_true_eq, decide_eq_true_eq, decide_eq_true_eq] at c
      unfold wordOf at c
      simp only at c
      rw [if_neg (by omega), if_pos (by omega)] at hj; exact hj
    · rw [Bool.or_eq_false_iff, Bool.and_eq_false_iff, decide_eq_false_iff_not, decide_eq_false_iff_not, decide_eq_false_iff_not] at c
      unfold wordOf at c
      simp only at c
      have e := eqW_num a b
      refine w_if (fun c2 => ?_) fun c2 => ?_
      · have c2 : (!eqW (wordOf a) (wordOf b)) = true := c2
        rw [e] at c2
        have c2 : a ≠ b := by simpa using c2
        rw [if_neg c2, if_neg (by omega)] at hj; exact hj
      · have c2 : (!eqW (wordOf a) (wordOf b)) = false := c2
        rw [e] at c2
        have c2 : a = b := by simpa using c2
        rw [if_pos c2] at hj; exact hj
  refine t_known01 fun h1 k1 => ?_
  refine w_joinV false (fun j hj => ?_) ?_
  · refine w_ifF (by simp) (w_pure _ (fun _ _ q => p_Cmp q) ?_)
    have : iSub .i64 0 (cmpI a b) = cmpI b a := by
      have := cmpI_anti a b
      have hr : -1 ≤ cmpI a b ∧ cmpI a b ≤ 1 := by unfold cmpI; split <;> (try split) <;> omega
      rw [iSub_eq (by omega) (by omega)]; omega
    rw [this, decide_eq_true rfl]; exact hj
  refine w_joinV false (fun j hj => w_ifF rfl ?_) ?_
  · refine w_joinP (fun s h' => h1 = h' ∧ (s = true → a ≤ b ∧ b ≤ c)) (fun rest hr => ?_) ?_
    · refine w_if' (fun q => w_pure _ (fun _ _ q => p_Cmp q) (hr _ _ ⟨rfl, fun e => ?_⟩)) fun q => hr _ _ ⟨rfl, fun e => by cases e⟩
      have e := of_decide_eq_true e
      unfold cmpI at q e
      split at q <;> split at e <;> (try split at q) <;> (try split at e) <;> omega
    rintro s _ ⟨rfl, hs⟩
    refine w_if (fun q => w_pure _ (fun _ _ q => p_Cmp q) ?_) fun _ => hj
    have := hs q
    rw [show decide (0 < cmpI a c) = false from by
      rw [decide_eq_false_iff_not]; unfold cmpI; split <;> (try split) <;> omega]
    exact hj
  refine w_ifF rfl (w_pure _ (fun _ _ q => p_Cut ha q) (w_pure _ (fun _ _ q => p_Fits ha q) ?_))
  have hm := mod_lt128 ha (wc w)
  refine w_if' (fun c => ?_) fun c => ?_
  · refine w_pure _ (fun _ _ q => p_Next ha q) ?_
    have f0 : ∀ n, fitsB n w = false := fun n => by unfold fitsB; rw [decide_eq_false (by omega)]; rfl
    have hc0 : wc w = 0 := by unfold wc; omega
    unfold nextF
    rw [f0, f0, hc0, Nat.pow_zero, Nat.mod_one]
    exact k _ k1
  have hw : 1 ≤ w := by omega
  refine w_pure _ (fun _ _ q => p_Fits hm q) ?_
  refine w_joinV false (fun j hj => ?_) ?_
  · have e : ((decide ((wordOf (a % 2 ^ wc w)).Hi = (wordOf a).Hi)) && ((decide ((wordOf (a % 2 ^ wc w)).Lo = (wordOf a).Lo)) && true)) = fitsB a w := by
      show eqW _ _ = _
      rw [eqW_num, fitsB, decide_eq_true hw, Bool.true_and, decide_eq_decide]
      exact ⟨fun e => by rw [← e]; exact Nat.mod_lt _ (Nat.two_pow_pos _), fun e => Nat.mod_eq_of_lt e⟩
    rw [e, fits_cut hw]
    refine w_ifF (by simp) (w_pure _ (fun _ _ q => p_Cut hm q) ?_)
    have e2 : ∀ x : S_api_Word, (!((decide (x.Hi = x.Hi)) && ((decide (x.Lo = x.Lo)) && true))) = false := fun x => by simp
    rw [Nat.mod_mod, e2]; exact hj
  refine w_ifF rfl (w_pure _ (fun _ _ q => p_Next hm q) ?_)
  unfold nextF
  have hW := two_le (wc_le w)
  have hlt : a % 2 ^ wc w < 2 ^ wc w := Nat.mod_lt _ (Nat.two_pow_pos _)
  cases hf : fitsB (a % 2 ^ wc w + 1) w with
  | false =>
    rw [if_neg Bool.false_ne_true]
    refine w_ifT rfl ?_
    have hlast : a % 2 ^ wc w = 2 ^ wc w - 1 := by
      unfold fitsB at hf
      rw [decide_eq_true hw, Bool.true_and, decide_eq_false_iff_not] at hf
      omega
    refine w_joinV true (fun j hj => w_ifT (by decide) ?_) (w_ifT rfl (w_pure _ (fun _ _ q => p_Fits hm q) ?_))
    · rw [show (⟨18446744073709551615, 18446744073709551615⟩ : S_api_Word) = wordOf 340282366920938463463374607431768211455 from rfl]
      refine w_pure _ (fun _ _ q => p_Cut (by decide) q) ?_
      have e : ((decide ((wordOf (a % 2 ^ wc w)).Hi = (wordOf (340282366920938463463374607431768211455 % 2 ^ wc w)).Hi)) && ((decide ((wordOf (a % 2 ^ wc w)).Lo = (wordOf (340282366920938463463374607431768211455 % 2 ^ wc w)).Lo)) && true)) = true := by
        show eqW _ _ = _
        rw [eqW_num, decide_eq_true_eq, hlast]
        have hp := Nat.two_pow_pos (wc w)
        obtain ⟨q, hq⟩ : 2 ^ wc w ∣ 2 ^ 128 := Nat.pow_dvd_pow 2 (wc_le w)
        have hqp : 1 ≤ q := by
          rcases Nat.eq_zero_or_pos q with z | z
          · rw [z, Nat.mul_zero] at hq; cases hq
          · exact z
        have : 340282366920938463463374607431768211455 = 2 ^ wc w * (q - 1) + (2 ^ wc w - 1) := by
          have : 2 ^ wc w * q = 2 ^ wc w * (q - 1) + 2 ^ wc w := by
            conv => lhs; rw [show q = q - 1 + 1 by omega, Nat.mul_add, Nat.mul_one]
          omega
        rw [this, Nat.mul_add_mod, Nat.mod_eq_of_lt (by omega)]
      rw [e]; exact hj
    · rw [fits_cut hw]; exact k _ k1
  | true =>
    rw [if_pos rfl]
    refine w_ifF rfl ?_
    have hn : a % 2 ^ wc w + 1 < 2 ^ wc w := by
      unfold fitsB at hf
      rw [decide_eq_true hw, Bool.true_and, decide_eq_true_eq] at hf; exact hf
    have nx := next_word (a % 2 ^ wc w) hm
    rw [Nat.mod_eq_of_lt (a := a % 2 ^ wc w + 1) (by omega)] at nx
    generalize hx : a % 2 ^ wc w = x at *
    have lo1 : iAdd .u64 (wordOf x).Lo 1 = 0 ↔ (wordOf x).Lo = 18446744073709551615 := by
      show IntKind.u64.wrap (((x % 2 ^ 64 : Nat) : Int) + 1) = 0 ↔ ((x % 2 ^ 64 : Nat) : Int) = _
      rw [wrap_u64]; omega
    have hi0 : iAdd .u64 (wordOf x).Hi 0 = (wordOf x).Hi := by
      show IntKind.u64.wrap (((x / 2 ^ 64 : Nat) : Int) + 0) = _
      rw [wrap_u64]
      show _ = ((x / 2 ^ 64 : Nat) : Int)
      omega
    refine w_joinP (fun s h' => h1 = h' ∧ (⟨iAdd .u64 (wordOf x).Hi s, iAdd .u64 (wordOf x).Lo 1⟩ : S_api_Word) = wordOf (x + 1)) (fun rest hr => ?_) ?_
    · refine w_if' (fun q => hr _ _ ⟨rfl, ?_⟩) fun q => hr _ _ ⟨rfl, ?_⟩
      · rw [if_pos (lo1.2 q)] at nx; exact nx
      · rw [if_neg (fun z => q (lo1.1 z))] at nx; rw [hi0]; exact nx
    rintro s _ ⟨rfl, e⟩
    refine w_joinV true (fun j hj => ?_) (w_ifT rfl (w_pure _ (fun _ _ q => p_Cmp q) ?_))
    · refine w_ifT ?_ (w_pure _ (fun _ _ q => p_Fits (by omega) q) ?_)
      · show eqW (wordOf (x + 1)) ⟨iAdd .u64 (wordOf x).Hi s, iAdd .u64 (wordOf x).Lo 1⟩ = true
        rw [e]; exact eqW_refl _
      · rw [hf]; exact hj
    · rw [show cmpI x (x + 1) = -1 from by unfold cmpI; rw [if_neg (by omega), if_pos (by omega)]]
      exact k _ k1
theorem eqn (x : S_api_Word) : (!((decide (x.Hi = x.Hi)) && ((decide (x.Lo = x.Lo)) && true))) = false := by simp
theorem t_WideAll {K : Bool → H → Prop} {a b : Nat} {w : Int} {t : ByteArray} (ha : a < 2 ^ 128) (hb : b < 2 ^ 128) (k : ∀ h', Keeps h h' → K true h') : m_law01_WideAll (wordOf a) (wordOf b) w t K h := by
  unfold m_law01_WideAll
  refine t_known01 fun h1 k1 => ?_
  refine w_joinV false (fun j hj => w_ifF rfl (w_pure _ (fun _ _ q => p_Fits ha q) (w_pure _ (fun _ _ q => p_RFits ha q) ?_))) ?_
  · rw [show (!(fitsB a w == fitsB a w)) = false from by simp]; exact hj
  refine w_joinV false (fun j hj => w_ifF rfl (w_pure _ (fun _ _ q => p_Cut ha q) (w_pure _ (fun _ _ q => p_RCut ha q) ?_))) ?_
  · rw [eqn]; exact hj
  refine w_joinV false (fun j hj => w_ifF rfl (w_pure _ (fun _ _ q => p_Cmp q) (w_pure _ (fun _ _ q => p_RCmp ha hb q) ?_))) ?_
  · rw [decide_eq_true rfl]; exact hj
  refine w_ifF rfl (w_pure _ (fun _ _ q => p_Next ha q) (w_pure _ (fun _ _ q => p_RNext ha q) (w_pure _ (fun _ _ q => p_Parse q) (w_pure _ (fun _ _ q => p_RParse q) ?_))))
  refine w_joinP (fun s h' => s = false ∧ Keeps h h') (fun rest hr => ?_) ?_
  · refine w_ifF (by simp) (t_Text ha fun h2 k2 => w_pure _ (fun _ _ q => p_RText ha q) (hr _ _ ⟨by simp, k1.trans k2⟩))
  rintro _ h2 ⟨rfl, k2⟩
  refine w_ifF rfl (w_bytes fun s3 h3 bu3 k3 _ => t_Of bu3.arr (w_bytes fun s4 h4 bu4 k4 _ => t_ROf bu4.arr ?_))
  refine w_ifT (by simp) (t_Bytes fun s5 h5 bu5 k5 _ _ => ?_)
  have kk := ((k2.trans k3).trans k4).trans k5
  refine w_joinP (fun s h' => s.1 = ⟨(bytesLE a).toArray⟩ ∧ Arr cU8 h' s.2 (bytesLE a) ∧ Keeps h h') (fun rest hr => ?_) ?_
  · refine w_both ?_ ?_
    · exact w_text bu5.arr (t_RBytes fun s6 h6 bu6 k6 _ => hr _ _ ⟨rfl, bu6.arr, kk.trans k6⟩)
    · exact t_RBytes fun s6 h6 bu6 k6 _ => w_text (bu5.arr.keep k6) (hr _ _ ⟨rfl, bu6.arr, kk.trans k6⟩)
  rintro ⟨s1, s2⟩ h6 ⟨e, ar, k6⟩
  have e : s1 = ⟨(bytesLE a).toArray⟩ := e
  subst e
  refine w_text ar ?_
  rw [show ((⟨(bytesLE a).toArray⟩ : ByteArray).toList == (⟨(bytesLE a).toArray⟩ : ByteArray).toList) = true from by simp]
  exact k _ k6
end
end Go.Proofs.Ytnmaknkbdfpbkaa.K
