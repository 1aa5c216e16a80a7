/- Words as texts: what the layer's functions and the reference's come to. -/
import Derived.Test.YtnmaknkbdfpbkaaWd2
namespace Go.Proofs.Ytnmaknkbdfpbkaa.K
open Go

def hexd (v : Nat) : UInt8 := if v < 10 then UInt8.ofNat (48 + v) else UInt8.ofNat (87 + v)
def hexs : ByteArray := ByteArray.mk #[48, 49, 50, 51, 52, 53, 54, 55, 56, 57, 97, 98, 99, 100, 101, 102]
theorem hex_get {v : Nat} (h : v < 16) : hexs.data.toList[v]? = some (hexd v) := by
  have : ∀ v : Fin 16, hexs.data.toList[v.val]? = some (hexd v.val) := by decide
  exact this ⟨v, h⟩
theorem hexd_zero {v : Nat} (h : v < 16) : hexd v = 48 ↔ v = 0 := by
  have : ∀ v : Fin 16, hexd v.val = 48 ↔ v.val = 0 := by decide
  exact this ⟨v, h⟩
def nib (n i : Nat) : Nat := n / 2 ^ (4 * i) % 16
theorem nib_lt (n i : Nat) : nib n i < 16 := Nat.mod_lt _ (by decide)
/-- How many digits a number has. -/
def sz (n : Nat) : Nat := if n = 0 then 1 else n.log2 / 4 + 1
theorem sz_pos (n : Nat) : 1 ≤ sz n := by unfold sz; split <;> omega
theorem sz_lt (n : Nat) : n < 2 ^ (4 * sz n) := by
  unfold sz
  split
  · rename_i e; subst e; decide
  · exact Nat.lt_of_lt_of_le (Nat.lt_log2_self) (two_le (by omega))
theorem sz_le (n : Nat) : sz n = 1 ∨ 2 ^ (4 * (sz n - 1)) ≤ n := by
  unfold sz
  split
  · exact .inl rfl
  · rename_i e
    exact .inr (Nat.le_trans (two_le (by omega)) (Nat.log2_self_le e))
theorem sz_min {n m : Nat} (hm : 1 ≤ m) (h : n < 2 ^ (4 * m)) : sz n ≤ m := by
  rcases sz_le n with q | q
  · omega
  · rcases Nat.lt_or_ge m (sz n) with r | r
    · have := Nat.lt_of_lt_of_le h (Nat.le_trans (two_le (show 4 * m ≤ 4 * (sz n - 1) by omega)) q)
      omega
    · exact r
theorem nib_zero {n i : Nat} (h : sz n ≤ i) : nib n i = 0 := by
  unfold nib
  rw [Nat.div_eq_of_lt (Nat.lt_of_lt_of_le (sz_lt n) (two_le (by omega)))]
theorem nib_top {n : Nat} (h : 1 < sz n) : nib n (sz n - 1) ≠ 0 := by
  unfold nib
  rcases sz_le n with q | q
  · omega
  · have h1 := sz_lt n
    have h2 : 0 < n / 2 ^ (4 * (sz n - 1)) := Nat.div_pos q (Nat.two_pow_pos _)
    have h3 : n / 2 ^ (4 * (sz n - 1)) < 16 := by
      rw [Nat.div_lt_iff_lt_mul (Nat.two_pow_pos _)]
      have : 2 ^ (4 * sz n) = 16 * 2 ^ (4 * (sz n - 1)) := by rw [show 4 * sz n = 4 + 4 * (sz n - 1) by omega, Nat.pow_add]
      omega
    omega
/-- The digits of a number. -/
def textOf (n : Nat) : List UInt8 := (List.range (sz n)).map fun i => hexd (nib n (sz n - 1 - i))
theorem textOf_len (n : Nat) : (textOf n).length = sz n := by simp [textOf]
theorem u_and15 {v : Nat} (h : v < 2 ^ 64) : iAnd .u64 (v : Int) 15 = ((v % 16 : Nat) : Int) := by
  have := u_and h (b := 15) (by decide)
  rw [show ((15 : Nat) : Int) = 15 from rfl] at this
  rw [this, show 15 = 2 ^ 4 - 1 from rfl, Nat.and_two_pow_sub_one_eq_mod]
section
variable {h : H}
theorem w_byte {s : ByteArray} {i : Int} {n : Nat} {b : UInt8} (hi : i = n) (e : s.data.toList[n]? = some b) {k : Int → H → Prop} (y : k ((b.toNat : Nat) : Int) h) : mByte s i k h := by
  subst hi
  have hlt := lt_of_get e
  rw [List.getElem?_eq_getElem hlt] at e
  have e := Option.some.inj e
  have hs : n < s.size := by simpa using hlt
  refine ⟨_, ⟨b, by omega, ?_, rfl⟩, y⟩
  rw [Int.toNat_natCast, getElem?_pos s n hs, ← e]
  rfl
theorem t_Text {K : ByteArray → H → Prop} {n : Nat} (hn : n < 2 ^ 128) (k : ∀ h', Keeps h h' → K ⟨(textOf n).toArray⟩ h') : m_wide_Text (wordOf n) K h := by
  unfold m_wide_Text
  have hsz : sz n ≤ 32 := sz_min (by omega) hn
  refine w_for 32 (fun j st h' => st.2 = (j : Int) ∧ Buf cU8 1 N_u8 h' st.1 ((List.range j).map fun i => hexd (nib n i)) ∧ Keeps h h' ∧ ∀ b, st.1.foot b → h b = none) ?_ ⟨rfl, Buf.nil, .refl _, fun b ⟨a, e, _⟩ => by cases e⟩
  rintro rec j ⟨s, i⟩ h1 hj ⟨hi, bu, k1, fr⟩ ih
  have hi : i = (j : Int) := hi
  subst hi
  refine w_if' (fun c => ?_) fun c => ?_
  · simp only at c ⊢
    have hj' : j < 32 := by omega
    have m4 : iMul .i64 4 (j : Int) = ((4 * j : Nat) : Int) := by rw [iMul_eq (by omega) (by omega)]; omega
    rw [m4]
    refine w_nn (by omega) ?_
    refine w_joinP (fun v h' => h1 = h' ∧ ∃ m : Nat, v = (m : Int) ∧ m < 2 ^ 64 ∧ m % 16 = nib n j) (fun rest hr => ?_) ?_
    · refine w_if' (fun c2 => ?_) fun c2 => ?_
      · have e1 : iMul .i64 4 (iSub .i64 (j : Int) 16) = ((4 * (j - 16) : Nat) : Int) := by rw [iSub_eq (by omega) (by omega), iMul_eq (by omega) (by omega)]; omega
        rw [e1]
        refine w_nn (by omega) ?_
        refine hr _ _ ⟨rfl, _, u_shr (a := n / 2 ^ 64) (by omega), Nat.lt_of_le_of_lt (Nat.div_le_self _ _) (by omega), ?_⟩
        unfold nib
        rw [Nat.div_div_eq_div_mul, ← Nat.pow_add, show 64 + 4 * (j - 16) = 4 * j by omega]
      · refine hr _ _ ⟨rfl, _, u_shr (a := n % 2 ^ 64) (by omega), Nat.lt_of_le_of_lt (Nat.div_le_self _ _) (by omega), ?_⟩
        unfold nib
        have e : 2 ^ 64 = 2 ^ (4 * j) * 2 ^ (64 - 4 * j) := by rw [← Nat.pow_add]; congr 1; omega
        have e2 : 2 ^ (64 - 4 * j) = 16 * 2 ^ (60 - 4 * j) := by rw [show 64 - 4 * j = 4 + (60 - 4 * j) by omega, Nat.pow_add]
        rw [e, Nat.mod_mul_right_div_self, e2, Nat.mod_mul_right_mod]
    rintro _ _ ⟨rfl, m, rfl, hm, hmn⟩
    rw [u_and15 hm, hmn]
    refine w_byte rfl (hex_get (nib_lt n j)) ?_
    refine w_app u8_len rfl bu [hexd (nib n j)] rfl rfl (.inl (by simp; omega)) fun s' h2 bu2 b2 f2 _ => ?_
    rw [iAdd_eq (by omega) (by omega)]
    refine ih _ _ hj' ⟨rfl, ?_, k1.but b2 fr, fun b hb => (f2 b hb).elim (fr b) k1.fresh⟩
    rw [List.range_succ, List.map_append]; exact bu2
  simp only at c ⊢
  have : j = 32 := by omega
  subst this
  clear ih
  have dig : ∀ i, i < 32 → ((List.range 32).map fun i => hexd (nib n i))[i]? = some (hexd (nib n i)) := fun i hi => by
    rw [List.getElem?_map, List.getElem?_range hi]; rfl
  refine w_for 32 (fun j st h' => h1 = h' ∧ st = ((32 - j : Nat) : Int) ∧ sz n ≤ 32 - j) ?_ ⟨rfl, rfl, hsz⟩
  rintro rec j _ _ hj ⟨rfl, rfl, hle⟩ ih
  have hp := sz_pos n
  generalize hm : 32 - j = m at *
  refine w_joinP (fun b h' => h1 = h' ∧ b = decide (sz n < m)) (fun rest hr => ?_) ?_
  · refine w_if' (fun c2 => ?_) fun c2 => ?_
    · have e1 : iSub .i64 (m : Int) 1 = ((m - 1 : Nat) : Int) := by rw [iSub_eq (by omega) (by omega)]; omega
      rw [e1]
      refine w_get u8_len bu.arr (dig (m - 1) (by omega)) rfl (v' := (((hexd (nib n (m - 1))).toNat : Nat) : Int)) rfl ?_
      refine hr _ _ ⟨rfl, ?_⟩
      rw [decide_eq_decide]
      have hz := hexd_zero (nib_lt n (m - 1))
      have h48 : (((hexd (nib n (m - 1))).toNat : Nat) : Int) = 48 ↔ hexd (nib n (m - 1)) = 48 := by
        constructor
        · intro e; apply UInt8.toNat.inj; have : (hexd (nib n (m - 1))).toNat = 48 := by omega
          rw [this]; rfl
        · intro e; rw [e]; rfl
      rw [h48, hz]
      constructor
      · intro e
        rcases Nat.lt_or_ge (sz n) m with q | q
        · exact q
        · have : m = sz n := by omega
          rw [this] at e
          exact absurd e (nib_top (by omega))
      · intro e; exact nib_zero (by omega)
    · refine hr _ _ ⟨rfl, ?_⟩
      rw [eq_comm, decide_eq_false_iff_not]; omega
  rintro _ _ ⟨rfl, rfl⟩
  refine w_if' (fun c2 => ?_) fun c2 => ?_
  · rw [iSub_eq (by omega) (by omega)]
    refine ih _ _ (by omega) ⟨rfl, ?_, by omega⟩
    omega
  have hm2 : m = sz n := by omega
  subst hm2
  clear ih
  refine w_make u8_len (0 : UInt8) rfl (n := sz n) rfl rfl (by omega) (by omega) fun s2 h2 bu2 k2 fr2 _ => ?_
  refine w_for (sz n) (fun j st h' => st = (j : Int) ∧ Buf cU8 1 N_u8 h' s2 ((textOf n).take j ++ List.replicate (sz n - j) 0) ∧ Keeps h1 h') ?_ ⟨rfl, by simpa using bu2, k2⟩
  rintro rec j _ h3 hj ⟨rfl, bu3, k3⟩ ih
  have tl := textOf_len n
  refine w_if' (fun c2 => ?_) fun c2 => ?_
  · have hj' : j < sz n := by omega
    have e1 : iSub .i64 (iSub .i64 ((sz n : Nat) : Int) 1) (j : Int) = ((sz n - 1 - j : Nat) : Int) := by
      rw [iSub_eq (a := ((sz n : Nat) : Int)) (by omega) (by omega), iSub_eq (by omega) (by omega)]; omega
    rw [e1]
    refine w_get u8_len (bu.arr.keep k3) (dig (sz n - 1 - j) (by omega)) rfl (v' := (((hexd (nib n (sz n - 1 - j))).toNat : Nat) : Int)) rfl ?_
    refine w_put u8_len bu3 (i := j) (by simp; omega) rfl (hexd (nib n (sz n - 1 - j))) rfl fun h4 bu4 b4 _ => ?_
    rw [iAdd_eq (by omega) (by omega)]
    refine ih _ _ hj' ⟨rfl, ?_, k3.but b4 fr2⟩
    have hg : (textOf n)[j]? = some (hexd (nib n (sz n - 1 - j))) := by
      unfold textOf; rw [List.getElem?_map, List.getElem?_range hj']; rfl
    have : ((textOf n).take j ++ List.replicate (sz n - j) 0).set j (hexd (nib n (sz n - 1 - j))) = (textOf n).take (j + 1) ++ List.replicate (sz n - (j + 1)) 0 := by
      have hlt := lt_of_get hg
      have hv : (textOf n)[j] = hexd (nib n (sz n - 1 - j)) := by rw [List.getElem?_eq_getElem hlt] at hg; exact Option.some.inj hg
      rw [List.set_append_right _ _ (by simp; omega), List.length_take, Nat.min_eq_left (by omega), Nat.sub_self, List.take_succ_eq_append_getElem hlt, hv]
      rw [show sz n - j = (sz n - (j + 1)) + 1 by omega, List.replicate_succ, List.set_cons_zero, List.append_assoc]
      rfl
    rw [← this]; exact bu4
  · have : j = sz n := by omega
    subst this
    rw [Nat.sub_self, List.replicate_zero, List.append_nil, ← tl, List.take_length] at bu3
    exact w_text bu3.arr (k _ (k1.trans k3))
theorem p_RText {K : ByteArray → H → Prop} {n : Nat} (hn : n < 2 ^ 128) (k : K ⟨(textOf n).toArray⟩ h) : m_ref01_Text (wordOf n) K h := by
  unfold m_ref01_Text
  have hsz : sz n ≤ 32 := sz_min (by omega) hn
  have hp := sz_pos n
  have tl := textOf_len n
  refine w_for 32 (fun j st h' => h = h' ∧ st = ((⟨((textOf n).take (sz n - (32 - j))).toArray⟩ : ByteArray), (31 - j : Int))) ?_ ⟨rfl, by rw [show sz n - (32 - 0) = 0 by omega]; rfl⟩
  rintro rec j _ _ hj ⟨rfl, rfl⟩ ih
  refine w_if' (fun c => ?_) fun c => ?_
  · simp only at c ⊢
    have hj' : j < 32 := by omega
    obtain ⟨i, hi⟩ : ∃ i : Nat, (31 - j : Int) = (i : Int) := ⟨31 - j, by omega⟩
    have hij : i = 31 - j := by omega
    rw [hi]
    have m4 : iMul .i64 4 (i : Int) = ((4 * i : Nat) : Int) := by rw [iMul_eq (by omega) (by omega)]; omega
    have p1 : iAdd .i64 ((4 * i : Nat) : Int) 1 = ((4 * i + 1 : Nat) : Int) := by rw [iAdd_eq (by omega) (by omega)]; omega
    have p2 : iAdd .i64 ((4 * i : Nat) : Int) 2 = ((4 * i + 2 : Nat) : Int) := by rw [iAdd_eq (by omega) (by omega)]; omega
    have p3 : iAdd .i64 ((4 * i : Nat) : Int) 3 = ((4 * i + 3 : Nat) : Int) := by rw [iAdd_eq (by omega) (by omega)]; omega
    rw [m4, p1, p2, p3]
    refine w_pure _ (fun _ _ q => p_RBit (by omega) q) (w_pure _ (fun _ _ q => p_RBit (by omega) q) (w_pure _ (fun _ _ q => p_RBit (by omega) q) (w_pure _ (fun _ _ q => p_RBit (by omega) q) ?_)))
    have hv : iAdd .i64 (iAdd .i64 (iAdd .i64 (((n.testBit (4 * i)).toNat : Nat) : Int) (iMul .i64 2 (((n.testBit (4 * i + 1)).toNat : Nat) : Int))) (iMul .i64 4 (((n.testBit (4 * i + 2)).toNat : Nat) : Int))) (iMul .i64 8 (((n.testBit (4 * i + 3)).toNat : Nat) : Int)) = ((nib n i : Nat) : Int) := by
      have h0 : n / 2 ^ (4 * i) = 2 * (n / 2 ^ (4 * i + 1)) + _ := half n (4 * i)
      have h1 : n / 2 ^ (4 * i + 1) = 2 * (n / 2 ^ (4 * i + 2)) + _ := half n (4 * i + 1)
      have h2 : n / 2 ^ (4 * i + 2) = 2 * (n / 2 ^ (4 * i + 3)) + _ := half n (4 * i + 2)
      have h3 : n / 2 ^ (4 * i + 3) = 2 * (n / 2 ^ (4 * i + 4)) + _ := half n (4 * i + 3)
      have b0 : (n.testBit (4 * i)).toNat ≤ 1 := by cases n.testBit (4 * i) <;> decide
      have b1 : (n.testBit (4 * i + 1)).toNat ≤ 1 := by cases n.testBit (4 * i + 1) <;> decide
      have b2 : (n.testBit (4 * i + 2)).toNat ≤ 1 := by cases n.testBit (4 * i + 2) <;> decide
      have b3 : (n.testBit (4 * i + 3)).toNat ≤ 1 := by cases n.testBit (4 * i + 3) <;> decide
      unfold nib
      generalize (n.testBit (4 * i)).toNat = x0 at *
      generalize (n.testBit (4 * i + 1)).toNat = x1 at *
      generalize (n.testBit (4 * i + 2)).toNat = x2 at *
      generalize (n.testBit (4 * i + 3)).toNat = x3 at *
      rw [iMul_eq (b := (x1 : Int)) (by omega) (by omega), iMul_eq (b := (x2 : Int)) (by omega) (by omega), iMul_eq (b := (x3 : Int)) (by omega) (by omega), iAdd_eq (a := (x0 : Int)) (by omega) (by omega), iAdd_eq (a := (x0 : Int) + 2 * x1) (by omega) (by omega), iAdd_eq (by omega) (by omega)]
      omega
    rw [hv]
    have hcond : (((decide (0 < ((nib n i : Nat) : Int))) || (!((⟨((textOf n).take (sz n - (32 - j))).toArray⟩ : ByteArray).toList == (ByteArray.mk #[]).toList))) || (decide ((i : Int) = 0))) = decide (i < sz n) := by
      have e1 : ((⟨((textOf n).take (sz n - (32 - j))).toArray⟩ : ByteArray).toList == (ByteArray.mk #[]).toList) = decide ((textOf n).take (sz n - (32 - j)) = []) := bytes_eq (b := [])
      have e2 : (textOf n).take (sz n - (32 - j)) = [] ↔ sz n ≤ 32 - j := by
        rw [← List.length_eq_zero_iff, List.length_take, tl]; omega
      rw [e1, Bool.eq_iff_iff]
      simp only [Bool.or_eq_true, decide_eq_true_eq, Bool.not_eq_true', decide_eq_false_iff_not, e2]
      constructor
      · rintro ((q | q) | q)
        · rcases Nat.lt_or_ge i (sz n) with r | r
          · exact r
          · rw [nib_zero r] at q; omega
        · omega
        · omega
      · intro q
        by_cases r : i + 1 < sz n
        · exact .inl (.inr (by omega))
        · by_cases r2 : 1 < sz n
          · have := nib_top r2
            rw [show sz n - 1 = i by omega] at this
            exact .inl (.inl (by omega))
          · exact .inr (by omega)
    rw [hcond]
    have stp : iSub .i64 (i : Int) 1 = 31 - ((j + 1 : Nat) : Int) := by rw [iSub_eq (by omega) (by omega)]; omega
    rw [stp]
    refine w_if' (fun c2 => ?_) fun c2 => ?_
    · have hl := nib_lt n i
      have hg := hex_get hl
      have hsub : isSub hexs ((nib n i : Nat) : Int) (iAdd .i64 ((nib n i : Nat) : Int) 1) ⟨#[hexd (nib n i)]⟩ := by
        rw [iAdd_eq (by omega) (by omega)]
        refine ⟨by omega, by omega, by show _ ≤ ((16 : Nat) : Int); omega, ?_⟩
        have : ∀ v : Fin 16, (⟨#[hexd v.val]⟩ : ByteArray).data.toList = (hexs.extract v.val (v.val + 1)).data.toList := by decide
        have e := this ⟨nib n i, hl⟩
        rw [show (((nib n i : Nat) : Int) + 1).toNat = nib n i + 1 by omega, Int.toNat_natCast]
        have := Array.toList_inj.1 e
        cases hx : hexs.extract (nib n i) (nib n i + 1)
        rw [hx] at this
        simp only at this
        rw [← this]
      refine ⟨_, hsub, ?_⟩
      refine ⟨⟨((textOf n).take (sz n - (32 - (j + 1)))).toArray⟩, ⟨?_, ?_⟩, ih _ _ hj' ⟨rfl, rfl⟩⟩
      · have l1 : (⟨((textOf n).take (sz n - (32 - j))).toArray⟩ : ByteArray).size = ((textOf n).take (sz n - (32 - j))).length := by simp [ByteArray.size]
        have l2 : (⟨#[hexd (nib n i)]⟩ : ByteArray).size = 1 := rfl
        rw [l1, l2, List.length_take]
        show _ ≤ (9223372036854775807 : Int)
        omega
      · have hlt : sz n - (32 - j) < (textOf n).length := by omega
        have hv : (textOf n)[sz n - (32 - j)] = hexd (nib n i) := by
          have : (textOf n)[sz n - (32 - j)]? = some (hexd (nib n (sz n - 1 - (sz n - (32 - j))))) := by
            unfold textOf; rw [List.getElem?_map, List.getElem?_range (by omega)]; rfl
          rw [List.getElem?_eq_getElem hlt] at this
          rw [Option.some.inj this]; congr 2; omega
        rw [show sz n - (32 - (j + 1)) = sz n - (32 - j) + 1 by omega, List.take_succ_eq_append_getElem hlt, hv]
        rw [show ∀ (a b : List UInt8), (⟨(a ++ b).toArray⟩ : ByteArray) = ⟨a.toArray⟩ ++ ⟨b.toArray⟩ from fun a b => by
          apply ByteArray.ext; simp]
    · refine ih _ _ hj' ⟨rfl, ?_⟩
      rw [show sz n - (32 - (j + 1)) = 0 by omega, show sz n - (32 - j) = 0 by omega]
  · simp only at c ⊢
    have : j = 32 := by omega
    subst this
    rw [Nat.sub_self, Nat.sub_zero, ← tl, List.take_length]; exact k
end
end Go.Proofs.Ytnmaknkbdfpbkaa.K
