/- Words as bytes: what the layer's functions and the reference's come to. -/
import Derived.Test.YtnmaknkbdfpbkaaL2
import Derived.Test.YtnmaknkbdfpbkaaWd1
namespace Go.Proofs.Ytnmaknkbdfpbkaa.K
open Go

theorem u_wrap8 (n : Nat) : IntKind.wrap .u8 (n : Int) = ((n % 256 : Nat) : Int) := by
  unfold IntKind.wrap
  simp [IntKind.signed, IntKind.bits]
theorem u_wrap8' {x : Int} {n : Nat} (e : x = n) : IntKind.wrap .u8 x = ((n % 256 : Nat) : Int) := by rw [e, u_wrap8]
theorem iMul_eq {a b : Int} (h1 : -9223372036854775808 ≤ a * b) (h2 : a * b < 9223372036854775808) : iMul .i64 a b = a * b := i64_eq h1 h2
theorem u_shl {a n : Nat} (h : n ≤ 64) (hlt : a * 2 ^ n < 2 ^ 64) : iShl .u64 (a : Int) (n : Int) = ((a * 2 ^ n : Nat) : Int) := by
  show IntKind.u64.wrap ((a : Int) * 2 ^ (min (n : Int).toNat 64)) = _
  rw [Int.toNat_natCast, Nat.min_eq_left h]
  have : ((a : Int) * 2 ^ n) = ((a * 2 ^ n : Nat) : Int) := by simp
  rw [this, u_wrap hlt]
def byteAt (n i : Nat) : UInt8 := UInt8.ofNat (n / 2 ^ (8 * i))
theorem byteAt_nat (n i : Nat) : (byteAt n i).toNat = n / 2 ^ (8 * i) % 256 := by
  unfold byteAt; rw [UInt8.toNat_ofNat']
def bytesLE (n : Nat) : List UInt8 := (List.range 16).map (byteAt n)
theorem bytesLE_len (n : Nat) : (bytesLE n).length = 16 := by simp [bytesLE]
def le : List UInt8 → Nat
  | [] => 0
  | b :: r => b.toNat + 256 * le r
theorem le_lt : ∀ l : List UInt8, le l < 2 ^ (8 * l.length) := by
  intro l
  induction l with
  | nil => decide
  | cons b r ih =>
    have := b.toNat_lt
    simp only [le, List.length_cons]
    have e : 2 ^ (8 * (r.length + 1)) = 256 * 2 ^ (8 * r.length) := by rw [show 8 * (r.length + 1) = 8 + 8 * r.length by omega, Nat.pow_add]
    rw [e]; omega
theorem le_append (a b : List UInt8) : le (a ++ b) = le a + 2 ^ (8 * a.length) * le b := by
  induction a with
  | nil => simp [le]
  | cons x r ih =>
    simp only [List.cons_append, le, ih, List.length_cons]
    have e : 2 ^ (8 * (r.length + 1)) = 256 * 2 ^ (8 * r.length) := by rw [show 8 * (r.length + 1) = 8 + 8 * r.length by omega, Nat.pow_add]
    rw [e, Nat.mul_add, Nat.mul_assoc]; omega
theorem le_bytes (n : Nat) : ∀ m, le ((List.range m).map (byteAt n)) = n % 2 ^ (8 * m) := by
  intro m
  induction m with
  | zero => simp [le, Nat.mod_one]
  | succ m ih =>
    rw [List.range_succ, List.map_append, le_append, ih]
    simp only [List.map_cons, List.map_nil, le, byteAt_nat, List.length_map, List.length_range, Nat.mul_zero, Nat.add_zero]
    rw [show 8 * (m + 1) = 8 * m + 8 by omega, Nat.pow_add, show (2 : Nat) ^ 8 = 256 from rfl]
    have := Nat.mod_mul (x := n) (a := 2 ^ (8 * m)) (b := 256)
    omega
theorem le_bytesLE {n : Nat} (hn : n < 2 ^ 128) : le (bytesLE n) = n := by
  unfold bytesLE; rw [le_bytes]; exact Nat.mod_eq_of_lt hn
theorem le_take {bs : List UInt8} {j : Nat} {b : UInt8} (e : bs[j]? = some b) : le (bs.take (j + 1)) = le (bs.take j) ||| b.toNat * 2 ^ (8 * j) := by
  have hlt := lt_of_get e
  have hb : bs[j] = b := by rw [List.getElem?_eq_getElem hlt] at e; exact Option.some.inj e
  have hl : (bs.take j).length = j := by rw [List.length_take]; omega
  have h1 := le_lt (bs.take j)
  rw [hl] at h1
  rw [List.take_succ_eq_append_getElem hlt, le_append, hl, hb]
  simp only [le, Nat.mul_zero, Nat.add_zero]
  have := Nat.two_pow_add_eq_or_of_lt h1 b.toNat
  rw [Nat.or_comm, Nat.mul_comm b.toNat, ← this]; omega
theorem le_bit : ∀ (bs : List UInt8) (i : Nat), (le bs).testBit i = ((bs[i / 8]?).getD 0).toNat.testBit (i % 8) := by
  intro bs
  induction bs with
  | nil => intro i; simp [le]
  | cons b r ih =>
    intro i
    have hb := b.toNat_lt
    have h1 := Nat.testBit_two_pow_mul_add (le r) (i := 8) hb i
    rw [show le (b :: r) = 2 ^ 8 * le r + b.toNat by simp only [le]; omega, h1]
    by_cases c : i < 8
    · rw [if_pos c, Nat.div_eq_of_lt c, Nat.mod_eq_of_lt c]; rfl
    · rw [if_neg c, ih, show i / 8 = (i - 8) / 8 + 1 by omega, List.getElem?_cons_succ, show i % 8 = (i - 8) % 8 by omega]
section
variable {h : H}
theorem t_Bytes {K : Sl → H → Prop} {n : Nat} (k : ∀ s h', Buf cU8 1 N_u8 h' s (bytesLE n) → Keeps h h' → (∀ b, s.foot b → h b = none) → s.cap = 16 → K s h') : m_wide_Bytes (wordOf n) K h := by
  unfold m_wide_Bytes
  refine w_make u8_len (0 : UInt8) rfl (n := 16) rfl rfl (by omega) (by omega) fun s h1 bu k1 fr hc => ?_
  let f : Nat → Nat → UInt8 := fun j k => if k < j ∨ (8 ≤ k ∧ k < 8 + j) then byteAt n k else 0
  have flen : ∀ j, ((List.range 16).map (f j)).length = 16 := fun j => by simp
  refine w_for 8 (fun j i h' => i = (j : Int) ∧ Buf cU8 1 N_u8 h' s ((List.range 16).map (f j)) ∧ Keeps h h') ?_ ⟨rfl, ?_, k1⟩
  · rintro rec j _ h2 hj ⟨rfl, bu2, k2⟩ ih
    refine w_if' (fun c => ?_) fun c => ?_
    · have hj' : j < 8 := by omega
      have m8 : iMul .i64 8 (j : Int) = ((8 * j : Nat) : Int) := by rw [iMul_eq (by omega) (by omega)]; omega
      have p8 : iAdd .i64 8 (j : Int) = ((8 + j : Nat) : Int) := by rw [iAdd_eq (by omega) (by omega)]; omega
      rw [m8]
      refine w_nn (by omega) ?_
      refine w_put u8_len bu2 (i := j) (by rw [flen]; omega) rfl (byteAt n j) ?_ fun h3 bu3 b3 _ => ?_
      · show [Value.int .u8 _] = [Value.int .u8 _]
        rw [byteAt_nat]
        show _ = [Value.int .u8 (IntKind.wrap .u8 (iShr .u64 ((n % 2 ^ 64 : Nat) : Int) ((8 * j : Nat) : Int)))]
        rw [u_shr (by omega), u_wrap8]
        congr 3
        have e : 2 ^ 64 = 2 ^ (8 * j) * 2 ^ (64 - 8 * j) := by rw [← Nat.pow_add]; congr 1; omega
        have e2 : 2 ^ (64 - 8 * j) = 256 * 2 ^ (56 - 8 * j) := by rw [show 64 - 8 * j = 8 + (56 - 8 * j) by omega, Nat.pow_add]
        rw [e, Nat.mod_mul_right_div_self, e2, Nat.mod_mul_right_mod]
      refine w_nn (by omega) ?_
      rw [p8]
      refine w_put u8_len bu3 (i := 8 + j) (by rw [List.length_set, flen]; omega) rfl (byteAt n (8 + j)) ?_ fun h4 bu4 b4 _ => ?_
      · show [Value.int .u8 _] = [Value.int .u8 _]
        rw [byteAt_nat]
        show _ = [Value.int .u8 (IntKind.wrap .u8 (iShr .u64 ((n / 2 ^ 64 : Nat) : Int) ((8 * j : Nat) : Int)))]
        rw [u_shr (by omega), u_wrap8, Nat.div_div_eq_div_mul, ← Nat.pow_add, show 64 + 8 * j = 8 * (8 + j) by omega]
      rw [iAdd_eq (by omega) (by omega)]
      refine ih _ _ hj' ⟨rfl, ?_, (k2.but b3 fr).but b4 fr⟩
      have : (((List.range 16).map (f j)).set j (byteAt n j)).set (8 + j) (byteAt n (8 + j)) = (List.range 16).map (f (j + 1)) := by
        apply List.ext_getElem?
        intro i
        rw [List.getElem?_set, List.getElem?_set, List.length_set, flen, List.getElem?_map, List.getElem?_map]
        by_cases hi : i < 16
        · rw [List.getElem?_range hi]
          simp only [Option.map_some, f]
          split
          · rename_i e; subst e; rw [if_pos (by omega), if_pos (by omega)]
          · split
            · rename_i e; subst e; rw [if_pos (by omega), if_pos (by omega)]
            · congr 1
              by_cases q : i < j ∨ 8 ≤ i ∧ i < 8 + j
              · rw [if_pos q, if_pos (by omega)]
              · rw [if_neg q, if_neg (by omega)]
        · rw [List.getElem?_eq_none (by simp; omega)]
          rw [if_neg (by omega), if_neg (by omega)]
          rfl
      rw [← this]; exact bu4
    · have : j = 8 := by omega
      subst this
      have e : (List.range 16).map (f 8) = bytesLE n := List.map_congr_left fun i hi => by
        rw [List.mem_range] at hi
        exact if_pos (by omega)
      rw [e] at bu2
      exact k s h2 bu2 k2 fr hc
  · have e : (List.range 16).map (f 0) = List.replicate 16 0 := by
      apply List.ext_getElem?
      intro i
      rw [List.getElem?_map, List.getElem?_replicate]
      by_cases hi : i < 16
      · rw [List.getElem?_range hi, if_pos hi]
        simp only [Option.map_some, f]
        rw [if_neg (by omega)]
      · rw [List.getElem?_eq_none (by simp; omega), if_neg hi]; rfl
    rw [e]; exact bu
/-- What reading a word out of bytes comes to. -/
def ofF (bs : List UInt8) : S_api_Word × Int := if bs.length < 16 then (wordOf 0, 17) else (wordOf (le (bs.take 16)), 0)
theorem t_Of {K : S_api_Word × Int → H → Prop} {s : Sl} {bs : List UInt8} (x : Arr cU8 h s bs) (k : K (ofF bs) h) : m_wide_Of s K h := by
  unfold m_wide_Of
  unfold ofF at k
  have hl := x.len
  refine w_if' (fun c => ?_) fun c => ?_
  · rw [if_pos (by omega), wordOf_zero] at k; exact k
  rw [if_neg (by omega)] at k
  refine w_for 8 (fun j st h' => h = h' ∧ st = ((j : Int), ((le ((bs.drop 8).take j) : Nat) : Int), ((le (bs.take j) : Nat) : Int))) ?_ ⟨rfl, rfl⟩
  rintro rec j _ _ hj ⟨rfl, rfl⟩ ih
  refine w_if' (fun c2 => ?_) fun c2 => ?_
  · simp only at c2 ⊢
    have hj' : j < 8 := by omega
    have m8 : iMul .i64 8 (j : Int) = ((8 * j : Nat) : Int) := by rw [iMul_eq (by omega) (by omega)]; omega
    have p8 : iAdd .i64 8 (j : Int) = ((8 + j : Nat) : Int) := by rw [iAdd_eq (by omega) (by omega)]; omega
    rw [m8, p8]
    have g1 : bs[j]? = some bs[j] := List.getElem?_eq_getElem (by omega)
    have g2 : bs[8 + j]? = some bs[8 + j] := List.getElem?_eq_getElem (by omega)
    refine w_get u8_len x g1 rfl (v' := ((bs[j].toNat : Nat) : Int)) rfl ?_
    refine w_nn (by omega) ?_
    refine w_get u8_len x g2 rfl (v' := ((bs[8 + j].toNat : Nat) : Int)) rfl ?_
    refine w_nn (by omega) ?_
    rw [iAdd_eq (by omega) (by omega)]
    have b1 := bs[j].toNat_lt
    have b2 := bs[8 + j].toNat_lt
    have sm : ∀ b : Nat, b < 2 ^ 8 → b * 2 ^ (8 * j) < 2 ^ 64 := fun b hb => by
      have e : 2 ^ 64 = 2 ^ (64 - 8 * j) * 2 ^ (8 * j) := by rw [← Nat.pow_add]; congr 1; omega
      rw [e]
      refine Nat.mul_lt_mul_of_pos_right (Nat.lt_of_lt_of_le hb (two_le (by omega))) (Nat.two_pow_pos _)
    have lt1 : ∀ l : List UInt8, le (l.take j) < 2 ^ 64 := fun l => Nat.lt_of_lt_of_le (le_lt _) (two_le (by rw [List.length_take]; omega))
    rw [u_wrap (n := bs[j].toNat) (by omega), u_wrap (n := bs[8 + j].toNat) (by omega), u_shl (by omega) (sm _ b1), u_shl (by omega) (sm _ b2), u_or (lt1 _) (sm _ b2), u_or (lt1 _) (sm _ b1)]
    refine ih _ _ hj' ⟨rfl, ?_⟩
    rw [le_take g1, le_take (bs := bs.drop 8) (b := bs[8 + j]) (by rw [List.getElem?_drop]; exact g2)]
    rfl
  · simp only at c2 ⊢
    have : j = 8 := by omega
    subst this
    have e : bs.take 16 = bs.take 8 ++ (bs.drop 8).take 8 := by
      rw [show 16 = 8 + 8 from rfl, List.take_add]
    rw [e, le_append, show (bs.take 8).length = 8 by rw [List.length_take]; omega] at k
    have l1 : le (bs.take 8) < 2 ^ 64 := Nat.lt_of_lt_of_le (le_lt _) (two_le (by rw [List.length_take]; omega))
    have := wordOf_val (hi := le ((bs.drop 8).take 8)) l1
    unfold valW at this
    rw [Nat.add_comm, this] at k
    exact k
theorem t_ROf {K : S_api_Word × Int → H → Prop} {s : Sl} {bs : List UInt8} (x : Arr cU8 h s bs) (k : K (ofF bs) h) : m_ref01_Of s K h := by
  unfold m_ref01_Of
  unfold ofF at k
  have hl := x.len
  refine w_if' (fun c => ?_) fun c => ?_
  · rw [if_pos (by omega), wordOf_zero] at k; exact k
  rw [if_neg (by omega)] at k
  generalize hN : le (bs.take 16) = N at k
  have hNlt : N < 2 ^ 128 := by
    rw [← hN]
    exact Nat.lt_of_lt_of_le (le_lt _) (two_le (by rw [List.length_take]; omega))
  refine w_for 128 (fun j st h' => h = h' ∧ st = ((j : Int), (wordOf (N % 2 ^ j)).Hi, (wordOf (N % 2 ^ j)).Lo)) ?_ ⟨rfl, by rw [Nat.pow_zero, Nat.mod_one]; rfl⟩
  rintro rec j _ _ hj ⟨rfl, rfl⟩ ih
  refine w_if' (fun c2 => ?_) fun c2 => ?_
  · simp only at c2 ⊢
    have hj' : j < 128 := by omega
    have q8 : iQuo .i64 (j : Int) 8 = ((j / 8 : Nat) : Int) := by
      show IntKind.i64.wrap ((j : Int).tdiv 8) = _
      rw [Int.tdiv_eq_ediv_of_nonneg (by omega), i64_eq (by omega) (by omega)]; omega
    have r8 : iRem .i64 (j : Int) 8 = ((j % 8 : Nat) : Int) := by
      show (j : Int).tmod 8 = _
      rw [Int.tmod_eq_emod_of_nonneg (by omega)]; omega
    have g : bs[j / 8]? = some bs[j / 8] := List.getElem?_eq_getElem (by omega)
    rw [q8, r8, u_wrap (by omega)]
    refine w_get u8_len x g rfl (v' := ((bs[j / 8].toNat : Nat) : Int)) rfl ?_
    refine w_nn (by omega) ?_
    have hb := bs[j / 8].toNat_lt
    have sh : iShr .u8 ((bs[j / 8].toNat : Nat) : Int) ((j % 8 : Nat) : Int) = ((bs[j / 8].toNat / 2 ^ (j % 8) : Nat) : Int) := by
      show ((bs[j / 8].toNat : Nat) : Int).fdiv (2 ^ (min ((j % 8 : Nat) : Int).toNat 8)) = _
      rw [Int.toNat_natCast, Nat.min_eq_left (by omega)]
      have : ((2 : Int) ^ (j % 8)) = ((2 ^ (j % 8) : Nat) : Int) := by simp
      rw [this, Int.fdiv_eq_ediv_of_nonneg _ (Int.natCast_nonneg _)]; rfl
    have rm : iRem .u8 ((bs[j / 8].toNat / 2 ^ (j % 8) : Nat) : Int) 2 = ((bs[j / 8].toNat / 2 ^ (j % 8) % 2 : Nat) : Int) := by
      unfold iRem
      rw [Int.tmod_eq_emod_of_nonneg (Int.natCast_nonneg _)]; rfl
    have bit : N.testBit j = decide (bs[j / 8].toNat / 2 ^ (j % 8) % 2 = 1) := by
      rw [← hN, le_bit, List.getElem?_take, if_pos (by omega), g, Option.getD_some, Nat.testBit_eq_decide_div_mod_eq]
    rw [sh, rm, iAdd_eq (by omega) (by omega)]
    refine w_if' (fun b => ?_) fun b => ?_
    · have b : N.testBit j = true := by rw [bit, decide_eq_true_eq]; omega
      rw [wordOf_eta]
      refine w_pure _ (fun _ _ q => p_RSet (mod_lt128 hNlt j) hj' q) ?_
      rw [set_mod b]
      exact ih _ _ hj' ⟨rfl, rfl⟩
    · have b : N.testBit j = false := by rw [bit, decide_eq_false_iff_not]; omega
      refine ih _ _ hj' ⟨rfl, ?_⟩
      rw [keep_mod b]; rfl
  · simp only at c2 ⊢
    have : j = 128 := by omega
    subst this
    rw [Nat.mod_eq_of_lt hNlt]; exact k
theorem t_RBytes {K : Sl → H → Prop} {n : Nat} (k : ∀ s h', Buf cU8 1 N_u8 h' s (bytesLE n) → Keeps h h' → (∀ b, s.foot b → h b = none) → K s h') : m_ref01_Bytes (wordOf n) K h := by
  unfold m_ref01_Bytes
  refine w_for 16 (fun j st h' => st.2 = (j : Int) ∧ Buf cU8 1 N_u8 h' st.1 ((List.range j).map (byteAt n)) ∧ Keeps h h' ∧ ∀ b, st.1.foot b → h b = none) ?_ ⟨rfl, Buf.nil, .refl _, fun b ⟨a, e, _⟩ => by cases e⟩
  rintro rec j ⟨s, i⟩ h1 hj ⟨hi, bu, k1, fr⟩ ih
  have hi : i = (j : Int) := hi
  subst hi
  refine w_if' (fun c => ?_) fun c => ?_
  · simp only at c ⊢
    have hj' : j < 16 := by omega
    refine w_for 8 (fun m st h' => h1 = h' ∧ st = (((n / 2 ^ (8 * j + (8 - m)) % 2 ^ m : Nat) : Int), (7 - m : Int))) ?_ ⟨rfl, by rw [Nat.pow_zero, Nat.mod_one]; rfl⟩
    rintro rec2 m _ _ hm ⟨rfl, rfl⟩ ih2
    refine w_if' (fun c2 => ?_) fun c2 => ?_
    · simp only at c2 ⊢
      have hm' : m < 8 := by omega
      have a1 : iAdd .i64 (iMul .i64 8 (j : Int)) (7 - (m : Int)) = ((8 * j + (7 - m) : Nat) : Int) := by
        rw [iMul_eq (by omega) (by omega), iAdd_eq (by omega) (by omega)]; omega
      rw [a1]
      refine w_pure _ (fun _ _ q => p_RBit (by omega) q) ?_
      have hlt : n / 2 ^ (8 * j + (8 - m)) % 2 ^ m < 2 ^ 8 := Nat.lt_of_lt_of_le (Nat.mod_lt _ (Nat.two_pow_pos m)) (two_le (by omega))
      have hb : (n.testBit (8 * j + (7 - m))).toNat ≤ 1 := by cases n.testBit (8 * j + (7 - m)) <;> decide
      rw [iMul_eq (by omega) (by omega), iAdd_eq (by omega) (by omega), iSub_eq (by omega) (by omega)]
      refine ih2 _ _ hm' ⟨rfl, ?_⟩
      have hh := half n (8 * j + (7 - m))
      have e1 : 8 * j + (7 - m) + 1 = 8 * j + (8 - m) := by omega
      rw [e1] at hh
      have e2 : n / 2 ^ (8 * j + (8 - (m + 1))) % 2 ^ (m + 1) = 2 * (n / 2 ^ (8 * j + (8 - m)) % 2 ^ m) + (n.testBit (8 * j + (7 - m))).toNat := by
        rw [show 8 - (m + 1) = 7 - m by omega, hh, show 2 ^ (m + 1) = 2 * 2 ^ m by rw [Nat.pow_succ]; omega, Nat.mod_mul]
        generalize n / 2 ^ (8 * j + (8 - m)) = q at *
        generalize (n.testBit (8 * j + (7 - m))).toNat = t at *
        have : (2 * q + t) / 2 = q := by omega
        rw [this]; omega
      rw [e2]
      ext1
      · show _ = _; omega
      · show _ = _; omega
    · simp only at c2 ⊢
      have : m = 8 := by omega
      subst this
      rw [u_wrap8, Nat.sub_self, Nat.add_zero, Nat.mod_mod]
      refine w_app u8_len rfl bu [byteAt n j] (by show _ = [Value.int .u8 _]; rw [byteAt_nat]) rfl (.inl (by simp; omega)) fun s' h2 bu2 b2 f2 _ => ?_
      rw [iAdd_eq (by omega) (by omega)]
      refine ih _ _ hj' ⟨rfl, ?_, k1.but b2 fr, fun b hb => (f2 b hb).elim (fr b) k1.fresh⟩
      rw [List.range_succ, List.map_append]; exact bu2
  · simp only at c ⊢
    have : j = 16 := by omega
    subst this
    exact k s h1 bu k1 fr
end
end Go.Proofs.Ytnmaknkbdfpbkaa.K
