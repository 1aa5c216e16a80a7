/- WideBack: what is told comes back. -/
import Derived.Test.YtnmaknkbdfpbkaaL01
namespace Go.Proofs.Ytnmaknkbdfpbkaa.K
open Go

theorem hexv_hexd {d : Nat} (h : d < 16) : hexv (hexd d) = some d := by
  have : ∀ v : Fin 16, hexv (hexd v.val) = some v.val := by decide
  exact this ⟨d, h⟩
def digits (n a : Nat) : List UInt8 := (List.range n).map fun i => hexd (nib a (n - 1 - i))
theorem digits_succ (n a : Nat) : digits (n + 1) a = hexd (nib a n) :: digits n a := by
  unfold digits
  rw [List.range_succ_eq_map, List.map_cons, List.map_map]
  congr 1
  apply List.map_congr_left
  intro i hi
  have := List.mem_range.1 hi
  show hexd (nib a (n + 1 - 1 - (i + 1))) = _
  rw [show n + 1 - 1 - (i + 1) = n - 1 - i by omega]
theorem hexN_digits (a : Nat) : ∀ n acc, hexN (digits n a) acc = some (acc * 16 ^ n + a % 16 ^ n) := by
  intro n
  induction n with
  | zero => intro acc; simp [digits, hexN, Nat.mod_one]
  | succ n ih =>
    intro acc
    rw [digits_succ, hexN, hexv_hexd (nib_lt _ _)]
    simp only
    rw [ih, Option.some.injEq, Nat.pow_succ, Nat.mod_mul, nib, show 2 ^ (4 * n) = 16 ^ n from by rw [Nat.pow_mul], Nat.add_mul, ← Nat.mul_assoc]
    rw [show 16 * acc * 16 ^ n = acc * 16 ^ n * 16 from by rw [Nat.mul_comm 16, Nat.mul_right_comm], Nat.mul_comm (a / 16 ^ n % 16)]
    omega
theorem parse_text {a : Nat} (ha : a < 2 ^ 128) : parseF (textOf a) = (wordOf a, 0) := by
  have hx : hexN (textOf a) 0 = some a := by
    show hexN (digits (sz a) a) 0 = _
    rw [hexN_digits, Nat.zero_mul, Nat.zero_add, show 16 ^ sz a = 2 ^ (4 * sz a) from by rw [Nat.pow_mul], Nat.mod_eq_of_lt (sz_lt a)]
  have hl := textOf_len a
  have h1 := sz_pos a
  have h2 : sz a ≤ 32 := sz_min (by decide) ha
  have h3 := (text_back hx (by omega)).1 rfl
  unfold parseF
  rw [if_neg (fun q => by rcases q with q | q | q <;> first | omega | exact h3 q), hx]
theorem le_byte : ∀ (l : List UInt8) (i : Nat), le l / 2 ^ (8 * i) % 256 = ((l[i]?).getD 0).toNat := by
  intro l
  induction l with
  | nil => intro i; simp [le]
  | cons b r ih =>
    intro i
    have hb := b.toNat_lt
    cases i with
    | zero => simp [le]
    | succ i =>
      rw [le, show 8 * (i + 1) = 8 + 8 * i by omega, Nat.pow_add, ← Nat.div_div_eq_div_mul, show (b.toNat + 256 * le r) / 2 ^ 8 = le r by omega, ih]
      rfl
theorem bytes_le {l : List UInt8} (h : l.length = 16) : bytesLE (le l) = l := by
  apply List.ext_getElem?
  intro i
  unfold bytesLE
  rw [List.getElem?_map]
  rcases Nat.lt_or_ge i 16 with q | q
  · rw [List.getElem?_range q, Option.map_some, List.getElem?_eq_getElem (by omega), Option.some.injEq]
    apply UInt8.toNat.inj
    rw [byteAt_nat, le_byte, List.getElem?_eq_getElem (by omega)]; rfl
  · rw [List.getElem?_eq_none (by simp; omega), List.getElem?_eq_none (by omega)]; rfl
def shape (bs : List UInt8) : Bool := decide (¬ (bs.length = 0 ∨ 32 < bs.length ∨ (1 < bs.length ∧ bs[0]? = some 48)))
def small (b : UInt8) : Bool := (hexv b).isSome
theorem hexN_some : ∀ (bs : List UInt8) (a : Nat), (hexN bs a).isSome = bs.all small := by
  intro bs
  induction bs with
  | nil => intro a; rfl
  | cons b r ih =>
    intro a
    rw [hexN, List.all_cons, small]
    cases hexv b with
    | none => rfl
    | some d => simp only [Option.isSome_some, Bool.true_and]; exact ih _
theorem parseF_eq (bs : List UInt8) : parseF bs = if shape bs && bs.all small then (match hexN bs 0 with | some n => ((wordOf n, 0) : S_api_Word × Int) | none => (wordOf 0, 22)) else (wordOf 0, 22) := by
  unfold parseF shape
  by_cases c : bs.length = 0 ∨ 32 < bs.length ∨ (1 < bs.length ∧ bs[0]? = some 48)
  · rw [if_pos c, decide_eq_false (fun q => q c), if_neg (by simp)]
  · rw [if_neg c, decide_eq_true c, Bool.true_and, ← hexN_some bs 0]
    cases hexN bs 0 <;> rfl
section
variable {h : H}
theorem t_WideBack {K : Bool → H → Prop} {a : Nat} {s : Sl} {bs : List UInt8} {t : ByteArray} (ha : a < 2 ^ 128) (x : Arr cU8 h s bs) (hb : 2 * (16 + bs.length) + 192 ≤ 2 ^ 48) (ht : t.size ≤ 9223372036854775807) (k : ∀ h', Keeps h h' → K true h') : m_law01_WideBack (wordOf a) s t K h := by
  unfold m_law01_WideBack
  refine t_Bytes fun s1 h1 bu1 k1 f1 c1 => ?_
  refine w_append u8_len u8_plain rfl bu1 (x.keep k1) (.inl (by rw [bytesLE_len]; omega)) fun s2 h2 bu2 b2 g2 _ => ?_
  have k2 : Keeps h h2 := k1.but b2 f1
  refine t_Of bu2.arr ?_
  have o1 : ofF (bytesLE a ++ bs) = (wordOf a, 0) := by
    unfold ofF
    rw [if_neg (by rw [List.length_append, bytesLE_len]; omega), List.take_left' (bytesLE_len a), le_bytesLE ha]
  rw [o1]
  refine t_Text ha fun h3 k3 => ?_
  refine w_pure _ (fun _ _ q => p_Parse q) ?_
  rw [show (⟨(textOf a).toArray⟩ : ByteArray).data.toList = textOf a from rfl, parse_text ha]
  refine t_known01 fun h4 k4 => ?_
  have k4 := (k2.trans k3).trans k4
  have hl1 := bu1.arr.len
  rw [bytesLE_len] at hl1
  refine w_ifF (by simp; omega) ?_
  refine t_Of (x.keep k4) ?_
  have hlx := x.len
  refine w_joinP (fun s h' => s = false ∧ Keeps h h') (fun rest hr => ?_) ?_
  · rcases Nat.lt_or_ge bs.length 16 with q | q
    · have o2 : ofF bs = (wordOf 0, 17) := by unfold ofF; rw [if_pos q]
      rw [o2]
      refine w_ifF ?_ (w_ifF rfl (hr _ _ ⟨rfl, k4⟩))
      rw [decide_eq_false (by omega), decide_eq_false (by omega)]; rfl
    · have o2 : ofF bs = (wordOf (le (bs.take 16)), 0) := by unfold ofF; rw [if_neg (by omega)]
      have hl : (bs.take 16).length = 16 := by rw [List.length_take]; omega
      rw [o2]
      refine w_ifF ?_ (w_ifT rfl ?_)
      · rw [decide_eq_true rfl, decide_eq_true (by omega)]; rfl
      refine w_take (x.keep k4) q rfl rfl fun s' ar' _ _ => ?_
      refine w_joinP (fun s h' => s.2 = ⟨(bs.take 16).toArray⟩ ∧ Arr cU8 h' s.1 (bs.take 16) ∧ Keeps h h') (fun rest hr => ?_) ?_
      · refine w_both ?_ ?_
        · refine t_Bytes fun s5 h5 bu5 k5 _ _ => w_text (ar'.keep k5) (hr _ _ ⟨rfl, ?_, k4.trans k5⟩)
          have := bu5.arr
          rw [bytes_le hl] at this; exact this
        · refine w_text ar' (t_Bytes fun s5 h5 bu5 k5 _ _ => hr _ _ ⟨rfl, ?_, k4.trans k5⟩)
          have := bu5.arr
          rw [bytes_le hl] at this; exact this
      · rintro ⟨s5, t5⟩ h5 ⟨e, ar, k5⟩
        have e : t5 = _ := e
        subst e
        refine w_text ar (hr _ _ ⟨?_, k5⟩)
        simp
  rintro _ h5 ⟨rfl, k5⟩
  refine w_ifF ?_ ?_
  · unfold ofF
    split
    · rfl
    · rfl
  have hsz := size_list t
  generalize hts : t.data.toList = ts at hsz
  refine w_joinV (shape ts) (fun j hj => ?_) ?_
  · refine w_if (fun c => ?_) fun c => ?_
    · rw [Bool.and_eq_true, decide_eq_true_eq, decide_eq_true_eq] at c
      obtain ⟨b, e⟩ : ∃ b, ts[0]? = some b := ⟨_, List.getElem?_eq_getElem (by omega)⟩
      refine w_byte (n := 0) rfl (by rw [hts]; exact e) ?_
      have : ((!decide (((b.toNat : Nat) : Int) = 48)) || (decide ((t.size : Int) = 1))) = shape ts := by
        rw [Bool.eq_iff_iff, shape, e]
        simp only [Bool.or_eq_true, Bool.not_eq_true', decide_eq_false_iff_not, decide_eq_true_eq, u_lt48, Option.some.injEq]
        constructor
        · rintro (q | q) (w | w | w) <;> first | omega | exact q w.2
        · intro q
          by_cases z : b = 48
          · exact .inr (by
              have : ¬ 1 < ts.length := fun l => q (.inr (.inr ⟨l, z⟩))
              omega)
          · exact .inl z
      rw [this]; exact hj
    · have : shape ts = false := by
        unfold shape
        rw [decide_eq_false_iff_not, Classical.not_not]
        rw [Bool.and_eq_false_iff, decide_eq_false_iff_not, decide_eq_false_iff_not] at c
        omega
      rw [this] at hj; exact hj
  refine w_for ts.length (fun j s h' => h' = h5 ∧ s.1 = (shape ts && (ts.take j).all small) ∧ s.2 = (j : Int)) ?_ ⟨rfl, by simp, rfl⟩
  rintro rec j ⟨g, i⟩ h' hj ⟨rfl, hg, hi⟩ more
  have hg : g = _ := hg
  have hi : i = (j : Int) := hi
  subst hg; subst hi
  refine w_if' (fun c => ?_) fun c => ?_
  · have c : (j : Int) < (t.size : Int) := c
    have hlt : j < ts.length := by omega
    obtain ⟨b, e⟩ : ∃ b, ts[j]? = some b := ⟨_, List.getElem?_eq_getElem hlt⟩
    have et : ts.take (j + 1) = ts.take j ++ [b] := by rw [List.take_add_one, e]; rfl
    have nx : ∀ g, g = (shape ts && (ts.take (j + 1)).all small) → rec (g, iAdd .i64 (j : Int) 1) h' := fun g eg =>
      more _ _ hlt ⟨rfl, eg, by
        show iAdd .i64 (j : Int) 1 = _
        rw [iAdd_eq (by omega) (by omega)]; omega⟩
    rw [et, List.all_append, List.all_cons, List.all_nil, Bool.and_true] at nx
    refine w_if (fun g => ?_) fun g => ?_
    · have g : (shape ts && (ts.take j).all small) = true := g
      rw [← Bool.and_assoc, g, Bool.true_and] at nx
      refine w_byte rfl (by rw [hts]; exact e) ?_
      have hb := b.toNat_lt
      refine w_joinV (decide (48 ≤ b.toNat ∧ b.toNat ≤ 57)) (fun j hj => ?_) ?_
      · refine w_if' (fun c1 => w_byte rfl (by rw [hts]; exact e) ?_) fun c1 => ?_
        · have : decide (48 ≤ b.toNat ∧ b.toNat ≤ 57) = decide ((b.toNat : Int) ≤ 57) := by rw [decide_eq_decide]; omega
          rw [this] at hj; exact hj
        · rw [decide_eq_false (by omega)] at hj; exact hj
      refine w_if (fun c1 => nx _ ?_) fun c1 => w_byte rfl (by rw [hts]; exact e) (w_if' (fun c2 => w_byte rfl (by rw [hts]; exact e) (nx _ ?_)) fun c2 => nx _ ?_)
      · unfold small hexv; rw [if_pos (of_decide_eq_true c1)]; rfl
      · unfold small hexv
        rw [if_neg (of_decide_eq_false c1)]
        split
        · rw [decide_eq_true (by omega)]; rfl
        · rw [decide_eq_false (by omega)]; rfl
      · unfold small hexv
        rw [if_neg (of_decide_eq_false c1), if_neg (by omega)]; rfl
    · have g : (shape ts && (ts.take j).all small) = false := g
      rw [← Bool.and_assoc, g, Bool.false_and] at nx
      exact nx _ rfl
  · have c : ¬ (j : Int) < (t.size : Int) := c
    have hj : j = ts.length := by omega
    subst hj
    rw [List.take_length]
    refine w_pure _ (fun _ _ q => p_Parse q) ?_
    rw [hts, parseF_eq]
    cases hs : (shape ts && ts.all small) with
    | false =>
      refine w_ifT rfl ?_
      exact k _ k5
    | true =>
      refine w_ifF rfl ?_
      rw [if_pos rfl]
      rw [Bool.and_eq_true] at hs
      have hsome := hexN_some ts 0
      rw [hs.2] at hsome
      obtain ⟨n, hn⟩ := Option.isSome_iff_exists.1 hsome
      rw [hn]
      have hsh := of_decide_eq_true hs.1
      have hlt : n < 2 ^ 128 := Nat.lt_of_lt_of_le (hexN_lt hn) (two_le (by omega))
      refine w_ifT rfl (t_Text hlt fun h6 k6 => ?_)
      have e := (text_back hn (by omega)).2 (fun q => hsh (.inr (.inr q)))
      rw [e, ← hts]
      have : ((⟨t.data.toList.toArray⟩ : ByteArray).toList == t.toList) = true := by simp
      rw [this]
      exact k _ (k5.trans k6)
end
end Go.Proofs.Ytnmaknkbdfpbkaa.K
