/- Texts read as words: what the layer's function and the reference's come to. -/
import Derived.Test.YtnmaknkbdfpbkaaWd3
namespace Go.Proofs.Ytnmaknkbdfpbkaa.K
open Go

def hexv (b : UInt8) : Option Nat := if 48 ≤ b.toNat ∧ b.toNat ≤ 57 then some (b.toNat - 48) else if 97 ≤ b.toNat ∧ b.toNat ≤ 102 then some (b.toNat - 87) else none
theorem hexv_some {b : UInt8} {d : Nat} (h : hexv b = some d) : d < 16 ∧ hexd d = b := by
  have key : ∀ b : Fin 256, ∀ d, hexv (UInt8.ofNat b.val) = some d → d < 16 ∧ hexd d = UInt8.ofNat b.val := by
    have all : ∀ b : Fin 256, (match hexv (UInt8.ofNat b.val) with | some d => decide (d < 16) && decide (hexd d = UInt8.ofNat b.val) | none => true) = true := by decide +kernel
    intro b d h
    have := all b
    rw [h] at this
    simpa using this
  have := key ⟨b.toNat, b.toNat_lt⟩ d (by rw [UInt8.ofNat_toNat]; exact h)
  rw [UInt8.ofNat_toNat] at this
  exact this
def hexN : List UInt8 → Nat → Option Nat
  | [], a => some a
  | b :: r, a => match hexv b with | some d => hexN r (16 * a + d) | none => none
theorem hexN_spec : ∀ (bs : List UInt8) (a0 a : Nat), hexN bs a0 = some a → a / 2 ^ (4 * bs.length) = a0 ∧ ∀ i, i < bs.length → bs[i]? = some (hexd (nib a (bs.length - 1 - i))) := by
  intro bs
  induction bs with
  | nil => intro a0 a h; cases h; exact ⟨by simp, fun i hi => by simp at hi⟩
  | cons b r ih =>
    intro a0 a h
    simp only [hexN] at h
    split at h
    · rename_i d hd
      obtain ⟨h1, h2⟩ := ih _ _ h
      obtain ⟨hlt, hb⟩ := hexv_some hd
      refine ⟨?_, fun i hi => ?_⟩
      · rw [List.length_cons, show 4 * (r.length + 1) = 4 * r.length + 4 by omega, Nat.pow_add, ← Nat.div_div_eq_div_mul, h1]
        omega
      · cases i with
        | zero =>
          simp only [List.getElem?_cons_zero, List.length_cons]
          rw [show r.length + 1 - 1 - 0 = r.length by omega]
          unfold nib
          rw [h1, ← hb]
          congr 2; omega
        | succ i =>
          rw [List.getElem?_cons_succ, h2 i (by simpa using hi), List.length_cons]
          congr 3; omega
    · cases h
theorem hexN_lt {bs : List UInt8} {a : Nat} (h : hexN bs 0 = some a) : a < 2 ^ (4 * bs.length) := by
  have := (hexN_spec bs 0 a h).1
  rcases Nat.lt_or_ge a (2 ^ (4 * bs.length)) with q | q
  · exact q
  · have := Nat.div_pos q (Nat.two_pow_pos _); omega
/-- A number's digits are those that it was read from, but for zeros ahead. -/
theorem text_back {bs : List UInt8} {a : Nat} (h : hexN bs 0 = some a) (hl : 1 ≤ bs.length) : textOf a = bs ↔ ¬ (1 < bs.length ∧ bs[0]? = some 48) := by
  have hlt := hexN_lt h
  obtain ⟨_, hd⟩ := hexN_spec bs 0 a h
  have hsz := sz_min hl hlt
  have h0 := hd 0 hl
  rw [Nat.sub_zero] at h0
  have hz : bs[0]? = some 48 ↔ nib a (bs.length - 1) = 0 := by
    rw [h0, Option.some.injEq]
    exact hexd_zero (nib_lt _ _)
  rw [hz]
  constructor
  · intro e ⟨l, z⟩
    have hs : sz a = bs.length := by rw [← e, textOf_len]
    rw [← hs] at z l
    exact nib_top l z
  · intro hn
    have hs : sz a = bs.length := by
      rcases Nat.lt_or_ge (sz a) bs.length with q | q
      · exfalso
        have := sz_pos a
        refine hn ⟨by omega, nib_zero (by omega)⟩
      · omega
    apply List.ext_getElem?
    intro i
    rcases Nat.lt_or_ge i bs.length with q | q
    · rw [hd i q]
      unfold textOf
      rw [List.getElem?_map, hs, List.getElem?_range q]; rfl
    · rw [List.getElem?_eq_none q, List.getElem?_eq_none (by rw [textOf_len]; omega)]
/-- What reading a text comes to. -/
def parseF (bs : List UInt8) : S_api_Word × Int := if bs.length = 0 ∨ 32 < bs.length ∨ (1 < bs.length ∧ bs[0]? = some 48) then (wordOf 0, 22) else match hexN bs 0 with
  | some n => (wordOf n, 0)
  | none => (wordOf 0, 22)
theorem u_lt48 (b : UInt8) : (((b.toNat : Nat) : Int) = 48) ↔ b = 48 := by
  constructor
  · intro e; apply UInt8.toNat.inj; have : b.toNat = 48 := by omega
    rw [this]; rfl
  · intro e; rw [e]; rfl
theorem size_list (t : ByteArray) : t.size = t.data.toList.length := by simp
section
variable {h : H}
theorem p_kindOf {K : Int → H → Prop} {x : Int} (k : K (if 48 ≤ x ∧ x ≤ 57 then 1 else if 97 ≤ x ∧ x ≤ 102 then 2 else 0) h) : m_wide_kindOf x K h := by
  unfold m_wide_kindOf
  refine w_if (fun c => ?_) fun c => ?_
  · rw [Bool.and_eq_true, decide_eq_true_eq, decide_eq_true_eq] at c
    rw [if_pos c] at k; exact k
  · rw [Bool.and_eq_false_iff, decide_eq_false_iff_not, decide_eq_false_iff_not] at c
    rw [if_neg (by omega)] at k
    refine w_if (fun c2 => ?_) fun c2 => ?_
    · rw [Bool.and_eq_true, decide_eq_true_eq, decide_eq_true_eq] at c2
      rw [if_pos c2] at k; exact k
    · rw [Bool.and_eq_false_iff, decide_eq_false_iff_not, decide_eq_false_iff_not] at c2
      rw [if_neg (by omega)] at k; exact k
theorem data_nil (t : ByteArray) : (t.toList == (ByteArray.mk #[]).toList) = decide (t.data.toList.length = 0) := by
  rw [ByteArray.toList_eq, ByteArray.toList_eq, Bool.eq_iff_iff, beq_iff_eq, decide_eq_true_eq, List.length_eq_zero_iff]
theorem shl4 {a d : Nat} (ha : a < 2 ^ 124) (hd : d < 16) : (⟨iOr .u64 (iShl .u64 (wordOf a).Hi 4) (iShr .u64 (wordOf a).Lo 60), iOr .u64 (iShl .u64 (wordOf a).Lo 4) (d : Int)⟩ : S_api_Word) = wordOf (16 * a + d) := by
  have hhi : a / 2 ^ 64 < 2 ^ 60 := by omega
  have e1 : iShl .u64 (wordOf a).Hi 4 = ((a / 2 ^ 64 * 2 ^ 4 : Nat) : Int) := u_shl (n := 4) (by omega) (by omega)
  have e2 : iShr .u64 (wordOf a).Lo 60 = ((a % 2 ^ 64 / 2 ^ 60 : Nat) : Int) := u_shr (n := 60) (by omega)
  have e3 : iShl .u64 (wordOf a).Lo 4 = ((a % 2 ^ 60 * 2 ^ 4 : Nat) : Int) := by
    show IntKind.u64.wrap (((a % 2 ^ 64 : Nat) : Int) * 2 ^ (min (4 : Int).toNat 64)) = _
    rw [wrap_u64, show min (4 : Int).toNat 64 = 4 from rfl]
    omega
  have o1 : (a / 2 ^ 64 * 2 ^ 4) ||| (a % 2 ^ 64 / 2 ^ 60) = a / 2 ^ 64 * 2 ^ 4 + a % 2 ^ 64 / 2 ^ 60 := by
    have := Nat.two_pow_add_eq_or_of_lt (i := 4) (b := a % 2 ^ 64 / 2 ^ 60) (by omega) (a / 2 ^ 64)
    rw [Nat.mul_comm (a / 2 ^ 64), ← this]
  have o2 : (a % 2 ^ 60 * 2 ^ 4) ||| d = a % 2 ^ 60 * 2 ^ 4 + d := by
    have := Nat.two_pow_add_eq_or_of_lt (i := 4) (b := d) (by omega) (a % 2 ^ 60)
    rw [Nat.mul_comm (a % 2 ^ 60), ← this]
  rw [e1, e2, e3, u_or (by omega) (by omega), u_or (by omega) (by omega), o1, o2]
  unfold wordOf
  congr 1
  · show ((_ : Nat) : Int) = ((_ : Nat) : Int)
    congr 1; omega
  · show ((_ : Nat) : Int) = ((_ : Nat) : Int)
    congr 1; omega
theorem p_Parse {K : S_api_Word × Int → H → Prop} {t : ByteArray} (k : K (parseF t.data.toList) h) : m_wide_Parse t K h := by
  unfold m_wide_Parse
  have hs := size_list t
  rw [hs]
  generalize hbs : t.data.toList = bs at *
  refine w_joinP (fun b h' => h = h' ∧ b = decide (bs.length = 0 ∨ 32 < bs.length ∨ (1 < bs.length ∧ bs[0]? = some 48))) (fun rest hr => ?_) ?_
  · rw [data_nil, hbs]
    refine w_if (fun c => hr _ _ ⟨rfl, ?_⟩) fun c => ?_
    · rw [Bool.or_eq_true, decide_eq_true_eq, decide_eq_true_eq] at c
      rw [eq_comm, decide_eq_true_eq]; omega
    · rw [Bool.or_eq_false_iff, decide_eq_false_iff_not, decide_eq_false_iff_not] at c
      refine w_if' (fun c2 => ?_) fun c2 => ?_
      · have g : bs[0]? = some bs[0] := List.getElem?_eq_getElem (by omega)
        refine w_byte (n := 0) rfl (by rw [hbs]; exact g) (hr _ _ ⟨rfl, ?_⟩)
        rw [decide_eq_decide, u_lt48, g, Option.some.injEq]
        constructor
        · exact fun e => .inr (.inr ⟨by omega, e⟩)
        · rintro (q | q | ⟨_, q⟩)
          · omega
          · omega
          · exact q
      · refine hr _ _ ⟨rfl, ?_⟩
        rw [eq_comm, decide_eq_false_iff_not]; omega
  rintro _ _ ⟨rfl, rfl⟩
  unfold parseF at k
  refine w_if' (fun c => ?_) fun c => ?_
  · rw [if_pos c, wordOf_zero] at k; exact k
  rw [if_neg c] at k
  refine w_for bs.length (fun j st h' => h = h' ∧ ∃ a, st = ((j : Int), (wordOf a).Hi, (wordOf a).Lo) ∧ a < 2 ^ (4 * j) ∧ hexN bs 0 = hexN (bs.drop j) a) ?_ ⟨rfl, 0, rfl, by simp, rfl⟩
  rintro rec j _ _ hj ⟨rfl, a, rfl, ha, he⟩ ih
  refine w_if' (fun c2 => ?_) fun c2 => ?_
  · simp only at c2 ⊢
    have hj' : j < bs.length := by omega
    have g : t.data.toList[j]? = some bs[j] := by rw [hbs]; exact List.getElem?_eq_getElem hj'
    have ha2 : a < 2 ^ 124 := Nat.lt_of_lt_of_le ha (two_le (by omega))
    rw [List.drop_eq_getElem_cons hj'] at he
    simp only [hexN] at he
    have hb := bs[j].toNat_lt
    refine w_joinP (fun v h' => h = h' ∧ ∃ d : Nat, v = (d : Int) ∧ hexv bs[j] = some d) (fun rest hr => ?_) ?_
    · refine w_byte rfl g (w_pure _ (fun _ _ q => p_kindOf q) ?_)
      refine w_if' (fun c3 => ?_) fun c3 => ?_
      · have c3 : 48 ≤ bs[j].toNat ∧ bs[j].toNat ≤ 57 := by
          split at c3
          · omega
          · split at c3 <;> omega
        refine w_byte rfl g (hr _ _ ⟨rfl, bs[j].toNat - 48, ?_, by unfold hexv; rw [if_pos c3]⟩)
        rw [show iSub .u8 ((bs[j].toNat : Nat) : Int) 48 = ((bs[j].toNat - 48 : Nat) : Int) from by
          show IntKind.u8.wrap _ = _
          rw [u_wrap8' (n := bs[j].toNat - 48) (by omega)]; omega, u_wrap (by omega)]
      · refine w_if' (fun c4 => ?_) fun c4 => ?_
        · have c4 : 97 ≤ bs[j].toNat ∧ bs[j].toNat ≤ 102 := by
            split at c4
            · omega
            · split at c4 <;> omega
          refine w_byte rfl g (hr _ _ ⟨rfl, bs[j].toNat - 87, ?_, by unfold hexv; rw [if_neg (by omega), if_pos c4]⟩)
          rw [show iSub .u8 ((bs[j].toNat : Nat) : Int) 97 = ((bs[j].toNat - 97 : Nat) : Int) from by
            show IntKind.u8.wrap _ = _
            rw [u_wrap8' (n := bs[j].toNat - 97) (by omega)]; omega, u_wrap (by omega)]
          show IntKind.u64.wrap (((bs[j].toNat - 97 : Nat) : Int) + 10) = _
          rw [wrap_u64]; omega
        · have : hexv bs[j] = none := by
            unfold hexv
            rw [if_neg (fun q => c3 (by rw [if_pos (by omega)])), if_neg (fun q => c4 (by rw [if_neg (by omega), if_pos (by omega)]))]
          rw [this] at he
          rw [he, wordOf_zero] at k; exact k
    rintro _ _ ⟨rfl, d, rfl, hd⟩
    obtain ⟨hlt, _⟩ := hexv_some hd
    rw [hd] at he
    rw [iAdd_eq (by omega) (by omega)]
    refine ih _ _ hj' ⟨rfl, 16 * a + d, ?_, ?_, he⟩
    · rw [← shl4 ha2 hlt]; rfl
    · have : 2 ^ (4 * (j + 1)) = 16 * 2 ^ (4 * j) := by rw [show 4 * (j + 1) = 4 + 4 * j by omega, Nat.pow_add]
      omega
  · simp only at c2 ⊢
    have : j = bs.length := by omega
    subst this
    rw [List.drop_length] at he
    rw [he] at k
    exact k
theorem or_two {x i : Nat} (hb : x.testBit i = false) : x ||| 2 ^ i = x + 2 ^ i := by
  have hp := Nat.two_pow_pos i
  have h1 := mod_succ x i
  rw [hb] at h1
  have hr : x % 2 ^ (i + 1) < 2 ^ i := by rw [h1]; exact Nat.mod_lt _ hp
  have hx := Nat.div_add_mod x (2 ^ (i + 1))
  have e1 := Nat.two_pow_add_eq_or_of_lt (i := i + 1) (b := x % 2 ^ (i + 1)) (Nat.mod_lt _ (Nat.two_pow_pos _)) (x / 2 ^ (i + 1))
  have hs : 2 ^ (i + 1) = 2 * 2 ^ i := by rw [Nat.pow_succ]; omega
  have e2 := Nat.two_pow_add_eq_or_of_lt (i := i + 1) (b := x % 2 ^ (i + 1) + 2 ^ i) (by omega) (x / 2 ^ (i + 1))
  conv => lhs; rw [← hx, e1, Nat.or_assoc, or_pow hr, ← e2]
  omega
theorem p_RParse {K : S_api_Word × Int → H → Prop} {t : ByteArray} (k : K (parseF t.data.toList) h) : m_ref01_Parse t K h := by
  unfold m_ref01_Parse
  have hs := size_list t
  rw [hs]
  generalize hbs : t.data.toList = bs at *
  refine w_if (fun c => ?_) fun c => ?_
  · rw [Bool.or_eq_true, decide_eq_true_eq, decide_eq_true_eq] at c
    unfold parseF at k
    rw [if_pos (by omega), wordOf_zero] at k; exact k
  rw [Bool.or_eq_false_iff, decide_eq_false_iff_not, decide_eq_false_iff_not] at c
  have badF : hexN bs 0 = none → K (⟨0, 0⟩, 22) h := fun e => by
    unfold parseF at k
    rw [e] at k
    simp only [ite_self] at k
    rw [← wordOf_zero]; exact k
  refine w_for bs.length (fun j st h' => h = h' ∧ ∃ a, st = ((j : Int), (wordOf (a * 2 ^ (4 * (bs.length - j)))).Hi, (wordOf (a * 2 ^ (4 * (bs.length - j)))).Lo) ∧ a < 2 ^ (4 * j) ∧ hexN bs 0 = hexN (bs.drop j) a) ?_ ⟨rfl, 0, by rw [Nat.zero_mul]; rfl, by simp, rfl⟩
  rintro rec j _ _ hj ⟨rfl, a, rfl, ha, he⟩ ih
  refine w_if' (fun c2 => ?_) fun c2 => ?_
  · simp only at c2 ⊢
    have hj' : j < bs.length := by omega
    have g : t.data.toList[j]? = some bs[j] := by rw [hbs]; exact List.getElem?_eq_getElem hj'
    rw [List.drop_eq_getElem_cons hj'] at he
    simp only [hexN] at he
    have hb := bs[j].toNat_lt
    refine w_joinP (fun v h' => h = h' ∧ ∃ d : Nat, v = (d : Int) ∧ hexv bs[j] = some d) (fun rest hr => ?_) ?_
    · refine w_byte rfl g ?_
      refine w_joinP (fun b h' => h = h' ∧ b = decide (48 ≤ bs[j].toNat ∧ bs[j].toNat ≤ 57)) (fun rest2 hr2 => ?_) ?_
      · refine w_if' (fun c3 => w_byte rfl g (hr2 _ _ ⟨rfl, by rw [decide_eq_decide]; omega⟩)) fun c3 => hr2 _ _ ⟨rfl, by rw [eq_comm, decide_eq_false_iff_not]; omega⟩
      rintro _ _ ⟨rfl, rfl⟩
      refine w_if' (fun c3 => ?_) fun c3 => ?_
      · refine w_byte rfl g (hr _ _ ⟨rfl, bs[j].toNat - 48, ?_, by unfold hexv; rw [if_pos c3]⟩)
        rw [show iSub .u8 ((bs[j].toNat : Nat) : Int) 48 = ((bs[j].toNat - 48 : Nat) : Int) from by
          show IntKind.u8.wrap _ = _
          rw [u_wrap8' (n := bs[j].toNat - 48) (by omega)]; omega, i64_eq (by omega) (by omega)]
      · refine w_byte rfl g ?_
        refine w_joinP (fun b h' => h = h' ∧ b = decide (97 ≤ bs[j].toNat ∧ bs[j].toNat ≤ 102)) (fun rest2 hr2 => ?_) ?_
        · refine w_if' (fun c4 => w_byte rfl g (hr2 _ _ ⟨rfl, by rw [decide_eq_decide]; omega⟩)) fun c4 => hr2 _ _ ⟨rfl, by rw [eq_comm, decide_eq_false_iff_not]; omega⟩
        rintro _ _ ⟨rfl, rfl⟩
        refine w_if' (fun c4 => ?_) fun c4 => ?_
        · refine w_byte rfl g (hr _ _ ⟨rfl, bs[j].toNat - 87, ?_, by unfold hexv; rw [if_neg (by omega), if_pos c4]⟩)
          rw [show iSub .u8 ((bs[j].toNat : Nat) : Int) 97 = ((bs[j].toNat - 97 : Nat) : Int) from by
            show IntKind.u8.wrap _ = _
            rw [u_wrap8' (n := bs[j].toNat - 97) (by omega)]; omega, i64_eq (by omega) (by omega), iAdd_eq (by omega) (by omega)]
          omega
        · have : hexv bs[j] = none := by unfold hexv; rw [if_neg c3, if_neg c4]
          rw [this] at he
          exact badF he
    rintro _ _ ⟨rfl, d, rfl, hd⟩
    obtain ⟨hlt, _⟩ := hexv_some hd
    rw [hd] at he
    have at_ : iMul .i64 4 (iSub .i64 (iSub .i64 ((bs.length : Nat) : Int) 1) (j : Int)) = ((4 * (bs.length - (j + 1)) : Nat) : Int) := by
      rw [iSub_eq (a := ((bs.length : Nat) : Int)) (by omega) (by omega), iSub_eq (by omega) (by omega), iMul_eq (by omega) (by omega)]; omega
    generalize hm : bs.length - (j + 1) = m at *
    have hjm : bs.length - j = m + 1 := by omega
    have hW : a * 2 ^ (4 * (bs.length - j)) = 16 * a * 2 ^ (4 * m) := by
      rw [hjm, show 4 * (m + 1) = 4 + 4 * m by omega, Nat.pow_add, show (2 : Nat) ^ 4 = 16 from rfl, Nat.mul_comm 16 a, Nat.mul_assoc]
    rw [hW]
    have hbound : (16 * a + 15) * 2 ^ (4 * m) < 2 ^ 128 := by
      have h1 : 16 * a + 16 ≤ 2 ^ (4 * (j + 1)) := by
        have : 2 ^ (4 * (j + 1)) = 16 * 2 ^ (4 * j) := by rw [show 4 * (j + 1) = 4 + 4 * j by omega, Nat.pow_add]
        omega
      have h2 : (16 * a + 15) * 2 ^ (4 * m) < 2 ^ (4 * (j + 1)) * 2 ^ (4 * m) := Nat.mul_lt_mul_of_pos_right (by omega) (Nat.two_pow_pos _)
      rw [← Nat.pow_add] at h2
      exact Nat.lt_of_lt_of_le h2 (two_le (by omega))
    have small : ∀ x, x < 16 → (16 * a + x) * 2 ^ (4 * m) < 2 ^ 128 := fun x hx => Nat.lt_of_le_of_lt (Nat.mul_le_mul_right _ (by omega)) hbound
    refine w_for 4 (fun q st h' => h = h' ∧ st = ((q : Int), (wordOf ((16 * a + d % 2 ^ q) * 2 ^ (4 * m))).Hi, (wordOf ((16 * a + d % 2 ^ q) * 2 ^ (4 * m))).Lo)) ?_ ⟨rfl, by rw [Nat.pow_zero, Nat.mod_one]; rfl⟩
    rintro rec2 q _ _ hq ⟨rfl, rfl⟩ ih2
    refine w_if' (fun c5 => ?_) fun c5 => ?_
    · simp only at c5 ⊢
      have hq' : q < 4 := by omega
      rw [u_wrap (by omega)]
      refine w_nn (by omega) ?_
      have sh : iShr .i64 (d : Int) (q : Int) = ((d / 2 ^ q : Nat) : Int) := by
        show (d : Int).fdiv (2 ^ (min (q : Int).toNat 64)) = _
        rw [Int.toNat_natCast, Nat.min_eq_left (by omega)]
        have : ((2 : Int) ^ q) = ((2 ^ q : Nat) : Int) := by simp
        rw [this, Int.fdiv_eq_ediv_of_nonneg _ (Int.natCast_nonneg _)]; rfl
      have rm : iRem .i64 ((d / 2 ^ q : Nat) : Int) 2 = ((d / 2 ^ q % 2 : Nat) : Int) := by
        unfold iRem
        rw [Int.tmod_eq_emod_of_nonneg (Int.natCast_nonneg _)]; rfl
      have hms := mod_succ d q
      have hdq : d % 2 ^ q < 2 ^ q := Nat.mod_lt _ (Nat.two_pow_pos q)
      have hd16 : d % 2 ^ q < 16 := Nat.lt_of_le_of_lt (Nat.mod_le _ _) hlt
      rw [sh, rm, iAdd_eq (a := (q : Int)) (by omega) (by omega)]
      refine w_if' (fun b => ?_) fun b => ?_
      · have b : d.testBit q = true := by rw [Nat.testBit_eq_decide_div_mod_eq, decide_eq_true_eq]; omega
        rw [b, if_pos rfl] at hms
        rw [at_, iAdd_eq (by omega) (by omega), show ((4 * m : Nat) : Int) + (q : Int) = ((4 * m + q : Nat) : Int) by omega, wordOf_eta]
        refine w_pure _ (fun _ _ z => p_RSet (small _ hd16) (by omega) z) ?_
        refine ih2 _ _ hq' ⟨rfl, ?_⟩
        have bit0 : ((16 * a + d % 2 ^ q) * 2 ^ (4 * m)).testBit (4 * m + q) = false := by
          rw [Nat.testBit_mul_two_pow, decide_eq_true (by omega), Bool.true_and, Nat.add_sub_cancel_left]
          have : 16 * a + d % 2 ^ q = 2 ^ 4 * a + d % 2 ^ q := rfl
          rw [this, Nat.testBit_two_pow_mul_add a (Nat.lt_of_lt_of_le hdq (two_le (by omega))), if_pos hq']
          exact Nat.testBit_lt_two_pow hdq
        rw [or_two bit0, hms, Nat.pow_add, show (16 * a + (d % 2 ^ q + 2 ^ q)) = (16 * a + d % 2 ^ q) + 2 ^ q by omega, Nat.add_mul (16 * a + d % 2 ^ q), Nat.mul_comm (2 ^ q)]
        rfl
      · have b : d.testBit q = false := by rw [Nat.testBit_eq_decide_div_mod_eq, decide_eq_false_iff_not]; omega
        rw [b] at hms
        refine ih2 _ _ hq' ⟨rfl, ?_⟩
        rw [hms]; rfl
    · simp only at c5 ⊢
      have : q = 4 := by omega
      subst this
      rw [Nat.mod_eq_of_lt hlt, iAdd_eq (by omega) (by omega)]
      refine ih _ _ hj' ⟨rfl, 16 * a + d, rfl, ?_, he⟩
      have : 2 ^ (4 * (j + 1)) = 16 * 2 ^ (4 * j) := by rw [show 4 * (j + 1) = 4 + 4 * j by omega, Nat.pow_add]
      omega
  · simp only at c2 ⊢
    have : j = bs.length := by omega
    subst this
    rw [List.drop_length] at he
    have he : hexN bs 0 = some a := he
    rw [Nat.sub_self, Nat.mul_zero, Nat.pow_zero, Nat.mul_one, wordOf_eta]
    have ha2 : a < 2 ^ 128 := Nat.lt_of_lt_of_le ha (two_le (by omega))
    refine w_pure _ (fun _ _ z => p_RText ha2 z) ?_
    have tb := text_back he (by omega)
    have e1 : ((⟨(textOf a).toArray⟩ : ByteArray).toList == t.toList) = decide (textOf a = bs) := by
      rw [ByteArray.toList_mk, ByteArray.toList_eq, hbs, Bool.eq_iff_iff]; simp
    rw [e1]
    unfold parseF at k
    rw [he] at k
    refine w_if (fun c3 => ?_) fun c3 => ?_
    · have c3 : ¬ textOf a = bs := by simpa using c3
      rw [tb, Classical.not_not] at c3
      rw [if_pos (.inr (.inr c3)), wordOf_zero] at k
      exact k
    · have c3 : textOf a = bs := by simpa using c3
      have c3 := tb.1 c3
      rw [if_neg (by rintro (q | q | q); · omega
                     · omega
                     · exact c3 q)] at k
      exact k
end
end Go.Proofs.Ytnmaknkbdfpbkaa.K
