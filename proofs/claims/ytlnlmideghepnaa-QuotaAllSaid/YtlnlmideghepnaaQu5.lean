/- QuotaAll: two quotas in turn, beside the document's. -/
import Derived.Test.YtlnlmideghepnaaQu4
import Derived.Test.YtlnlmideghepnaaL6
namespace Go.Proofs.Ytlnlmideghepnaa.K
open Go
/-- The first so many of a number are taken out. -/
def dropN (k : Int) : List Int → Int → List Int
  | [], _ => []
  | x :: r, n => if x = k ∧ 0 < n then dropN k r (n - 1) else x :: dropN k r n
theorem dropN_len (k : Int) : ∀ (L : List Int) (n : Int), (dropN k L n).length ≤ L.length := by
  intro L
  induction L with
  | nil => intro n; exact Nat.le_refl _
  | cons x r ih =>
    intro n
    unfold dropN
    split
    · have := ih (n - 1); simp; omega
    · have := ih n; simp; omega
theorem cnt_cons (x : Int) (t : List Int) (k : Int) : (((x :: t).count k : Nat) : Int) = (t.count k : Int) + (if x = k then 1 else 0) := by
  rw [List.count_cons]
  by_cases q : x = k
  · rw [if_pos q, if_pos (by simpa using q)]; simp
  · rw [if_neg q, if_neg (by simpa using q)]; simp
theorem dropN_count (k : Int) : ∀ (L : List Int) (n : Int), 0 ≤ n → n ≤ (L.count k : Int) → (∀ k', ((dropN k L n).count k' : Int) = if k' = k then (L.count k : Int) - n else (L.count k' : Int)) ∧ ((dropN k L n).length : Int) = (L.length : Int) - n := by
  intro L
  induction L with
  | nil =>
    intro n h0 h1
    have : n = 0 := by simp at h1; omega
    subst this
    refine ⟨fun k' => ?_, rfl⟩
    split <;> simp [dropN]
  | cons x r ih =>
    intro n h0 h1
    rw [cnt_cons] at h1
    unfold dropN
    by_cases c : x = k ∧ 0 < n
    · rw [if_pos c]
      rw [if_pos c.1] at h1
      obtain ⟨a, b⟩ := ih (n - 1) (by omega) (by omega)
      refine ⟨fun k' => ?_, by rw [b, List.length_cons]; omega⟩
      rw [a, cnt_cons, cnt_cons, if_pos c.1]
      by_cases e : k' = k
      · rw [if_pos e, if_pos e]; omega
      · rw [if_neg e, if_neg e, if_neg (fun z => e (z.symm.trans c.1))]; omega
    · rw [if_neg c]
      have hn : n ≤ (r.count k : Int) := by
        by_cases e : x = k
        · have : ¬ 0 < n := fun z => c ⟨e, z⟩
          omega
        · rw [if_neg e] at h1; omega
      obtain ⟨a, b⟩ := ih n h0 hn
      refine ⟨fun k' => ?_, by rw [List.length_cons, List.length_cons]; omega⟩
      rw [cnt_cons, cnt_cons, cnt_cons, a]
      by_cases e : k' = k
      · rw [if_pos e, if_pos e, e]; omega
      · rw [if_neg e, if_neg e]
def rsubOk (L : List Int) (k n : Int) : Bool := decide (0 ≤ n) && decide (n ≤ (L.count k : Int))
theorem RelQ.subOk {l : List (Int × Int)} {L : List Int} (x : RelQ l L) (k n : Int) : subOk l k n = rsubOk L k n := by
  unfold K.subOk rsubOk
  rw [x.1 k]
theorem RelQ.sub {l : List (Int × Int)} {L : List Int} (x : RelQ l L) (ho : Once l) (k n : Int) : RelQ (subL l k n) (if rsubOk L k n = true then dropN k L n else L) := by
  cases e : rsubOk L k n with
  | false =>
    have : subL l k n = l := by unfold subL; rw [x.subOk, e]; rfl
    rw [this]; exact x
  | true =>
    have e' : K.subOk l k n = true := by rw [x.subOk, e]
    obtain ⟨h1, h2⟩ := subL_eq ho e'
    unfold rsubOk at e
    rw [Bool.and_eq_true, decide_eq_true_eq, decide_eq_true_eq] at e
    obtain ⟨a, b⟩ := dropN_count k L n e.1 e.2
    rw [if_pos rfl]
    refine ⟨fun k' => ?_, by rw [h1, b, x.2]⟩
    rw [h2, a, x.1 k, x.1 k']
section
variable {h : H} {r : Nat} {each most : Int} {s : Sl} {L : List Int}
theorem t_RSub (x : RefQ h r each most s L) {k n : Int} {K : Int → H → Prop}
    (y : ∀ s' L' h', (L' = if rsubOk L k n = true then dropN k L n else L) → RefQ h' r each most s' L' → But (· = r) h h' → (∀ c, s'.foot c → s.foot c ∨ h c = none) → (∀ c, h' c = none → h c = none) → K (if rsubOk L k n = true then 0 else 20) h') : m_ref12_Quota_Sub (some ⟨r, 0, none⟩) k n K h := by
  unfold m_ref12_Quota_Sub
  have hl := x.buf.len
  have hL := x.len
  refine w_joinV (!rsubOk L k n) (fun j hj => w_if' (fun c => ?_) fun c => ?_) ?_
  · unfold rsubOk at hj
    rw [decide_eq_false (by omega : ¬ 0 ≤ n)] at hj
    exact hj
  · refine t_ROf x ?_
    have e : decide ((L.count k : Int) < n) = !rsubOk L k n := by
      unfold rsubOk
      rw [decide_eq_true (by omega : 0 ≤ n), Bool.true_and, Bool.eq_iff_iff]; simp
    rw [e]; exact hj
  refine w_if (fun c => ?_) fun c => ?_
  · rw [Bool.not_eq_true'] at c
    rw [c] at y
    exact y s L h rfl x (.refl _ _) (fun c f => .inl f) fun _ e => e
  rw [Bool.not_eq_false'] at c
  rw [c] at y
  simp only [if_true] at y
  unfold rsubOk at c
  rw [Bool.and_eq_true, decide_eq_true_eq, decide_eq_true_eq] at c
  have hcl : (L.count k : Int) ≤ 256 := by have := List.count_le_length (a := k) (l := L); omega
  refine w_for L.length (fun j z h' => ∃ (m : Int) (so : Sl) (xs : List Int), z = (m, so, (j : Int)) ∧ 0 ≤ m ∧ m ≤ 256 ∧ xs ++ dropN k (L.drop j) m = dropN k L n ∧ xs.length ≤ j ∧ Buf (cInt .i64) 1 N_int h' so xs ∧ Keeps h h' ∧ (∀ c, so.foot c → h c = none)) ?_ ⟨n, Sl.nil, [], rfl, c.1, by omega, rfl, Nat.le_refl _, Buf.nil, .refl _, fun c ⟨a, ha, _⟩ => by cases ha⟩
  rintro rec j _ h1 hj ⟨m, so, xs, rfl, hm0, hm1, heq, hxl, bo, k1, fo⟩ more
  have x1 := x.keep k1
  refine w_deref (w_load x1.f2 (w_if' (fun c2 => ?_) fun c2 => ?_))
  · have c2 : (j : Int) < (s.len : Int) := c2
    have e : L[j]? = some L[j] := List.getElem?_eq_getElem (by omega)
    have hd : L.drop j = L[j] :: L.drop (j + 1) := by rw [List.drop_eq_getElem_cons (by omega)]
    rw [hd] at heq
    generalize L[j] = v at e heq
    rw [show dropN k (v :: L.drop (j + 1)) m = if v = k ∧ 0 < m then dropN k (L.drop (j + 1)) (m - 1) else v :: dropN k (L.drop (j + 1)) m from rfl] at heq
    refine w_deref (w_load x1.f2 (w_get ci_len x1.buf.arr e rfl (v' := v) rfl ?_))
    refine w_if (fun c3 => ?_) fun c3 => ?_
    · rw [Bool.and_eq_true, decide_eq_true_eq, decide_eq_true_eq] at c3
      have c3 : v = k ∧ 0 < m := c3
      rw [if_pos c3] at heq
      show rec (iSub .i64 m 1, so, iAdd .i64 (j : Int) 1) h1
      rw [ia1 j (by omega), iSub_eq (by omega) (by omega)]
      exact more _ _ (by omega) ⟨m - 1, so, xs, rfl, by omega, by omega, heq, by omega, bo, k1, fo⟩
    · have c3 : ¬ (v = k ∧ 0 < m) := fun q => by
        have c3 : (decide (v = k) && decide (0 < m)) = false := c3
        rw [decide_eq_true q.1, decide_eq_true q.2] at c3; cases c3
      rw [if_neg c3] at heq
      refine w_deref (w_load x1.f2 (w_get ci_len x1.buf.arr e rfl (v' := v) rfl ?_))
      refine w_app (by_ := 8) ci_len rfl bo [v] rfl rfl (.inl (by simp only [List.length_singleton]; omega)) fun s2 h2 bu2 b2 f2 d2 => ?_
      show rec (m, s2, iAdd .i64 (j : Int) 1) h2
      rw [ia1 j (by omega)]
      exact more _ _ (by omega) ⟨m, s2, xs ++ [v], rfl, hm0, hm1, by rw [List.append_assoc]; exact heq, by simp; omega, bu2, Keeps.but k1 b2 fo, fun c f => (f2 c f).elim (fo c) fun q => k1.fresh q⟩
  · have c2 : ¬ (j : Int) < (s.len : Int) := c2
    obtain rfl : j = L.length := by omega
    rw [List.drop_length] at heq
    have heq : xs = dropN k L n := by simpa [dropN] using heq
    have nr : ¬ so.foot r := fun f => by have := fo r f; rw [x.cell] at this; cases this
    refine w_deref (w_store (l1 := (S_ref12_Quota.cells ⟨each, most, s⟩).take 2) (l2 := cSl s) (l3 := []) rfl x1.cell rfl rfl ?_)
    refine y so xs _ (by rw [heq]) ⟨upd_same _ _ _, bo.but (But.upd (F := (· = r)) rfl) fun a ha e => nr ⟨a, ha, e⟩, nr, by rw [heq]; have := dropN_len k L n; omega⟩ ?_ (fun c f => .inr (fo c f)) fun c e => k1.fresh (upd_none.1 e).2
    exact (But.of k1).trans (But.upd (F := (· = r)) rfl) fun n e => .inl e
end
theorem and1 (x : Int) : ∃ k : Nat, iAnd .i64 x 1 = (k : Int) ∧ k < 2 := by
  unfold iAnd
  have h1 : (BitVec.ofInt IntKind.i64.bits x &&& BitVec.ofInt IntKind.i64.bits 1).toNat ≤ 1 := by
    rw [BitVec.toNat_and]
    have : (BitVec.ofInt IntKind.i64.bits 1).toNat = 1 := by decide
    rw [this]
    exact Nat.and_le_right
  generalize (BitVec.ofInt IntKind.i64.bits x &&& BitVec.ofInt IntKind.i64.bits 1).toNat = n at h1
  exact ⟨n, i64_eq (by omega) (by omega), by omega⟩
end Go.Proofs.Ytlnlmideghepnaa.K
