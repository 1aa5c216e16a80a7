/- QuotaFresh: Objects is new memory. -/
import Derived.Test.YtlnlmideghepnaaQu2
import Derived.Test.YtlnlmideghepnaaL5
import Derived.Test.YtlnlmideghepnaaFref12
namespace Go.Proofs.Ytlnlmideghepnaa.K
open Go
/-- The document's quota: its bounds, each that is counted. -/
structure RefQ (h : H) (r : Nat) (each most : Int) (s : Sl) (L : List Int) : Prop where
  cell : h r = some (.cells (S_ref12_Quota.cells ⟨each, most, s⟩).toArray N_ref12_Quota (0, 0))
  buf : Buf (cInt .i64) 1 N_int h s L
  ne : ¬ s.foot r
  len : L.length ≤ 256
def rmayOf (each most : Int) (L : List Int) (k : Int) : Int := if each ≤ (L.count k : Int) then 9 else if most ≤ (L.length : Int) then 10 else 0
section
variable {h : H} {r : Nat} {each most : Int} {s : Sl} {L : List Int}
theorem RefQ.but {h' : H} {F : Nat → Prop} (x : RefQ h r each most s L) (k : But F h h') (f1 : ¬ F r) (f2 : ∀ c, s.foot c → ¬ F c) : RefQ h' r each most s L :=
  ⟨k _ _ x.cell f1, x.buf.but k fun a ha => f2 _ ⟨a, ha, rfl⟩, x.ne, x.len⟩
theorem RefQ.keep {h' : H} (x : RefQ h r each most s L) (k : Keeps h h') : RefQ h' r each most s L := ⟨k _ _ x.cell, x.buf.keep k, x.ne, x.len⟩
theorem RefQ.f0 (x : RefQ h r each most s L) : At h ((⟨r, 0, none⟩ : Addr).add 0) (cInt .i64 each) := At.own (l1 := []) (l3 := (S_ref12_Quota.cells ⟨each, most, s⟩).drop 1) x.cell rfl
theorem RefQ.f1 (x : RefQ h r each most s L) : At h ((⟨r, 0, none⟩ : Addr).add 1) (cInt .i64 most) := At.own (l1 := (S_ref12_Quota.cells ⟨each, most, s⟩).take 1) (l3 := (S_ref12_Quota.cells ⟨each, most, s⟩).drop 2) x.cell rfl
theorem RefQ.f2 (x : RefQ h r each most s L) : At h ((⟨r, 0, none⟩ : Addr).add 2) (cSl s) := At.own (l1 := (S_ref12_Quota.cells ⟨each, most, s⟩).take 2) (l3 := []) x.cell rfl
theorem t_RNew {each most : Int} {K : Option Addr × Int → H → Prop} (bad : (each < 1 ∨ 256 < each ∨ most < 1 ∨ 256 < most) → K (none, 16) h)
    (good : 1 ≤ each → each ≤ 256 → 1 ≤ most → most ≤ 256 → ∀ r h', RefQ h' r each most Sl.nil [] → Keeps h h' → h r = none → K (some ⟨r, 0, none⟩, 0) h') : m_ref12_New each most K h := by
  unfold m_ref12_New
  refine w_if (fun c => bad ?_) fun c => ?_
  · simp only [Bool.or_eq_true, decide_eq_true_eq] at c; omega
  · simp only [Bool.or_eq_false_iff, decide_eq_false_iff_not] at c
    exact w_new fun r fr => good (by omega) (by omega) (by omega) (by omega) r _ ⟨upd_same _ _ _, Buf.nil, (fun ⟨a, ha, _⟩ => by cases ha), by decide⟩ (.new fr) fr
theorem t_ROf (x : RefQ h r each most s L) {k : Int} {K : Int → H → Prop} (y : K (L.count k : Int) h) : m_ref12_Quota_Of (some ⟨r, 0, none⟩) k K h := by
  unfold m_ref12_Quota_Of
  have hl := x.buf.len
  have hL := x.len
  refine w_for L.length (fun j z h' => z = ((((L.take j).count k : Nat) : Int), (j : Int)) ∧ h = h') ?_ ⟨rfl, rfl⟩
  rintro rec j _ _ hj ⟨rfl, rfl⟩ more
  refine w_deref (w_load x.f2 (w_if' (fun c => ?_) fun c => ?_))
  · have c : (j : Int) < (s.len : Int) := c
    have e : L[j]? = some L[j] := List.getElem?_eq_getElem (by omega)
    have hct : ((L.take j).count k) ≤ j := by
      have h1 := List.count_le_length (a := k) (l := L.take j)
      rw [List.length_take] at h1; omega
    refine w_deref (w_load x.f2 (w_get ci_len x.buf.arr e rfl (v' := L[j]) rfl ?_))
    have et : (L.take (j + 1)).count k = (L.take j).count k + if L[j] = k then 1 else 0 := by
      rw [List.take_add_one, e, Option.toList_some, List.count_append, List.count_singleton]
      by_cases q : L[j] = k
      · rw [if_pos q, if_pos (by simpa using q)]
      · rw [if_neg q, if_neg (by simpa using q)]
    show mIf (decide (L[j] = k)) (rec (iAdd .i64 (((L.take j).count k : Nat) : Int) 1, iAdd .i64 (j : Int) 1)) (rec ((((L.take j).count k : Nat) : Int), iAdd .i64 (j : Int) 1)) h
    rw [ia1 j (by omega), ia1 ((L.take j).count k) (by omega)]
    refine w_if' (fun c2 => ?_) fun c2 => ?_
    · rw [if_pos c2] at et
      exact more _ _ (by omega) ⟨by rw [et], rfl⟩
    · rw [if_neg c2] at et
      exact more _ _ (by omega) ⟨by rw [et]; rfl, rfl⟩
  · have c : ¬ (j : Int) < (s.len : Int) := c
    obtain rfl : j = L.length := by omega
    rw [List.take_length]
    exact y
theorem t_RMay (x : RefQ h r each most s L) {k : Int} {K : Int → H → Prop} (y : K (rmayOf each most L k) h) : m_ref12_Quota_May (some ⟨r, 0, none⟩) k K h := by
  unfold m_ref12_Quota_May
  unfold rmayOf at y
  have hl := x.buf.len
  refine w_deref (w_joinV ((L.count k : Int), each) (fun j hj => w_both (t_ROf x (w_load x.f0 hj)) (w_load x.f0 (t_ROf x hj))) ?_)
  refine w_if' (fun c => ?_) fun c => ?_
  · have c : each ≤ (L.count k : Int) := c
    rw [if_pos c] at y; exact y
  have c : ¬ each ≤ (L.count k : Int) := c
  rw [if_neg c] at y
  refine w_deref (w_deref (w_load x.f2 (w_load x.f1 (w_if' (fun c2 => ?_) fun c2 => ?_))))
  · rw [if_pos (by omega)] at y; exact y
  · rw [if_neg (by omega)] at y; exact y
theorem t_RAdd (x : RefQ h r each most s L) (hm : most ≤ 256) {k : Int} {K : Int → H → Prop}
    (y : ∀ s' L' h', (L' = if rmayOf each most L k = 0 then L ++ [k] else L) → RefQ h' r each most s' L' → But (fun c => c = r ∨ s.foot c) h h' → (∀ c, s'.foot c → s.foot c ∨ h c = none) → (∀ c, h' c = none → h c = none) → K (rmayOf each most L k) h') : m_ref12_Quota_Add (some ⟨r, 0, none⟩) k K h := by
  unfold m_ref12_Quota_Add
  have hL := x.len
  refine t_RMay x (w_if' (fun c => ?_) fun c => ?_)
  · refine w_deref (w_load x.f2 ?_)
    refine w_app (by_ := 8) ci_len rfl x.buf [k] rfl rfl (.inl (by simp only [List.length_singleton]; omega)) fun s2 h2 bu2 b2 f2 d2 => ?_
    have c2 : h2 r = some (.cells (S_ref12_Quota.cells ⟨each, most, s⟩).toArray N_ref12_Quota (0, 0)) := b2 _ _ x.cell x.ne
    have nr : ¬ s2.foot r := fun f => (f2 r f).elim x.ne fun e => by rw [x.cell] at e; cases e
    have hlt : (L.length : Int) < most := by
      unfold rmayOf at c
      split at c
      · cases c
      · split at c
        · cases c
        · omega
    refine w_deref (w_store (l1 := (S_ref12_Quota.cells ⟨each, most, s⟩).take 2) (l2 := cSl s) (l3 := []) rfl c2 rfl rfl ?_)
    refine y s2 (L ++ [k]) _ (by rw [if_pos c]) ⟨upd_same _ _ _, bu2.but (But.upd (F := (· = r)) rfl) fun a ha e => nr ⟨a, ha, e⟩, nr, by simp; omega⟩ ?_ f2 fun c e => d2 c (upd_none.1 e).2
    exact (b2.mono fun n f => .inr f).trans (But.upd (F := (· = r)) rfl) fun n e => .inl (.inl e)
  · exact y s L h (by rw [if_neg c]) x (.refl _ _) (fun c f => .inl f) fun _ e => e
/-- Past the last of a row. -/
def past (os : List Int) (x : Int) : Prop := ∀ m, os.getLast? = some m → m < x
instance (os : List Int) : DecidablePred (past os) := fun x => by
  unfold past
  cases h : os.getLast? with
  | none => exact isTrue fun m e => by cases e
  | some m => exact if q : m < x then isTrue fun m' e => by cases e; exact q else isFalse fun z => q (z m rfl)
theorem past_snoc (os : List Int) (b x : Int) : past (os ++ [b]) x ↔ b < x := by
  unfold past
  rw [List.getLast?_append]
  simp
theorem filt_lt {p q : Int → Bool} : ∀ {l : List Int} {a : Int}, (∀ x ∈ l, p x = true → q x = true) → a ∈ l → q a = true → p a = false → (l.filter p).length < (l.filter q).length := by
  intro l
  induction l with
  | nil => intro a _ h; cases h
  | cons z r ih =>
    intro a hm ha hq hp
    have le : (r.filter p).length ≤ (r.filter q).length := by
      have : ∀ l : List Int, (∀ x ∈ l, p x = true → q x = true) → (l.filter p).length ≤ (l.filter q).length := by
        intro l
        induction l with
        | nil => intro _; exact Nat.le_refl _
        | cons w t iht =>
          intro hw
          have := iht fun x hx => hw x (List.mem_cons_of_mem _ hx)
          have hw0 := hw w (List.mem_cons_self ..)
          rw [List.filter_cons, List.filter_cons]
          split
          · rename_i e; rw [if_pos (hw0 e)]; simp; exact this
          · split
            · simp; omega
            · exact this
      exact this r fun x hx => hm x (List.mem_cons_of_mem _ hx)
    rcases List.mem_cons.1 ha with e | e
    · subst e
      rw [List.filter_cons, List.filter_cons, if_neg (by rw [hp]; simp), if_pos hq]
      simp; omega
    · have := ih (fun x hx => hm x (List.mem_cons_of_mem _ hx)) e hq hp
      have hz := hm z (List.mem_cons_self ..)
      rw [List.filter_cons, List.filter_cons]
      split
      · rename_i e; rw [if_pos (hz e)]; simp; exact this
      · split
        · simp; omega
        · exact this
theorem last_get {os : List Int} : os[os.length - 1]? = os.getLast? := by
  rw [List.getLast?_eq_getElem?]
theorem t_RObjects (x : RefQ h r each most s L) {K : Sl → H → Prop}
    (y : ∀ so os h', Buf (cInt .i64) 1 N_int h' so os → os.Pairwise (· < ·) → (∀ z, z ∈ os ↔ z ∈ L) → Keeps h h' → (∀ c, so.foot c → h c = none) → K so h') : m_ref12_Quota_Objects (some ⟨r, 0, none⟩) K h := by
  unfold m_ref12_Quota_Objects
  have hl := x.buf.len
  have hL := x.len
  refine w_for L.length (fun j so h' => ∃ os, Buf (cInt .i64) 1 N_int h' so os ∧ os.length = j ∧ (L.filter fun z => decide (past os z)).length + j ≤ L.length ∧ os.Pairwise (· < ·) ∧ (∀ z ∈ os, z ∈ L) ∧ (∀ z ∈ L, ¬ past os z → z ∈ os) ∧ Keeps h h' ∧ ∀ c, so.foot c → h c = none) ?_ ⟨[], Buf.nil, rfl, List.length_filter_le _ _, .nil, fun z hz => (by cases hz), fun z _ hz => absurd (fun m e => by cases e) hz, .refl _, fun c ⟨a, ha, _⟩ => by cases ha⟩
  rintro rec j so h1 hj ⟨os, bo, ho, hf, hp, hs, ha, k1, fr⟩ more
  have x1 := x.keep k1
  have lo := bo.len
  refine w_for L.length (fun i z h' => h1 = h' ∧ z.2.2 = (i : Int) ∧ (z.1 = true → z.2.1 ∈ L ∧ past os z.2.1 ∧ ∀ w ∈ L.take i, past os w → z.2.1 ≤ w) ∧ (z.1 = false → ∀ w ∈ L.take i, ¬ past os w)) ?_ ⟨rfl, rfl, fun e => (by cases e), fun _ w hw => by simp at hw⟩
  rintro rec2 i ⟨fd, best, _⟩ _ hi ⟨rfl, rfl, h3, h4⟩ more2
  refine w_deref (w_load x1.f2 (w_if' (fun c => ?_) fun c => ?_))
  · have c : (i : Int) < (s.len : Int) := c
    have e : L[i]? = some L[i] := List.getElem?_eq_getElem (by omega)
    have hm : L[i] ∈ L := List.getElem_mem _
    have tk : ∀ w, w ∈ L.take (i + 1) → w ∈ L.take i ∨ w = L[i] := fun w hw => by
      rw [List.take_add_one, e, Option.toList_some, List.mem_append, List.mem_singleton] at hw; exact hw
    generalize L[i] = v at e hm tk
    refine w_joinV (decide (past os v)) (fun jj hjj => w_if' (fun c2 => ?_) fun c2 => ?_) ?_
    · have c2 : os = [] := List.length_eq_zero_iff.1 (by omega)
      rw [decide_eq_true (show past os v from fun m q => by rw [c2] at q; cases q)] at hjj
      exact hjj
    · have hne : os ≠ [] := fun q => c2 (by rw [lo, q]; rfl)
      have hpos : 0 < os.length := List.length_pos_iff.2 hne
      obtain ⟨m, hmx⟩ : ∃ m, os[os.length - 1]? = some m := ⟨_, List.getElem?_eq_getElem (by omega)⟩
      have hlast : os.getLast? = some m := by rw [← last_get]; exact hmx
      refine w_deref ?_
      rw [show ((so.len : Int)) = ((so.len : Nat) : Int) from rfl, is1 so.len (by omega) (by omega)]
      refine w_idx ci_len bo.arr (i := so.len - 1) (by rw [lo]; exact hmx) rfl fun a1 _ g1 => w_load x1.f2 (w_idx ci_len x1.buf.arr e rfl fun a2 _ g2 => w_load g2 (w_load g1 ?_))
      have : decide (m < v) = decide (past os v) := by
        rw [decide_eq_decide]
        constructor
        · intro q m' e'; rw [hlast] at e'; cases e'; exact q
        · intro q; exact q m hlast
      rw [this]; exact hjj
    refine w_joinV (decide (past os v) && (!fd || decide (v < best))) (fun jj hjj => w_if (fun c2 => ?_) fun c2 => ?_) ?_
    · rw [c2, Bool.true_and] at hjj
      refine w_if (fun c3 => ?_) fun c3 => ?_
      · have c3 : (!fd) = true := c3
        rw [c3, Bool.true_or] at hjj; exact hjj
      · have c3 : (!fd) = false := c3
        rw [c3, Bool.false_or] at hjj
        exact w_deref (w_load x1.f2 (w_get ci_len x1.buf.arr e rfl (v' := v) rfl hjj))
    · rw [c2, Bool.false_and] at hjj; exact hjj
    have en : iAdd .i64 (i : Int) 1 = ((i + 1 : Nat) : Int) := ia1 i (by omega)
    refine w_if (fun c2 => ?_) fun c2 => ?_
    · rw [Bool.and_eq_true, decide_eq_true_eq, Bool.or_eq_true, Bool.not_eq_true', decide_eq_true_eq] at c2
      refine w_deref (w_load x1.f2 (w_get ci_len x1.buf.arr e rfl (v' := v) rfl ?_))
      refine more2 _ _ (by omega) ⟨rfl, en, fun _ => ⟨hm, c2.1, fun w hw hpw => ?_⟩, fun q => by cases q⟩
      show v ≤ w
      rcases tk w hw with q | q
      · cases hfd : fd with
        | false => exact absurd hpw (h4 hfd w q)
        | true =>
          have h5 : best ≤ w := (h3 hfd).2.2 w q hpw
          rcases c2.2 with z | z
          · rw [hfd] at z; cases z
          · omega
      · rw [q]; exact Int.le_refl _
    · refine more2 _ _ (by omega) ⟨rfl, en, fun q => ?_, fun q w hw => ?_⟩
      · obtain ⟨q1, q2, q3⟩ := h3 q
        refine ⟨q1, q2, fun w hw hpw => ?_⟩
        rcases tk w hw with z | z
        · exact q3 w z hpw
        · subst z
          have q : fd = true := q
          rw [decide_eq_true hpw, Bool.true_and, q] at c2
          have : ¬ w < best := by simpa using c2
          show best ≤ w
          omega
      · rcases tk w hw with z | z
        · exact h4 q w z
        · subst z
          intro hpw
          have q : fd = false := q
          rw [decide_eq_true hpw, q] at c2; cases c2
  · have c : ¬ (i : Int) < (s.len : Int) := c
    obtain rfl : i = L.length := by omega
    rw [List.take_length] at h3 h4
    clear more2 rec2
    refine w_if (fun c2 => ?_) fun c2 => ?_
    · have c2 : fd = false := by simpa using c2
      have h5 := h4 c2
      exact y so os h1 bo hp (fun z => ⟨hs z, fun hz => ha z hz (h5 z hz)⟩) k1 fr
    · have c2 : fd = true := by simpa using c2
      obtain ⟨q1, q2, q3⟩ := h3 c2
      have dec : (L.filter fun z => decide (past (os ++ [best]) z)).length < (L.filter fun z => decide (past os z)).length := filt_lt (fun z _ e => by
        rw [decide_eq_true_eq, past_snoc] at e
        rw [decide_eq_true_eq]
        intro m hm
        have := q2 m hm
        have e : best < z := e
        have this : m < best := this
        omega) q1 (decide_eq_true q2) (by rw [decide_eq_false_iff_not, past_snoc]; exact Int.lt_irrefl _)
      refine w_app (by_ := 8) ci_len rfl bo [best] rfl rfl (.inl (by simp only [List.length_singleton]; omega)) fun s2 h2 bu2 b2 f2 d2 => ?_
      refine more _ _ (by omega) ⟨os ++ [best], bu2, by simp [ho], by omega, ?_, fun z hz => ?_, fun z hz hnp => ?_, Keeps.but k1 b2 fr, fun c f => (f2 c f).elim (fr c) fun q => k1.fresh q⟩
      · rw [List.pairwise_append]
        refine ⟨hp, List.pairwise_singleton _ _, fun a ha' b' hb' => ?_⟩
        rw [List.mem_singleton] at hb'
        subst hb'
        -- every one of the row is at most its last
        have hne : os ≠ [] := fun q => by rw [q] at ha'; cases ha'
        obtain ⟨m, hmx⟩ : ∃ m, os.getLast? = some m := ⟨_, List.getLast?_eq_some_getLast hne⟩
        have hm' := q2 m hmx
        have : a ≤ m := by
          obtain ⟨ia, hia, rfl⟩ := List.getElem_of_mem ha'
          rw [← last_get] at hmx
          have hl2 := lt_of_get hmx
          rw [List.getElem?_eq_getElem hl2] at hmx
          have hmx := Option.some.inj hmx
          rcases Nat.lt_or_ge ia (os.length - 1) with q | q
          · have := List.pairwise_iff_getElem.1 hp ia (os.length - 1) hia hl2 q
            omega
          · have : ia = os.length - 1 := by omega
            subst this; omega
        have hm' : m < b' := hm'
        omega
      · rcases List.mem_append.1 hz with q | q
        · exact hs z q
        · rw [List.mem_singleton] at q; rw [q]; exact q1
      · rw [past_snoc] at hnp
        rw [List.mem_append, List.mem_singleton]
        by_cases hpz : past os z
        · right
          have h5 : best ≤ z := q3 z hz hpz
          have hnp : ¬ best < z := hnp
          omega
        · exact .inl (ha z hz hpz)
end
end Go.Proofs.Ytlnlmideghepnaa.K
