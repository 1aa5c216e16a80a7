/- Plain laws: counts by key; sorted keys. -/
import Derived.Test.YtiajjcboddaenaaL8
namespace Go.Proofs.Ytiajjcboddaenaa.K
open Go
def asum : List (Int × Int) → Int
  | [] => 0
  | p :: r => p.2 + asum r
theorem asum_perm {l m : List (Int × Int)} (h : l.Perm m) : asum l = asum m := by
  induction h with
  | nil => rfl
  | cons x _ ih => simp only [asum, ih]
  | swap x y l => simp only [asum]; omega
  | trans _ _ a b => exact a.trans b
theorem asum_nonneg {l : List (Int × Int)} (h : ∀ q ∈ l, 1 ≤ q.2) : (l.length : Int) ≤ asum l := by
  induction l with
  | nil => exact Int.le_refl _
  | cons p r ih =>
    have h1 := ih fun q hq => h q (List.mem_cons_of_mem _ hq)
    have h2 := h p (List.mem_cons_self ..)
    simp only [asum, List.length_cons]
    omega
theorem asum_set (k v : Int) : ∀ l : List (Int × Int), asum (aset l k v) = asum l - (alook l k).getD 0 + v := by
  intro l
  induction l with
  | nil => show (v + 0 : Int) = 0 - 0 + v; omega
  | cons p r ih =>
    obtain ⟨a, w⟩ := p
    rw [aset_cons, alook_cons]
    by_cases e : k = a
    · rw [if_pos e, if_pos e]; simp only [asum, Option.getD_some]; omega
    · rw [if_neg e, if_neg e]; simp only [asum, ih]; omega
theorem asum_del (k : Int) : ∀ l : List (Int × Int), asum (adel l k) = asum l - (alook l k).getD 0 := by
  intro l
  induction l with
  | nil => rfl
  | cons p r ih =>
    obtain ⟨a, w⟩ := p
    rw [adel_cons, alook_cons]
    by_cases e : k = a
    · rw [if_pos e, if_pos e]; simp only [asum, Option.getD_some]; omega
    · rw [if_neg e, if_neg e]; simp only [asum, ih]; omega
section
variable {K V : Type} [DecidableEq K]
theorem adel_sub (k : K) : ∀ (l : List (K × V)) (q : K × V), q ∈ adel l k → q ∈ l := by
  intro l
  induction l with
  | nil => intro q h; exact h
  | cons p r ih =>
    obtain ⟨a, w⟩ := p
    intro q h
    rw [adel_cons] at h
    by_cases e : k = a
    · rw [if_pos e] at h; exact List.mem_cons_of_mem _ h
    · rw [if_neg e] at h
      rcases List.mem_cons.1 h with z | z
      · exact List.mem_cons.2 (.inl z)
      · exact List.mem_cons_of_mem _ (ih q z)
theorem adel_keys (k : K) : ∀ (l : List (K × V)), (l.map (·.1)).Nodup → (adel l k).map (·.1) = (l.map (·.1)).erase k := by
  intro l
  induction l with
  | nil => intro _; rfl
  | cons p r ih =>
    obtain ⟨a, w⟩ := p
    intro h
    rw [List.map_cons, List.nodup_cons] at h
    rw [adel_cons, List.map_cons]
    by_cases e : k = a
    · rw [if_pos e, e, List.erase_cons_head]
    · rw [if_neg e, List.map_cons, ih h.2, List.erase_cons_tail (by simpa using fun z => e z.symm)]
theorem Once.del {l : List (K × V)} (x : Once l) (k : K) : Once (adel l k) := by
  unfold Once at *
  rw [adel_keys k l x]
  exact x.erase k
theorem aset_mem (k : K) (v : V) : ∀ (l : List (K × V)) (q : K × V), q ∈ aset l k v → q = (k, v) ∨ q ∈ l := by
  intro l
  induction l with
  | nil => intro q h; exact .inl (by simpa [aset, aidx] using h)
  | cons p r ih =>
    obtain ⟨a, w⟩ := p
    intro q h
    rw [aset_cons] at h
    by_cases e : k = a
    · rw [if_pos e] at h
      rcases List.mem_cons.1 h with z | z
      · exact .inl z
      · exact .inr (List.mem_cons_of_mem _ z)
    · rw [if_neg e] at h
      rcases List.mem_cons.1 h with z | z
      · exact .inr (List.mem_cons.2 (.inl z))
      · exact (ih q z).imp id (List.mem_cons_of_mem _)
theorem alook_mem {l : List (K × V)} {k : K} {v : V} (h : alook l k = some v) : (k, v) ∈ l := by
  induction l with
  | nil => cases h
  | cons p r ih =>
    obtain ⟨a, w⟩ := p
    rw [alook_cons] at h
    by_cases e : k = a
    · rw [if_pos e] at h; cases h; subst e; exact List.mem_cons_self ..
    · rw [if_neg e] at h; exact List.mem_cons_of_mem _ (ih h)
theorem Once.look {l : List (K × V)} (x : Once l) {k : K} {v : V} (h : (k, v) ∈ l) : alook l k = some v := by
  unfold Once at x
  induction l with
  | nil => cases h
  | cons p r ih =>
    obtain ⟨a, w⟩ := p
    rw [List.map_cons, List.nodup_cons] at x
    rw [alook_cons]
    rcases List.mem_cons.1 h with z | z
    · cases z; rw [if_pos rfl]
    · rw [if_neg (fun e => x.1 (by rw [← e]; exact List.mem_map.2 ⟨_, z, rfl⟩)), ih x.2 z]
end
/-! Sorted rows of whole numbers. -/
def isort (l : List Int) : List Int := l.mergeSort fun x y => decide (x ≤ y)
theorem isort_perm (l : List Int) : (isort l).Perm l := List.mergeSort_perm _ _
theorem isort_le (l : List Int) : (isort l).Pairwise (· ≤ ·) := by
  have h := List.pairwise_mergeSort (le := fun x y : Int => decide (x ≤ y)) (fun a b c h1 h2 => by simp only [decide_eq_true_eq] at *; omega) (fun a b => by simp only [Bool.or_eq_true, decide_eq_true_eq]; omega) l
  exact h.imp fun z => by simpa using z
theorem isort_eq {l m : List Int} (h : l.Perm m) : isort l = isort m :=
  List.Perm.eq_of_pairwise (fun _ _ _ _ h1 h2 => Int.le_antisymm h1 h2) (isort_le l) (isort_le m) (((isort_perm l).trans h).trans (isort_perm m).symm)
theorem isort_len (l : List Int) : (isort l).length = l.length := (isort_perm l).length_eq
theorem isort_nodup {l : List Int} (h : l.Nodup) : (isort l).Nodup := (isort_perm l).symm.nodup h
/-- Two rising rows that hold the same are one. -/
theorem rising_eq {l m : List Int} (hl : l.Pairwise (· < ·)) (hm : m.Pairwise (· < ·)) (h : ∀ x, x ∈ l ↔ x ∈ m) : l = m := by
  have nl : l.Nodup := hl.imp fun z => by omega
  have nm : m.Nodup := hm.imp fun z => by omega
  exact List.Perm.eq_of_pairwise (le := (· < ·)) (fun _ _ _ _ h1 h2 => by omega) hl hm ((List.perm_ext_iff_of_nodup nl nm).2 h)
theorem isort_rising {l : List Int} (h : l.Nodup) : (isort l).Pairwise (· < ·) := by
  have h1 := isort_le l
  have h2 := isort_nodup h
  exact (h1.and h2).imp fun z => by have := z.1; have := z.2; omega
end Go.Proofs.Ytiajjcboddaenaa.K
