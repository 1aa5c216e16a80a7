/- The quota in memory; its calls. -/
import Derived.Test.YtlnlmideghepnaaQu0
import Derived.Test.YtlnlmideghepnaaSo5
import Derived.Test.YtlnlmideghepnaaFquota
namespace Go.Proofs.Ytlnlmideghepnaa.K
open Go
theorem keyI {t : TypeId} (hu : Try.prog.underlying t = some (.int .i64)) : KeyEq (eqV Try.prog 40 t) (Value.int .i64) := fun a b => by
  show eqV Try.prog (39 + 1) t _ _ = _
  rw [eqV.eq_2, hu]
  rfl
/-- A quota: its bounds, what is counted. -/
structure QuotaAt (h : H) (p b : Nat) (each all : Int) (l : List (Int × Int)) : Prop where
  cell : h p = some (.cells (S_quota_Quota.cells ⟨each, all, some b⟩).toArray N_quota_Quota (0, 0))
  map : MapOf (Value.int .i64) (Value.int .i64) h b l
  ne : p ≠ b
  once : Once l
  pos : ∀ q ∈ l, 1 ≤ q.2
  bnd : asum l ≤ 256
theorem QuotaAt.keep {h h' : H} {p b : Nat} {each all : Int} {l : List (Int × Int)} (x : QuotaAt h p b each all l) (k : Keeps h h') : QuotaAt h' p b each all l := ⟨k _ _ x.cell, x.map.keep k, x.ne, x.once, x.pos, x.bnd⟩
theorem QuotaAt.but {h h' : H} {F : Nat → Prop} {p b : Nat} {each all : Int} {l : List (Int × Int)} (x : QuotaAt h p b each all l) (k : But F h h') (f1 : ¬ F p) (f2 : ¬ F b) : QuotaAt h' p b each all l := ⟨k _ _ x.cell f1, x.map.but k f2, x.ne, x.once, x.pos, x.bnd⟩
def cnt (l : List (Int × Int)) (k : Int) : Int := (alook l k).getD 0
section
variable {h : H} {p b : Nat} {each all : Int} {l : List (Int × Int)}
theorem QuotaAt.len (x : QuotaAt h p b each all l) : l.length ≤ 256 := by have := asum_nonneg x.pos; have := x.bnd; omega
theorem QuotaAt.f0 (x : QuotaAt h p b each all l) : At h ((⟨p, 0, none⟩ : Addr).add 0) (cInt .i64 each) := At.own (l1 := []) (l3 := (S_quota_Quota.cells ⟨each, all, some b⟩).drop 1) x.cell rfl
theorem QuotaAt.f1 (x : QuotaAt h p b each all l) : At h ((⟨p, 0, none⟩ : Addr).add 1) (cInt .i64 all) := At.own (l1 := (S_quota_Quota.cells ⟨each, all, some b⟩).take 1) (l3 := (S_quota_Quota.cells ⟨each, all, some b⟩).drop 2) x.cell rfl
theorem QuotaAt.f2 (x : QuotaAt h p b each all l) : At h ((⟨p, 0, none⟩ : Addr).add 2) (cMap (some b)) := At.own (l1 := (S_quota_Quota.cells ⟨each, all, some b⟩).take 2) (l3 := []) x.cell rfl
theorem cnt_nonneg (x : ∀ q ∈ l, 1 ≤ q.2) (k : Int) : 0 ≤ cnt l k := by
  unfold cnt
  cases e : alook l k with
  | none => exact Int.le_refl _
  | some v => have h : (1 : Int) ≤ v := x _ (alook_mem e); show (0 : Int) ≤ v; omega
theorem cnt_le (x : ∀ q ∈ l, 1 ≤ q.2) (k : Int) : cnt l k ≤ asum l := by
  have := asum_del k l
  have h2 := asum_nonneg (l := adel l k) fun q hq => x q (adel_sub k l q hq)
  unfold cnt
  omega
theorem t_QNew {each all : Int} {K : Option Addr × Int → H → Prop} (bad : (each < 1 ∨ 256 < each ∨ all < 1 ∨ 256 < all) → K (none, 16) h)
    (good : 1 ≤ each → each ≤ 256 → 1 ≤ all → all ≤ 256 → ∀ p b h', QuotaAt h' p b each all [] → Keeps h h' → h p = none → h b = none → K (some ⟨p, 0, none⟩, 0) h') : m_quota_New each all K h := by
  unfold m_quota_New
  refine w_if (fun c => bad ?_) fun c => ?_
  · simp only [Bool.or_eq_true, decide_eq_true_eq] at c; omega
  · simp only [Bool.or_eq_false_iff, decide_eq_false_iff_not] at c
    refine w_makeMap (Value.int .i64) (Value.int .i64) fun b h1 f1 x1 k1 => w_new fun p fp => ?_
    have hb : ∃ o, h1 b = some o := by obtain ⟨_, _, e, _⟩ := x1.ex; exact ⟨_, e⟩
    refine good (by omega) (by omega) (by omega) (by omega) p b _ ⟨upd_same _ _ _, x1.keep (.new fp), fun e => ?_, List.nodup_nil, fun q hq => (by cases hq), by decide⟩ (k1.trans (.new fp)) (k1.fresh fp) f1
    subst e; obtain ⟨o, e⟩ := hb; rw [fp] at e; cases e
theorem t_QOf (x : QuotaAt h p b each all l) {k : Int} {K : Int → H → Prop} (y : K (cnt l k) h) : m_quota_Quota_Of (some ⟨p, 0, none⟩) k K h := by
  unfold m_quota_Quota_Of
  exact w_deref (w_load x.f2 (w_lookup (keyI (by kernel_rfl)) x.map y))
theorem t_QAll (x : QuotaAt h p b each all l) {K : Int → H → Prop} (y : ∀ h', Keeps h h' → K (asum l) h') : m_quota_Quota_All (some ⟨p, 0, none⟩) K h := by
  unfold m_quota_Quota_All
  refine w_deref (w_load x.f2 (w_range x.map fun it h1 f1 it1 k1 => ?_))
  have hne : it.block ≠ b := fun e => by
    obtain ⟨_, _, z, _⟩ := x.map.ex
    rw [e, z] at f1; cases f1
  refine w_for l.length (fun j s h' => ∃ rest at_, IterOf (Value.int .i64) (Value.int .i64) h' it b l rest at_ ∧ rest.length + j = l.length ∧ s + asum rest = asum l ∧ 0 ≤ s ∧ (∀ q ∈ rest, 1 ≤ q.2) ∧ But (· = it.block) h1 h') ?_ ⟨l, none, it1, rfl, by omega, Int.le_refl _, x.pos, .refl _ _⟩
  rintro rec j s h2 hj ⟨rest, at_, it2, hl, hs, hs0, hp, b2⟩ more
  refine w_next it2 hne (fun e => w_ifF rfl ?_) fun q rest' h3 pm it3 b3 d3 => w_ifT rfl (w_entry it3 ?_)
  · subst e
    have : s = asum l := by simpa [asum] using hs
    subst this
    exact y h2 (k1.but b2 fun n e => by subst e; exact f1)
  · have e1 := asum_perm pm
    have e2 := pm.length_eq
    have hp' : ∀ z ∈ q :: rest', 1 ≤ z.2 := fun z hz => hp z (pm.symm.subset hz)
    have h0 := asum_nonneg fun z hz => hp' z (List.mem_cons_of_mem _ hz)
    have h1q := hp' q (List.mem_cons_self ..)
    have hb := x.bnd
    simp only [asum, List.length_cons] at e1 e2
    refine more _ _ (by omega) ⟨rest', some q, it3, by omega, ?_, ?_, fun z hz => hp' z (List.mem_cons_of_mem _ hz), b2.trans b3 fun _ f => .inl f⟩
    · rw [iAdd_eq (by omega) (by omega)]; omega
    · rw [iAdd_eq (by omega) (by omega)]; omega
def mayOf (each all : Int) (l : List (Int × Int)) (k : Int) : Int := if each ≤ cnt l k then 9 else if all ≤ asum l then 10 else 0
theorem t_QMay (x : QuotaAt h p b each all l) {k : Int} {K : Int → H → Prop} (y : ∀ h', Keeps h h' → K (mayOf each all l k) h') : m_quota_Quota_May (some ⟨p, 0, none⟩) k K h := by
  unfold m_quota_Quota_May
  unfold mayOf at y
  refine w_deref (w_joinV (cnt l k, each) (fun j hj => w_both (t_QOf x (w_load x.f0 hj)) (w_load x.f0 (t_QOf x hj))) ?_)
  refine w_if' (fun c => ?_) fun c => ?_
  · have c : each ≤ cnt l k := c
    simp only [if_pos c] at y
    exact y h (.refl _)
  have c : ¬ each ≤ cnt l k := c
  simp only [if_neg c] at y
  refine w_deref (w_joinP (fun z h' => z = (asum l, all) ∧ Keeps h h') (fun j hj => w_both (t_QAll x fun h' k' => w_load (x.keep k').f1 (hj _ _ ⟨rfl, k'⟩)) (w_load x.f1 (t_QAll x fun h' k' => hj _ _ ⟨rfl, k'⟩))) ?_)
  rintro _ h' ⟨rfl, k'⟩
  refine w_if' (fun c2 => ?_) fun c2 => ?_
  · have c2 : all ≤ asum l := c2
    simp only [if_pos c2] at y
    exact y h' k'
  · have c2 : ¬ all ≤ asum l := c2
    simp only [if_neg c2] at y
    exact y h' k'
def addL (each all : Int) (l : List (Int × Int)) (k : Int) : List (Int × Int) := if mayOf each all l k = 0 then aset l k (cnt l k + 1) else l
theorem may_zero {each all : Int} {l : List (Int × Int)} {k : Int} (h : mayOf each all l k = 0) : cnt l k < each ∧ asum l < all := by
  unfold mayOf at h
  split at h
  · cases h
  · split at h
    · cases h
    · omega
/-- What a change writes. -/
structure Chg (b : Nat) (h h' : H) : Prop where
  but : But (· = b) h h'
  dom : ∀ c, h' c = none → h c = none
theorem Chg.refl (b : Nat) (h : H) : Chg b h h := ⟨.refl _ _, fun _ e => e⟩
theorem Chg.keeps {b : Nat} {h h' : H} (k : Keeps h h') : Chg b h h' := ⟨.of k, fun _ e => k.fresh e⟩
theorem Chg.trans {b : Nat} {h h1 h2 : H} (x : Chg b h h1) (y : Chg b h1 h2) : Chg b h h2 := ⟨x.but.trans y.but fun _ f => .inl f, fun c e => x.dom c (y.dom c e)⟩
theorem QuotaAt.set (x : QuotaAt h p b each all l) {h' : H} {k v : Int} (m : MapOf (Value.int .i64) (Value.int .i64) h' b (aset l k v)) (bt : But (· = b) h h') (hv : 1 ≤ v) (hs : asum l - cnt l k + v ≤ 256) : QuotaAt h' p b each all (aset l k v) :=
  ⟨bt _ _ x.cell x.ne, m, x.ne, x.once.set _ _, fun q hq => (aset_mem k v l q hq).elim (fun e => by rw [e]; exact hv) (x.pos q), by rw [asum_set]; exact hs⟩
theorem t_QAdd (x : QuotaAt h p b each all l) (ha : all ≤ 256) {k : Int} {K : Int → H → Prop} (y : ∀ h', QuotaAt h' p b each all (addL each all l k) → Chg b h h' → K (mayOf each all l k) h') : m_quota_Quota_Add (some ⟨p, 0, none⟩) k K h := by
  unfold m_quota_Quota_Add
  refine t_QMay x fun h1 k1 => ?_
  have x1 := x.keep k1
  unfold addL at y
  refine w_if' (fun c => ?_) fun c => ?_
  · simp only [if_pos c] at y
    obtain ⟨m1, m2⟩ := may_zero c
    have c0 := cnt_nonneg x.pos k
    have c1 := cnt_le x.pos k
    have hb := x.bnd
    refine w_deref (w_load x1.f2 (w_lookup (keyI (by kernel_rfl)) x1.map ?_))
    show mMapSet _ _ _ (Value.int .i64 (iAdd .i64 (cnt l k) 1)) _ h1
    rw [iAdd_eq (by omega) (by omega)]
    refine w_mapSet (keyI (by kernel_rfl)) x1.map rfl rfl fun h2 mp b2 d2 => ?_
    exact y h2 (x1.set mp b2 (by omega) (by omega)) ((Chg.keeps k1).trans ⟨b2, d2⟩)
  · simp only [if_neg c] at y
    exact y h1 x1 (.keeps k1)
def subOk (l : List (Int × Int)) (k n : Int) : Bool := decide (0 ≤ n) && decide (n ≤ cnt l k)
def subL (l : List (Int × Int)) (k n : Int) : List (Int × Int) := if subOk l k n = true then (if cnt l k - n = 0 then adel l k else aset l k (cnt l k - n)) else l
theorem adel_aset {k v : Int} : ∀ l : List (Int × Int), adel (aset l k v) k = adel l k := by
  intro l
  induction l with
  | nil => simp [aset, aidx, adel]
  | cons p r ih =>
    obtain ⟨a, w⟩ := p
    rw [aset_cons, adel_cons]
    by_cases e : k = a
    · rw [if_pos e, if_pos e, adel_cons, if_pos rfl]
    · rw [if_neg e, if_neg e, adel_cons, if_neg e, ih]
theorem t_QSub (x : QuotaAt h p b each all l) {k n : Int} {K : Int → H → Prop} (y : ∀ h', QuotaAt h' p b each all (subL l k n) → Chg b h h' → K (if subOk l k n = true then 0 else 20) h') : m_quota_Quota_Sub (some ⟨p, 0, none⟩) k n K h := by
  unfold m_quota_Quota_Sub
  unfold subL at y
  have c0 := cnt_nonneg x.pos k
  have c1 := cnt_le x.pos k
  have hb := x.bnd
  refine w_joinV (!subOk l k n) (fun j hj => w_if' (fun c => ?_) fun c => ?_) ?_
  · unfold subOk at hj
    rw [decide_eq_false (by omega : ¬ 0 ≤ n)] at hj
    exact hj
  · refine t_QOf x ?_
    have e : decide (cnt l k < n) = !subOk l k n := by
      unfold subOk
      rw [decide_eq_true (by omega : 0 ≤ n), Bool.true_and]
      rw [Bool.eq_iff_iff]; simp
    rw [e]; exact hj
  refine w_if (fun c => ?_) fun c => ?_
  · rw [Bool.not_eq_true'] at c
    rw [c] at y
    exact y h x (.refl _ _)
  rw [Bool.not_eq_false'] at c
  rw [c] at y
  simp only [if_true] at y
  have c' := c
  unfold subOk at c'
  rw [Bool.and_eq_true, decide_eq_true_eq, decide_eq_true_eq] at c'
  refine w_deref (w_load x.f2 (w_lookup (keyI (by kernel_rfl)) x.map ?_))
  show mMapSet _ _ _ (Value.int .i64 (iSub .i64 (cnt l k) n)) _ h
  rw [iSub_eq (by omega) (by omega)]
  refine w_mapSet (keyI (by kernel_rfl)) x.map rfl rfl fun h2 mp b2 d2 => ?_
  have g2 : At h2 ((⟨p, 0, none⟩ : Addr).add 2) (cMap (some b)) := x.f2.but b2 fun e => x.ne (by rw [add_block] at e; exact e)
  refine w_deref (w_load g2 (w_lookup (keyI (by kernel_rfl)) mp ?_))
  have hlk : (alook (aset l k (cnt l k - n)) k).getD 0 = cnt l k - n := by rw [alook_set, if_pos rfl]; rfl
  show mIf (decide ((alook (aset l k (cnt l k - n)) k).getD 0 = 0)) _ _ h2
  rw [hlk]
  refine w_if' (fun c2 => ?_) fun c2 => ?_
  · simp only [if_pos c2] at y
    refine w_deref (w_load g2 (w_mapDel (keyI (by kernel_rfl)) mp rfl fun h3 mp3 b3 d3 => ?_))
    rw [adel_aset] at mp3
    refine y h3 ⟨b3 _ _ (b2 _ _ x.cell x.ne) x.ne, mp3, x.ne, x.once.del k, fun q hq => x.pos q (adel_sub k l q hq), ?_⟩ ((⟨b2, d2⟩ : Chg b h h2).trans ⟨b3, d3⟩)
    rw [asum_del]
    show asum l - cnt l k ≤ 256
    omega
  · simp only [if_neg c2] at y
    exact y h2 (x.set mp b2 (by omega) (by omega)) ⟨b2, d2⟩
theorem t_QObjects (x : QuotaAt h p b each all l) {K : Sl → H → Prop} (y : ∀ s h', Buf (cInt .i64) 1 N_int h' s (isort (l.map (·.1))) → Keeps h h' → (∀ c, s.foot c → h c = none) → K s h') : m_quota_Quota_Objects (some ⟨p, 0, none⟩) K h := by
  unfold m_quota_Quota_Objects
  have hlen := x.len
  refine w_deref (w_load x.f2 (w_range x.map fun it h1 f1 it1 k1 => ?_))
  have hne : it.block ≠ b := fun e => by
    obtain ⟨_, _, z, _⟩ := x.map.ex
    rw [e, z] at f1; cases f1
  refine w_for l.length (fun j s h' => ∃ rest at_ ks, IterOf (Value.int .i64) (Value.int .i64) h' it b l rest at_ ∧ rest.length + j = l.length ∧ ks.length = j ∧ (ks ++ rest.map (·.1)).Perm (l.map (·.1)) ∧ Buf (cInt .i64) 1 N_int h' s ks ∧ (∀ c, s.foot c → h1 c = none) ∧ But (fun c => c = it.block) h1 h' ∧ ∀ c, h' c = none → h1 c = none) ?_ ⟨l, none, [], it1, rfl, rfl, .refl _, Buf.nil, fun c ⟨a, ha, _⟩ => (by cases ha), .refl _ _, fun _ e => e⟩
  rintro rec j s h2 hj ⟨rest, at_, ks, it2, hl, hk, pk, bu2, fr2, b2, d2⟩ more
  have hit : h1 it.block ≠ none := by
    obtain ⟨_, _, _, _, e, _⟩ := it1.ex; rw [e]; simp
  have hbn : h1 b ≠ none := by
    obtain ⟨_, _, _, _, _, e, _⟩ := it1.ex; rw [e]; simp
  refine w_next it2 hne (fun e => w_ifF rfl ?_) fun q rest' h3 pm it3 b3 d3 => w_ifT rfl (w_entry it3 ?_)
  · subst e
    rw [List.map_nil, List.append_nil] at pk
    refine t_Sort bu2 (by omega) fun h3 bu3 w3 => ?_
    refine y s h3 ?_ ?_ fun c f => k1.fresh (fr2 c f)
    · rw [show (ks.mergeSort fun x y => decide (x ≤ y)) = isort (l.map (·.1)) from isort_eq pk] at bu3
      exact bu3
    · exact (k1.but b2 fun n e => by subst e; exact f1).but w3.but fun n f => k1.fresh (fr2 n f)
  · have e2 := pm.length_eq
    simp only [List.length_cons] at e2
    have bu3 : Buf (cInt .i64) 1 N_int h3 s ks := bu2.but b3 fun a ha e => hit (fr2 _ ⟨a, ha, e⟩)
    refine w_app (by_ := 8) ci_len rfl bu3 [q.1] rfl rfl (.inl (by simp only [List.length_singleton]; omega)) fun s4 h4 bu4 b4 f4 d4 => ?_
    refine more _ _ (by omega) ⟨rest', some q, ks ++ [q.1], it3.but b4 (fun f => hit (fr2 _ f)) (fun f => hbn (fr2 _ f)), by omega, by simp [hk], ?_, bu4, fun c f => ?_, ?_, fun c e => d2 c (d3 c (d4 c e))⟩
    · refine List.Perm.trans ?_ pk
      rw [List.append_assoc]
      exact List.Perm.append_left ks (show ([q.1] ++ rest'.map (·.1)).Perm (rest.map (·.1)) from (pm.map Prod.fst).symm)
    · rcases f4 c f with z | z
      · exact fr2 c z
      · exact d2 c (d3 c z)
    · refine (b2.trans b3 fun _ f => .inl f).trans b4 fun n f => .inr (fr2 n f)
end
end Go.Proofs.Ytlnlmideghepnaa.K
