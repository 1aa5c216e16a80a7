/- QuotaSums: sums, bounds, refusals, all taken back. -/
import Derived.Test.YtlnlmideghepnaaQu1
import Derived.Test.YtlnlmideghepnaaFlaw12
namespace Go.Proofs.Ytlnlmideghepnaa.K
open Go
section
variable {h : H} {p b : Nat} {each all : Int} {l : List (Int × Int)}
theorem t_ints12 {a c : Sl} {us vs : List Int} (xa : Arr (cInt .i64) h a us) (xb : Arr (cInt .i64) h c vs) (hn : us.length ≤ 2 ^ 60) {K : Bool → H → Prop} (y : K (decide (us = vs)) h) : m_law12_sameInts a c K h := by
  have la := xa.len
  have lb := xb.len
  unfold m_law12_sameInts
  refine w_if (fun c => ?_) fun c => ?_
  · rw [decide_eq_false (fun e => ?_)] at y
    · exact y
    · subst e
      rw [la, lb, decide_eq_true rfl] at c; cases c
  have hl : us.length = vs.length := by
    rw [Bool.not_eq_false', decide_eq_true_eq] at c; omega
  refine w_for us.length (fun j s h' => s = (j : Int) ∧ h = h' ∧ us.take j = vs.take j) ?_ ⟨rfl, rfl, rfl⟩
  rintro rec j _ _ hj ⟨rfl, rfl, ht⟩ more
  refine w_if' (fun c => ?_) fun c => ?_
  · have c : (j : Int) < (a.len : Int) := c
    have e1 : us[j]? = some us[j] := List.getElem?_eq_getElem (by omega)
    have e2 : vs[j]? = some vs[j] := List.getElem?_eq_getElem (by omega)
    generalize us[j] = u at e1
    generalize vs[j] = v at e2
    refine w_idx ci_len xa e1 rfl fun a1 _ h1 => w_idx ci_len xb e2 rfl fun a2 _ h2 => w_load h1 (w_load h2 ?_)
    refine w_if (fun c2 => ?_) fun c2 => ?_
    · have hne : u ≠ v := by rw [Bool.not_eq_true', decide_eq_false_iff_not] at c2; exact c2
      rw [decide_eq_false (fun e => ?_)] at y
      · exact y
      · subst e; rw [e1] at e2; exact hne (Option.some.inj e2)
    · have he : u = v := by rw [Bool.not_eq_false', decide_eq_true_eq] at c2; exact c2
      rw [ia1 j (by omega)]
      exact more _ _ (by omega) ⟨rfl, rfl, by rw [List.take_add_one, List.take_add_one, e1, e2, ht, he]⟩
  · have c : ¬ (j : Int) < (a.len : Int) := c
    obtain rfl : j = us.length := by omega
    have : us = vs := by
      rw [List.take_length, hl, List.take_length] at ht
      exact ht
    rw [decide_eq_true this] at y
    exact y
/-- The examples of the head. -/
theorem t_head12 {K : Bool → H → Prop} (y : ∀ h', Keeps h h' → K true h') : m_law12_head K h := by
  unfold m_law12_head
  refine t_QNew (fun e => by omega) fun _ _ _ _ p b h1 x1 k1 fp fb => w_ifF rfl ?_
  have keep : ∀ h', Chg b h1 h' → Keeps h h' := fun h' c => k1.but c.but fun n e => by subst e; exact fb
  refine t_QAdd x1 (by decide) fun h2 x2 c2 => t_QAdd x2 (by decide) fun h3 x3 c3 => t_QAdd x3 (by decide) fun h4 x4 c4 => t_QAdd x4 (by decide) fun h5 x5 c5 => t_QAdd x5 (by decide) fun h6 x6 c6 => ?_
  have ch := (((c2.trans c3).trans c4).trans c5).trans c6
  have el : addL 2 3 (addL 2 3 (addL 2 3 (addL 2 3 (addL 2 3 [] 7) 7) 7) (-1)) 8 = [(7, 2), (-1, 1)] := by kernel_rfl
  rw [el] at x6
  clear el
  refine w_joinV true (fun j hj => w_ifT (by kernel_rfl) (t_QOf x6 ?_)) ?_
  · rw [show decide (cnt [(7, 2), (-1, 1)] 7 = 2) = true from by kernel_rfl]; exact hj
  refine w_joinP (fun z h' => z = true ∧ Keeps h6 h') (fun j hj => w_ifT rfl (t_QAll x6 fun h7 k7 => ?_)) ?_
  · rw [show decide (asum [(7, 2), (-1, 1)] = 3) = true from by kernel_rfl]; exact hj _ _ ⟨rfl, k7⟩
  rintro _ h7 ⟨rfl, k7⟩
  refine w_ifT rfl (t_QObjects (x6.keep k7) fun s h8 bu8 k8 f8 => w_new fun n hn => ?_)
  have e8 : isort (([(7, 2), (-1, 1)] : List (Int × Int)).map (·.1)) = [-1, 7] := rising_eq (isort_rising (by decide)) (by decide) fun x => by
    rw [(isort_perm _).mem_iff]; simp [or_comm]
  rw [e8] at bu8
  refine t_ints12 (vs := [-1, 7]) (bu8.arr.keep (.new hn)) ⟨rfl, Nat.le_refl _, fun _ => ⟨_, rfl, At.own (l1 := []) (l2 := flat (cInt .i64) [-1, 7]) (l3 := []) (upd_same _ _ _) rfl⟩⟩ (by simp) ?_
  rw [decide_eq_true rfl]
  exact y _ ((((keep _ ch).trans k7).trans k8).trans (.new hn))
/-- Sums over sorted keys. -/
theorem sum_keys {l : List (Int × Int)} (ho : Once l) : ∀ ks : List Int, ks.Perm (l.map (·.1)) → (ks.map (cnt l)).sum = asum l := by
  intro ks hp
  have h1 : (ks.map (cnt l)).Perm ((l.map (·.1)).map (cnt l)) := hp.map _
  have h2 : ∀ a b : List Int, a.Perm b → a.sum = b.sum := fun a b z => by
    induction z with
    | nil => rfl
    | cons x _ ih => simp [ih]
    | swap x y l => simp; omega
    | trans _ _ a b => exact a.trans b
  rw [h2 _ _ h1, List.map_map]
  have h3 : ∀ r : List (Int × Int), (∀ q ∈ r, q ∈ l) → (r.map ((cnt l) ∘ (·.1))).sum = asum r := by
    intro r
    induction r with
    | nil => intro _; rfl
    | cons q r ih =>
      intro hr
      have hq := ho.look (k := q.1) (v := q.2) (hr q (List.mem_cons_self ..))
      have e : (cnt l ∘ fun x : Int × Int => x.1) q = q.2 := by show cnt l q.1 = q.2; unfold cnt; rw [hq]; rfl
      rw [List.map_cons, List.sum_cons, e, ih fun z hz => hr z (List.mem_cons_of_mem _ hz)]; rfl
  exact h3 l fun _ h => h
def low8 (x : Int) : Int := iAdd .i64 1 (iAnd .i64 x 255)
theorem low8_range (x : Int) : 1 ≤ low8 x ∧ low8 x ≤ 256 := by
  unfold low8 iAnd
  have h1 : (BitVec.ofInt IntKind.i64.bits x &&& BitVec.ofInt IntKind.i64.bits 255).toNat ≤ 255 := by
    rw [BitVec.toNat_and]
    have : (BitVec.ofInt IntKind.i64.bits 255).toNat = 255 := by decide
    rw [this]
    exact Nat.and_le_right
  generalize (BitVec.ofInt IntKind.i64.bits x &&& BitVec.ofInt IntKind.i64.bits 255).toNat = n at h1
  rw [i64_eq (by omega) (by omega), iAdd_eq (by omega) (by omega)]
  omega
/-- What a quota may hold. -/
def Within (each all : Int) (l : List (Int × Int)) : Prop := asum l ≤ all ∧ ∀ k, cnt l k ≤ each
theorem cnt_set (k v k' : Int) (l : List (Int × Int)) : cnt (aset l k v) k' = if k' = k then v else cnt l k' := by
  unfold cnt
  rw [alook_set]
  split <;> rfl
theorem cnt_del (k k' : Int) {l : List (Int × Int)} (x : Once l) : cnt (adel l k) k' = if k' = k then 0 else cnt l k' := by
  unfold cnt
  rw [alook_del k k' l x]
  split <;> rfl
theorem within_add (w : Within each all l) (k : Int) : Within each all (addL each all l k) := by
  unfold addL
  split
  · rename_i e
    obtain ⟨m1, m2⟩ := may_zero e
    refine ⟨?_, fun k' => ?_⟩
    · rw [asum_set]; show asum l - cnt l k + (cnt l k + 1) ≤ all; omega
    · rw [cnt_set]; split
      · omega
      · exact w.2 k'
  · exact w
theorem subL_eq {l : List (Int × Int)} {k n : Int} (ho : Once l) (e : subOk l k n = true) : asum (subL l k n) = asum l - n ∧ ∀ k', cnt (subL l k n) k' = if k' = k then cnt l k - n else cnt l k' := by
  unfold subL
  rw [if_pos e]
  split
  · rename_i z
    refine ⟨by rw [asum_del]; show asum l - cnt l k = _; omega, fun k' => ?_⟩
    rw [cnt_del k k' ho, z]
  · refine ⟨by rw [asum_set]; show asum l - cnt l k + (cnt l k - n) = _; omega, fun k' => cnt_set _ _ _ _⟩
theorem within_sub (w : Within each all l) (ho : Once l) (k n : Int) : Within each all (subL l k n) := by
  cases e : subOk l k n with
  | false => unfold subL; rw [e]; exact w
  | true =>
    obtain ⟨h1, h2⟩ := subL_eq ho e
    unfold subOk at e
    rw [Bool.and_eq_true, decide_eq_true_eq, decide_eq_true_eq] at e
    refine ⟨by rw [h1]; have := w.1; omega, fun k' => ?_⟩
    rw [h2]
    split
    · have := w.2 k; omega
    · exact w.2 k'
theorem add_code (k : Int) : decide (mayOf each all l k = 0) = (decide (cnt l k < each) && decide (asum l < all)) := by
  unfold mayOf
  rw [Bool.eq_iff_iff]
  simp only [decide_eq_true_eq, Bool.and_eq_true]
  constructor
  · intro h
    split at h
    · cases h
    · split at h
      · cases h
      · omega
  · rintro ⟨h1, h2⟩
    rw [if_neg (by omega), if_neg (by omega)]
theorem op_len : ∀ x : S_law12_Op, (S_law12_Op.cells x).length = 4 := fun _ => rfl
theorem t_QuotaSums {e0 a0 : Int} {s : Sl} {ops : List S_law12_Op} (ar : Arr S_law12_Op.cells h s ops) (hn : ops.length ≤ 9223372036854775807) {K : Bool → H → Prop} (y : ∀ h', Keeps h h' → K true h') : m_law12_QuotaSums e0 a0 s K h := by
  have hal := ar.len
  unfold m_law12_QuotaSums
  refine t_head12 fun h1 k1 => w_ifF rfl ?_
  have re := low8_range e0
  have ra := low8_range a0
  show m_quota_New (low8 e0) (low8 a0) _ h1
  refine t_QNew (fun e => by omega) fun _ _ _ _ p b h2 x2 k2 fp fb => w_ifF rfl ?_
  have keep : ∀ h', Chg b h2 h' → Keeps h h' := fun h' c => k1.trans (k2.but c.but fun n e => by subst e; exact fb)
  have arK : ∀ h', Chg b h2 h' → Arr S_law12_Op.cells h' s ops := fun h' c => ar.keep (keep h' c)
  refine w_for ops.length (fun j z h' => z = (j : Int) ∧ ∃ l, QuotaAt h' p b (low8 e0) (low8 a0) l ∧ Within (low8 e0) (low8 a0) l ∧ Chg b h2 h') ?_ ⟨rfl, [], x2, ⟨by show (0 : Int) ≤ _; omega, fun k => by show (0 : Int) ≤ _; omega⟩, .refl _ _⟩
  rintro rec j _ h3 hj ⟨rfl, l, x3, w3, c3⟩ more
  refine w_if' (fun c => ?_) fun c => ?_
  · have c : (j : Int) < (s.len : Int) := c
    have eo : ops[j]? = some ops[j] := List.getElem?_eq_getElem (by omega)
    generalize ops[j] = o at eo
    refine w_get op_len (arK h3 c3) eo rfl (v' := o) rfl ?_
    refine t_QOf x3 (t_QAll x3 fun h4 k4 => ?_)
    have x4 := x3.keep k4
    have c4 := c3.trans (Chg.keeps k4)
    clear x3 c3 k4
    have c0 := cnt_nonneg x4.pos o.Obj
    have cl := cnt_le x4.pos o.Obj
    have bd := x4.bnd
    refine w_joinP (fun r h' => ∃ l', QuotaAt h' p b (low8 e0) (low8 a0) l' ∧ Within (low8 e0) (low8 a0) l' ∧ Chg b h2 h' ∧ (r ≠ 0 → l' = l)) (fun jj hj => w_if' (fun ck => ?_) fun ck => ?_) ?_
    · -- Sub
      refine t_QSub x4 fun h5 x5 c5 => ?_
      have w5 := within_sub w3 x4.once o.Obj o.N
      have cc := c4.trans c5
      have fin : ∀ h6, Keeps h5 h6 → jj (if subOk l o.Obj o.N = true then 0 else 20) h6 := fun h6 k6 => hj _ _ ⟨_, x5.keep k6, w5, cc.trans (.keeps k6), fun hr => by
        unfold subL
        split at hr
        · exact absurd rfl hr
        · rename_i q; rw [if_neg q]⟩
      have hcode : decide ((if subOk l o.Obj o.N = true then (0 : Int) else 20) = 0) = subOk l o.Obj o.N := by
        cases subOk l o.Obj o.N <;> rfl
      refine w_joinP (fun r h' => r = false ∧ Keeps h5 h') (fun j2 hj2 => w_ifF ?_ (w_if (fun c6 => ?_) fun c6 => hj2 _ _ ⟨rfl, .refl _⟩)) ?_
      · rw [hcode]
        show (!(subOk l o.Obj o.N == subOk l o.Obj o.N)) = false
        rw [beq_self_eq_true]; rfl
      · rw [hcode] at c6
        obtain ⟨q1, q2⟩ := subL_eq x4.once c6
        have c6' := c6
        unfold subOk at c6'
        rw [Bool.and_eq_true, decide_eq_true_eq, decide_eq_true_eq] at c6'
        refine t_QOf x5 (w_ifF ?_ (t_QAll x5 fun h6 k6 => ?_))
        · rw [q2, if_pos rfl, iSub_eq (by omega) (by omega), decide_eq_true rfl]; rfl
        · rw [q1, iSub_eq (by omega) (by omega), decide_eq_true rfl]
          exact hj2 _ _ ⟨rfl, k6⟩
      · rintro _ h6 ⟨rfl, k6⟩
        exact w_ifF rfl (fin h6 k6)
    · -- Add
      refine t_QAdd x4 ra.2 fun h5 x5 c5 => ?_
      have w5 := within_add w3 o.Obj
      have cc := c4.trans c5
      have fin : ∀ h6, Keeps h5 h6 → jj (mayOf (low8 e0) (low8 a0) l o.Obj) h6 := fun h6 k6 => hj _ _ ⟨_, x5.keep k6, w5, cc.trans (.keeps k6), fun hr => by
        unfold addL; rw [if_neg hr]⟩
      refine w_joinP (fun r h' => r = false ∧ Keeps h5 h') (fun j2 hj2 => w_ifF ?_ (w_if' (fun c6 => ?_) fun c6 => hj2 _ _ ⟨rfl, .refl _⟩)) ?_
      · rw [add_code]
        show (!((decide (cnt l o.Obj < low8 e0) && decide (asum l < low8 a0)) == (decide (cnt l o.Obj < low8 e0) && decide (asum l < low8 a0)))) = false
        rw [beq_self_eq_true]; rfl
      · have el : addL (low8 e0) (low8 a0) l o.Obj = aset l o.Obj (cnt l o.Obj + 1) := by unfold addL; rw [if_pos c6]
        rw [el] at x5
        refine t_QOf x5 (w_ifF ?_ (t_QAll x5 fun h6 k6 => ?_))
        · rw [cnt_set, if_pos rfl, iAdd_eq (by omega) (by omega), decide_eq_true rfl]; rfl
        · have e7 : asum (aset l o.Obj (cnt l o.Obj + 1)) = asum l + 1 := by
            rw [asum_set]; show asum l - cnt l o.Obj + (cnt l o.Obj + 1) = _; omega
          rw [e7, iAdd_eq (by omega) (by omega), decide_eq_true rfl]
          exact hj2 _ _ ⟨rfl, k6⟩
      · rintro _ h6 ⟨rfl, k6⟩
        exact w_ifF rfl (fin h6 k6)
    · clear x4 c4
      rintro r h5 ⟨l', x5, w5, c5, hr⟩
      refine w_joinP (fun z h' => z = false ∧ Keeps h5 h') (fun j2 hj2 => w_if (fun c6 => ?_) fun c6 => hj2 _ _ ⟨rfl, .refl _⟩) ?_
      · rw [Bool.not_eq_true', decide_eq_false_iff_not] at c6
        have := hr c6
        subst this
        refine t_QOf x5 (w_ifF (by rw [decide_eq_true rfl]; rfl) (t_QAll x5 fun h6 k6 => ?_))
        rw [decide_eq_true rfl]
        exact hj2 _ _ ⟨rfl, k6⟩
      rintro _ h6 ⟨rfl, k6⟩
      have x6 := x5.keep k6
      have c6 := c5.trans (Chg.keeps k6)
      clear x5 c5 k6 hr w3 c0 cl bd
      refine w_ifF rfl (t_QObjects x6 fun so h7 bo k7 fo => ?_)
      have x7 := x6.keep k7
      have c7 := c6.trans (Chg.keeps k7)
      have lo := bo.len
      have hp := isort_perm (l'.map (·.1))
      have hris := isort_rising x7.once
      have hsum := sum_keys x7.once _ hp
      have hmem : ∀ k, k ∈ isort (l'.map (·.1)) → 1 ≤ cnt l' k := fun k hk => by
        obtain ⟨q, hq, rfl⟩ := List.mem_map.1 (hp.subset hk)
        have := x7.once.look (k := q.1) (v := q.2) hq
        unfold cnt
        rw [this]; exact x7.pos q hq
      have hkl : (isort (l'.map (·.1))).length ≤ 256 := by rw [isort_len, List.length_map]; exact x7.len
      have bd := x7.bnd
      generalize isort (l'.map (·.1)) = ks at bo lo hp hris hsum hmem hkl
      have part : ∀ i, i ≤ ks.length → ((ks.take i).map (cnt l')).sum + ((ks.drop i).map (cnt l')).sum = asum l' := fun i _ => by
        rw [← hsum, ← List.sum_append, ← List.map_append, List.take_append_drop]
      have posn : ∀ r : List Int, (∀ k ∈ r, k ∈ ks) → 0 ≤ (r.map (cnt l')).sum := by
        intro r
        induction r with
        | nil => intro _; exact Int.le_refl _
        | cons a r ih =>
          intro hr
          have h1 := ih fun k hk => hr k (List.mem_cons_of_mem _ hk)
          have h2 := hmem a (hr a (List.mem_cons_self ..))
          rw [List.map_cons, List.sum_cons]; omega
      refine w_for ks.length (fun i z h' => z = (((ks.take i).map (cnt l')).sum, (i : Int)) ∧ h7 = h') ?_ ⟨rfl, rfl⟩
      rintro rec2 i _ _ hi ⟨rfl, rfl⟩ more2
      refine w_if' (fun c8 => ?_) fun c8 => ?_
      · have c8 : (i : Int) < (so.len : Int) := c8
        have hik : i < ks.length := by omega
        have ek : ks[i]? = some ks[i] := List.getElem?_eq_getElem hik
        have hk1 := hmem ks[i] (List.getElem_mem hik)
        refine w_get ci_len bo.arr ek rfl (v' := ks[i]) rfl (t_QOf x7 ?_)
        refine w_joinV false (fun j3 hj3 => ?_) (w_ifF rfl ?_)
        · refine w_ifF ?_ (w_if' (fun c9 => ?_) fun _ => hj3)
          · have := w5.2 ks[i]
            show (decide (cnt l' ks[i] < 1) || decide (low8 e0 < cnt l' ks[i])) = false
            rw [decide_eq_false (by omega), decide_eq_false (by omega)]; rfl
          · have c9 : (0 : Int) < (i : Int) := c9
            have ek1 : ks[i - 1]? = some ks[i - 1] := List.getElem?_eq_getElem (by omega)
            show mIdx so (i : Int) 1 (fun ad40 => mIdx so (iSub .i64 (i : Int) 1) 1 _) h7
            rw [is1 i (by omega) (by omega)]
            refine w_idx ci_len bo.arr ek rfl fun a1 _ g1 => w_idx ci_len bo.arr ek1 rfl fun a2 _ g2 => w_load g1 (w_load g2 ?_)
            have hlt : ks[i - 1] < ks[i] := List.pairwise_iff_getElem.1 hris (i - 1) i (by omega) hik (by omega)
            rw [decide_eq_false (by omega)]
            exact hj3
        · have hp1 := part i hi
          have hd : ks.drop i = ks[i] :: ks.drop (i + 1) := by rw [List.drop_eq_getElem_cons hik]
          rw [hd, List.map_cons, List.sum_cons] at hp1
          have hd2 := posn (ks.drop (i + 1)) fun k hk => List.mem_of_mem_drop hk
          have hd3 := posn (ks.take i) fun k hk => List.mem_of_mem_take hk
          have et : ((ks.take (i + 1)).map (cnt l')).sum = ((ks.take i).map (cnt l')).sum + cnt l' ks[i] := by
            rw [List.take_add_one, ek, Option.toList_some, List.map_append, List.sum_append]; simp
          have ei : iAdd .i64 ((ks.take i).map (cnt l')).sum (cnt l' ks[i]) = ((ks.take (i + 1)).map (cnt l')).sum := by
            rw [iAdd_eq (by omega) (by omega), et]
          show rec2 (iAdd .i64 ((ks.take i).map (cnt l')).sum (cnt l' ks[i]), iAdd .i64 (i : Int) 1) h7
          rw [ei, ia1 i (by omega)]
          exact more2 _ _ hik ⟨rfl, rfl⟩
      · have c8 : ¬ (i : Int) < (so.len : Int) := c8
        obtain rfl : i = ks.length := by omega
        refine t_QAll x7 fun h8 k8 => w_ifF ?_ ?_
        · have := w5.1
          show ((!decide (((ks.take ks.length).map (cnt l')).sum = asum l')) || decide (low8 a0 < ((ks.take ks.length).map (cnt l')).sum)) = false
          rw [List.take_length, hsum, decide_eq_true rfl, decide_eq_false (by omega)]; rfl
        · rw [iAdd_eq (by omega) (by omega)]
          exact more _ _ (by omega) ⟨by omega, l', x7.keep k8, w5, c7.trans (.keeps k8)⟩
  · clear more rec c
    refine t_QObjects x3 fun so h4 bo k4 fo => ?_
    have x4 := x3.keep k4
    have c4 := c3.trans (Chg.keeps k4)
    have lo := bo.len
    have hp := isort_perm (l.map (·.1))
    have hnd : (isort (l.map (·.1))).Nodup := isort_nodup x3.once
    have hkl : (isort (l.map (·.1))).length ≤ 256 := by rw [isort_len, List.length_map]; exact x4.len
    generalize isort (l.map (·.1)) = ks at bo lo hp hnd hkl
    have fob : ¬ so.foot b := fun f => by
      obtain ⟨_, _, e, _⟩ := x3.map.ex
      have := fo b f
      rw [e] at this; cases this
    refine w_for ks.length (fun i z h' => z = (i : Int) ∧ Buf (cInt .i64) 1 N_int h' so ks ∧ Chg b h2 h' ∧ ∃ l', QuotaAt h' p b (low8 e0) (low8 a0) l' ∧ (ks.drop i).Perm (l'.map Prod.fst)) ?_ ⟨rfl, bo, c4, l, x4, hp⟩
    rintro rec i _ h5 hi ⟨rfl, bo5, c5, l', x5, hp5⟩ more
    refine w_if' (fun c6 => ?_) fun c6 => ?_
    · have c6 : (i : Int) < (so.len : Int) := c6
      have hik : i < ks.length := by omega
      have ek : ks[i]? = some ks[i] := List.getElem?_eq_getElem hik
      have hd : ks.drop i = ks[i] :: ks.drop (i + 1) := by rw [List.drop_eq_getElem_cons hik]
      rw [hd] at hp5
      have hnd2 : (ks[i] :: ks.drop (i + 1)).Nodup := by rw [← hd]; exact hnd.sublist (List.drop_sublist _ _)
      generalize ks[i] = k at ek hp5 hnd2
      refine w_idx ci_len bo5.arr ek rfl fun a1 _ g1 => w_idx ci_len bo5.arr ek rfl fun a2 _ g2 => w_load g2 ?_
      refine w_joinV (k, cnt l' k) (fun jj hj => w_both (w_load g1 (t_QOf x5 hj)) (t_QOf x5 (w_load g1 hj))) ?_
      refine t_QSub x5 fun h6 x6 c7 => ?_
      have h0 := cnt_nonneg x5.pos k
      have ok : subOk l' k (cnt l' k) = true := by
        unfold subOk
        rw [Bool.and_eq_true, decide_eq_true_eq, decide_eq_true_eq]; omega
      have ho5 : (l'.map (·.1)).Nodup := x5.once
      have esub : subL l' k (cnt l' k) = adel l' k := by
        unfold subL; rw [if_pos ok, if_pos (by omega)]
      rw [esub] at x6
      rw [ok]
      refine w_ifF rfl ?_
      rw [ia1 i (by omega)]
      refine more _ _ hik ⟨rfl, bo5.but c7.but fun a ha e => fob ⟨a, ha, e⟩, c5.trans c7, adel l' k, x6, ?_⟩
      rw [adel_keys k l' ho5]
      have := hp5.erase k
      rw [List.erase_cons_head] at this
      exact this
    · have c6 : ¬ (i : Int) < (so.len : Int) := c6
      obtain rfl : i = ks.length := by omega
      rw [List.drop_length] at hp5
      have hl' : l' = [] := by
        have := hp5.length_eq
        simp at this
        exact List.length_eq_zero_iff.1 (by omega)
      subst hl'
      refine t_QAll x5 fun h6 k6 => w_ifT rfl (t_QObjects (x5.keep k6) fun s7 h7 b7 k7 f7 => ?_)
      have l7 := b7.len
      have : (decide ((s7.len : Int) = 0)) = true := by
        rw [l7]
        have : (isort (([] : List (Int × Int)).map (·.1))).length = 0 := by rw [isort_len]; rfl
        rw [this]; rfl
      rw [this]
      exact y _ (((keep h5 c5).trans k6).trans k7)
end
end Go.Proofs.Ytlnlmideghepnaa.K
