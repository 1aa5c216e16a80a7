/- Parts of package slices: Delete, Index, Reverse; calls of function values. -/
import Derived.Test.YtiajjcboddaenaaL8
import Derived.Test.YtiajjcboddaenaaU1
import Derived.Test.YtiajjcboddaenaaQ7
namespace Go.Proofs.Ytiajjcboddaenaa.K
open Go
/-- A call of a function of the program that is bound to some of its arguments. -/
theorem callV_of {P : Program} (s : Spec P) {first cap : Array Value} {args : List Value} (a : Den s.A) (e : first ++ args.toArray ++ cap = (valsD s.A a).toArray) {k : Den s.R → HP} {h : H} (hm : s.m a k h) :
    mCallV P (fun r => outV (valsD s.R r)) (.func (.func s.f) first cap) args k h := by
  obtain ⟨fn, c⟩ := s.callee
  exact .inl ⟨_, fn, first, cap, rfl, c, by rw [e]; exact s.ok a k h hm⟩
section
variable {T : Type} {cells : T → List Value} {sz by_ : Nat} {e : TypeId} {h : H}
/-- append where there is room. -/
theorem w_appIn (hs : ∀ x, (cells x).length = sz) {zero : Array Value} (hz : zero.size = sz) {m : Nat} {new : List Value} {s : Sl} {xs : List T} (x : Buf cells sz e h s xs) (ys : List T) (hnew : new = flat cells ys) (hm : m = ys.length) (fit : s.len + ys.length ≤ s.cap)
    (room : (2 * (xs.length + ys.length) + 192) * by_ ≤ 2 ^ 48) {k : Sl → H → Prop} (y : ∀ h', Buf cells sz e h' ⟨s.a, s.len + ys.length, s.cap⟩ (xs ++ ys) → But s.foot h h' → (∀ b, h' b = none → h b = none) → k ⟨s.a, s.len + ys.length, s.cap⟩ h') : mApp e sz by_ zero m new s k h := by
  subst hm; subst hnew
  refine ⟨fun hle => ?_, fun hgt => absurd fit hgt⟩
  have old := (w_app hs hz x ys rfl rfl (.inl room) (k := fun s' h' => s' = ⟨s.a, s.len + ys.length, s.cap⟩ → k s' h') (fun s' h' bu b _ d eq => by subst eq; exact y h' bu b d) : mApp e sz by_ zero ys.length (flat cells ys) s _ h).1 hle
  obtain ⟨sa, sl, sc⟩ := s
  cases sa with
  | none => exact ⟨old.1, old.2 rfl⟩
  | some a =>
    rcases old with ⟨p, q⟩ | ⟨p, c, e', fz, hb, hl, hf, q⟩
    · exact .inl ⟨p, q rfl⟩
    · exact .inr ⟨p, c, e', fz, hb, hl, hf, q rfl⟩
theorem foot_front {s : Sl} {n c b : Nat} (f : (⟨s.a, n, c⟩ : Sl).foot b) : s.foot b := f
/-- A slice's beginning, with all room behind it. -/
theorem Buf.front {s : Sl} {xs : List T} (x : Buf cells sz e h s xs) {n : Nat} (hn : n ≤ xs.length) : Buf cells sz e h ⟨s.a, n, s.cap⟩ (xs.take n) := by
  have hl := x.len
  have hc := x.cap
  refine ⟨by show n = _; rw [List.length_take]; omega, by show n ≤ s.cap; omega, x.at_.imp id fun ⟨b, z, fz, ha, hb, hz, ht⟩ => ⟨b, flat cells (xs.drop n) ++ z, fz, ha, ?_, ?_, ht⟩⟩
  · rw [← List.append_assoc, ← flat_append, List.take_append_drop]; exact hb
  · rw [← List.append_assoc, ← flat_append, List.take_append_drop]; exact hz
/-- slices.Delete of one element. -/
theorem w_delete (hs : ∀ x, (cells x).length = sz) (hp : ∀ x, (cells x).all plainVal = true) (z0 : T) {zero : Array Value} (hz : zero = (cells z0).toArray) {s : Sl} {xs : List T} (x : Buf cells sz e h s xs) {i : Nat} (hi : i < xs.length) (room : (2 * xs.length + 192) * by_ ≤ 2 ^ 48) {i' j' : Int} (ei : i' = i) (ej : j' = ((i + 1 : Nat) : Int)) {k : Sl → H → Prop}
    (y : ∀ s' h', Buf cells sz e h' s' (xs.eraseIdx i) → (∀ b, s'.foot b → s.foot b) → But s.foot h h' → (∀ b, h' b = none → h b = none) → k s' h') :
    mCut3 s i' j' (s.len : Int) sz (fun _ => mIf (decide (i' = j')) (k s) (mCut s 0 i' sz fun s2 => mCut s j' (s.len : Int) sz fun s3 => mAppend e sz by_ zero s2 s3 fun s4 => mCut s4 (s4.len : Int) (s.len : Int) sz fun s5 => mClear zero s5 <| k s4)) h := by
  subst ei; subst ej
  have hl := x.len
  have hc := x.cap
  refine ⟨_, ⟨by omega, by omega, by omega, by omega, rfl⟩, w_if' (fun c => by omega) fun _ => ?_⟩
  have hcut : (if s.cap = 0 then s.a else s.a.map (·.add (0 * sz))) = s.a := by
    split
    · rfl
    · cases s.a <;> simp [add_zero]
  refine w_cut (lo := 0) (hi := i) rfl rfl (Nat.zero_le _) (by omega) ?_
  rw [hcut, Nat.sub_zero, Nat.sub_zero]
  refine w_mid hs x.arr (lo := i + 1) (hi := xs.length) (by omega) (Nat.le_refl _) rfl (by rw [hl]) fun s3 a3 _ _ _ => ?_
  have bu2 := x.front (n := i) (by omega)
  have e3 : (xs.drop (i + 1)).take (xs.length - (i + 1)) = xs.drop (i + 1) := by rw [List.take_of_length_le]; rw [List.length_drop]; omega
  rw [e3] at a3
  have hl3 : (xs.drop (i + 1)).length = xs.length - (i + 1) := List.length_drop ..
  have hl2 : (xs.take i).length = i := by rw [List.length_take]; omega
  refine ⟨flat cells (xs.drop (i + 1)), a3.row, fun _ => by rw [flat_len hs, a3.len], ?_, w_appIn hs (by rw [hz, List.size_toArray, hs]) bu2 (xs.drop (i + 1)) rfl a3.len (by rw [hl3]; show i + _ ≤ s.cap; omega) (Nat.le_trans (Nat.mul_le_mul_right _ (by omega)) room) fun h4 bu4 b4 d4 => ?_⟩
  · rw [List.all_eq_true]
    intro v hv
    obtain ⟨t, _, hv⟩ := List.mem_flatMap.1 hv
    exact List.all_eq_true.1 (hp t) v hv
  have exs : xs.take i ++ xs.drop (i + 1) = xs.eraseIdx i := by rw [List.eraseIdx_eq_take_drop_succ]
  rw [exs] at bu4
  have hlen : i + (xs.drop (i + 1)).length = xs.length - 1 := by omega
  show mCut ⟨s.a, i + (xs.drop (i + 1)).length, s.cap⟩ ((i + (xs.drop (i + 1)).length : Nat) : Int) (s.len : Int) sz _ h4
  have bu4' : Buf cells sz e h4 ⟨s.a, i + (xs.drop (i + 1)).length, s.cap⟩ (xs.eraseIdx i) := bu4
  rw [hlen] at bu4' ⊢
  refine w_cut (lo := xs.length - 1) (hi := s.len) rfl rfl (by omega) (by show s.len ≤ s.cap; omega) ?_
  have el : (xs.eraseIdx i).length = xs.length - 1 := by rw [List.length_eraseIdx, if_pos hi]
  rcases bu4'.at_ with ⟨ha, h0⟩ | ⟨b, z, fz, ha, hb, hzl, hth⟩
  · have h0 : s.cap = 0 := h0
    omega
  have ha : s.a = some ⟨b, 0, none⟩ := ha
  have hzl : (flat cells (xs.eraseIdx i) ++ z).length = s.cap * sz := hzl
  have hth : Thawed fz (s.cap * sz) := hth
  have hne : s.cap ≠ xs.length - 1 := by omega
  show mClear zero ⟨if s.cap = xs.length - 1 then s.a else s.a.map (·.add ((xs.length - 1) * sz)), s.len - (xs.length - 1), s.cap - (xs.length - 1)⟩ _ h4
  rw [if_neg hne, ha, show s.len - (xs.length - 1) = 1 by omega]
  refine .inr ⟨by show (1 : Nat) ≠ 0; omega, (⟨b, 0, none⟩ : Addr).add ((xs.length - 1) * sz), rfl, ?_⟩
  rw [show (Builtin.zeroCells zero 1).toList = flat cells (List.replicate 1 z0) from zero_flat hs z0 hz 1]
  have hzn : sz ≤ z.length := by
    rw [List.length_append, flat_len hs, el] at hzl
    have : (xs.length - 1) * sz + sz ≤ s.cap * sz := by rw [← Nat.succ_mul]; exact Nat.mul_le_mul_right _ (by omega)
    omega
  have hb' : h4 b = some (.cells (flat cells (xs.eraseIdx i) ++ z.take sz ++ z.drop sz).toArray e fz) := by rw [List.append_assoc, List.take_append_drop]; exact hb
  refine w_storeF (l1 := flat cells (xs.eraseIdx i)) (addr_add _ _ _) hb' (by rw [List.append_assoc, List.take_append_drop, hzl]; exact hth) (by rw [flat_len hs, el, Nat.zero_add]) (by rw [flat_len hs, List.length_replicate, List.length_take]; omega) ?_
  refine y _ _ ⟨bu4'.len, bu4'.cap, .inr ⟨b, flat cells (List.replicate 1 z0) ++ z.drop sz, fz, rfl, ?_, ?_, hth⟩⟩ (fun b f => ⟨_, ha, (by obtain ⟨a, q, r⟩ := f; cases q; exact r)⟩) (b4.trans (But.upd (F := (· = b)) rfl) fun n q => .inl ⟨_, ha, q.symm⟩) fun c hc => d4 c (upd_none.1 hc).2
  · rw [upd_same, List.append_assoc]
  · rw [← hzl, List.length_append, List.length_append, List.length_append, flat_len hs, flat_len hs, List.length_replicate, List.length_drop]; omega
end
section
variable {h : H}
theorem w_index {s : Sl} {xs : List Int} (x : Arr (cInt .i64) h s xs) (hn : xs.length ≤ 2 ^ 40) {v : Int} (hv : v ∈ xs) {K : Int → H → Prop} (y : K ((xs.idxOf v : Nat) : Int) h) :
    mLoop (fun (rec : Int → H → Prop) (i : Int) => mIf (decide (i < (s.len : Int))) (mIdx s i 1 fun a => mLoad (cInt .i64) a fun z => mIf (decide (v = z)) (K i) (rec (iAdd .i64 i 1))) (K (-1))) 0 h := by
  have hl := x.len
  refine w_for xs.length (fun i z h' => z = (i : Int) ∧ h = h' ∧ i ≤ xs.idxOf v) ?_ ⟨rfl, rfl, Nat.zero_le _⟩
  rintro rec i z h' hi ⟨rfl, rfl, hle⟩ more
  have hlt := List.idxOf_lt_length_of_mem hv
  refine w_if' (fun c => ?_) fun c => by have c : ¬ (i : Int) < (s.len : Int) := c; omega
  have hi' : i < xs.length := by omega
  refine w_idx ci_len x (List.getElem?_eq_getElem hi') rfl fun a _ ha => w_load ha (w_if' (fun e => ?_) fun e => ?_)
  · have : xs.idxOf v ≤ i := by
      rcases Nat.lt_or_ge i (xs.idxOf v) with q | q
      · exact absurd e.symm (by have := List.not_of_lt_findIdx (p := (· == v)) (xs := xs) q; simpa using this)
      · exact q
    obtain rfl : i = xs.idxOf v := by omega
    exact y
  · refine more _ _ hi' ⟨ia1 i (by omega), rfl, ?_⟩
    rcases Nat.lt_or_ge i (xs.idxOf v) with q | q
    · exact q
    · obtain rfl : i = xs.idxOf v := by omega
      exact absurd (List.getElem_idxOf hlt).symm e
/-- slices.Reverse. -/
theorem w_reverse {s : Sl} {xs : List Int} (x : Buf (cInt .i64) 1 N_int h s xs) (hn : xs.length ≤ 2 ^ 40) {K : Unit → H → Prop} (y : ∀ h', Buf (cInt .i64) 1 N_int h' s xs.reverse → But s.foot h h' → (∀ b, h' b = none → h b = none) → K () h') :
    mLoop (fun (rec : (Int × Int) → H → Prop) (z : Int × Int) => mIf (decide (z.1 < z.2)) (mIdx s z.2 1 fun a => mIdx s z.1 1 fun b => mLoad (cInt .i64) a fun u => mLoad (cInt .i64) b fun v => mIdx s z.1 1 fun c => mStore c [.int .i64 u] <| mIdx s z.2 1 fun d => mStore d [.int .i64 v] <| rec (iAdd .i64 z.1 1, iSub .i64 z.2 1)) (K ())) (0, iSub .i64 (s.len : Int) 1) h := by
  have hl := x.len
  refine w_for xs.length (fun i (z : Int × Int) h' => z = ((i : Int), (xs.length : Int) - 1 - i) ∧ 2 * i ≤ xs.length + 1 ∧ ∃ ys, Buf (cInt .i64) 1 N_int h' s ys ∧ ys.length = xs.length ∧ (∀ k, k < xs.length → ys[k]? = if k < i ∨ xs.length - i ≤ k then xs[xs.length - 1 - k]? else xs[k]?) ∧ But s.foot h h' ∧ ∀ b, h' b = none → h b = none) ?_
    ⟨by rw [iSub_eq (by omega) (by omega), hl]; simp, by omega, xs, x, rfl, fun k hk => by rw [if_neg (by omega)], .refl _ _, fun _ q => q⟩
  rintro rec i z h' hi ⟨rfl, h2, ys, bu, hy, hg, bt, dm⟩ more
  refine w_if' (fun c => ?_) fun c => ?_
  · have c : (i : Int) < (xs.length : Int) - 1 - i := c
    have hij : i < xs.length - 1 - i := by omega
    have ej : (xs.length : Int) - 1 - i = ((xs.length - 1 - i : Nat) : Int) := by omega
    show mIdx s ((xs.length : Int) - 1 - i) 1 _ h'
    rw [ej]
    obtain ⟨u, hu⟩ : ∃ u, ys[xs.length - 1 - i]? = some u := ⟨_, List.getElem?_eq_getElem (by omega)⟩
    obtain ⟨v, hv⟩ : ∃ v, ys[i]? = some v := ⟨_, List.getElem?_eq_getElem (by omega)⟩
    refine w_idx ci_len bu.arr hu rfl fun a _ ha => w_idx ci_len bu.arr hv rfl fun b _ hb => w_load ha (w_load hb ?_)
    refine w_put ci_len bu (i := i) (by omega) rfl u rfl fun h3 bu3 b3 d3 => ?_
    refine w_put ci_len bu3 (i := xs.length - 1 - i) (by rw [List.length_set]; omega) rfl v rfl fun h4 bu4 b4 d4 => ?_
    refine more _ _ (by omega) ⟨?_, by omega, _, bu4, by rw [List.length_set, List.length_set]; exact hy, fun k hk => ?_, (bt.trans b3 fun _ f => .inl f).trans b4 fun _ f => .inl f, fun b q => dm b (d3 b (d4 b q))⟩
    · show (iAdd .i64 (i : Int) 1, iSub .i64 ((xs.length - 1 - i : Nat) : Int) 1) = _
      rw [iAdd_eq (by omega) (by omega), iSub_eq (by omega) (by omega)]
      refine Prod.ext ?_ ?_ <;> dsimp only <;> omega
    · rw [List.getElem?_set, List.getElem?_set, List.length_set]
      have h1 := hg (xs.length - 1 - i) (by omega)
      have h3 := hg i (by omega)
      rw [if_neg (by omega), hu] at h1
      rw [if_neg (by omega), hv] at h3
      by_cases q1 : xs.length - 1 - i = k
      · rw [if_pos q1, if_pos (by omega), if_pos (by omega), h3]; congr 1; omega
      · rw [if_neg q1]
        by_cases q2 : i = k
        · rw [if_pos q2, if_pos (by omega), if_pos (by omega), h1]; congr 1; omega
        · rw [if_neg q2, hg k hk]
          by_cases q3 : k < i ∨ xs.length - i ≤ k
          · rw [if_pos q3, if_pos (by omega)]
          · rw [if_neg q3, if_neg (by omega)]
  · have c : ¬ (i : Int) < (xs.length : Int) - 1 - i := c
    have e : ys = xs.reverse := by
      apply List.ext_getElem?
      intro k
      rcases Nat.lt_or_ge k xs.length with q | q
      · rw [hg k q, List.getElem?_reverse q]
        split
        · rfl
        · congr 1; omega
      · rw [List.getElem?_eq_none (by omega), List.getElem?_eq_none (by rw [List.length_reverse]; exact q)]
    rw [e] at bu
    exact y h' bu bt dm
end
end Go.Proofs.Ytiajjcboddaenaa.K
