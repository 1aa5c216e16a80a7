/- Tables by capability: a row of places, found by hashes. -/
import Derived.Test.YtiajjcboddaenaaQu0
import Derived.Test.YtiajjcboddaenaaU1
import Derived.Test.YtiajjcboddaenaaFslots
import Derived.Test.YtiajjcboddaenaaFmask
import Derived.Test.YtiajjcboddaenaaFmix
namespace Go.Proofs.Ytiajjcboddaenaa.K
open Go
instance : DecidableEq S_api_Word := fun a b => decidable_of_iff (a.Hi = b.Hi ∧ a.Lo = b.Lo) ⟨fun ⟨h1, h2⟩ => by cases a; cases b; simp_all, fun e => by subst e; exact ⟨rfl, rfl⟩⟩
instance : DecidableEq S_api_Cap := fun a b => decidable_of_iff (a.Obj = b.Obj ∧ a.Pass = b.Pass) ⟨fun ⟨h1, h2⟩ => by cases a; cases b; simp_all, fun e => by subst e; exact ⟨rfl, rfl⟩⟩
theorem cap_eqB (x y : S_api_Cap) : ((decide (x.Obj = y.Obj)) && (((decide (x.Pass.Hi = y.Pass.Hi)) && ((decide (x.Pass.Lo = y.Pass.Lo)) && true)) && true)) = decide (x = y) := by
  obtain ⟨a, b, c⟩ := x
  obtain ⟨a', b', c'⟩ := y
  rw [Bool.eq_iff_iff]
  simp only [Bool.and_eq_true, decide_eq_true_eq, Bool.and_true, S_api_Cap.mk.injEq, S_api_Word.mk.injEq]
/-! The hash. -/
def mixR (h v : Int) : Int := iXor .u64 (iMul .u64 (iXor .u64 h v) 11400714819323198485) (iShr .u64 (iMul .u64 (iXor .u64 h v) 11400714819323198485) 29)
def hash (obj : Int) (w : S_api_Word) (knob : Int) : Int :=
  if knob ≤ 0 then 0 else if 64 ≤ knob then mixR (mixR (mixR 5903417616801668165 (IntKind.wrap .u64 obj)) w.Hi) w.Lo
  else iAnd .u64 (mixR (mixR (mixR 5903417616801668165 (IntKind.wrap .u64 obj)) w.Hi) w.Lo) (iSub .u64 (iShl .u64 1 knob) 1)
theorem t_Hash {h : H} {obj : Int} {w : S_api_Word} {knob : Int} {K : Int → H → Prop} (y : K (hash obj w knob) h) : m_mix_Hash obj w knob K h := by
  unfold m_mix_Hash
  refine ⟨4, ?_⟩
  refine w_ifF rfl (w_ifF rfl (w_ifF rfl ?_))
  refine w_ifT rfl ?_
  refine w_ifF rfl (w_ifT rfl ?_)
  refine w_ifF rfl (w_ifF rfl (w_ifT rfl ?_))
  unfold hash at y
  refine w_if' (fun c => by rw [if_pos c] at y; exact y) fun c => ?_
  rw [if_neg c] at y
  refine w_if' (fun c2 => by rw [if_pos c2] at y; exact y) fun c2 => ?_
  rw [if_neg c2] at y
  exact w_nn (by omega) y
theorem wrap_nat (x : Int) : ∃ n : Nat, IntKind.u64.wrap x = n ∧ n < 2 ^ 64 := ⟨(x % 18446744073709551616).toNat, by rw [wrap_u64]; omega, by omega⟩
theorem hash_nat (obj : Int) (w : S_api_Word) (knob : Int) : ∃ n : Nat, hash obj w knob = n ∧ n < 2 ^ 64 := by
  unfold hash
  split
  · exact ⟨0, rfl, by decide⟩
  · split
    · exact wrap_nat _
    · exact wrap_nat _
theorem w_hash {h : H} {obj : Int} {w : S_api_Word} {knob : Int} {k : Int → H → Prop} (y : k (hash obj w knob) h) : mPure (m_mix_Hash obj w knob) k h := w_pure _ (fun _ _ y => t_Hash y) y
/-! Ways through a row. -/
def home (knob : Int) (n : Nat) (c : S_api_Cap) : Nat := (hash c.Obj c.Pass knob).toNat % n
def path (knob : Int) (n : Nat) (c : S_api_Cap) (i : Nat) : Nat := (home knob n c + i) % n
section
variable {knob : Int} {n : Nat} {c : S_api_Cap}
theorem home_lt (hn : 0 < n) : home knob n c < n := Nat.mod_lt _ hn
theorem path_lt (hn : 0 < n) (i : Nat) : path knob n c i < n := Nat.mod_lt _ hn
theorem path_eq {i : Nat} (hi : i < n) : path knob n c i = if home knob n c + i < n then home knob n c + i else home knob n c + i - n := by
  have := home_lt (knob := knob) (c := c) (show 0 < n by omega)
  unfold path
  split
  · rename_i q; exact Nat.mod_eq_of_lt q
  · rename_i q; rw [Nat.mod_eq_sub_mod (by omega), Nat.mod_eq_of_lt (by omega)]
theorem path_inj {i j : Nat} (hi : i < n) (hj : j < n) (e : path knob n c i = path knob n c j) : i = j := by
  rw [path_eq hi, path_eq hj] at e
  split at e <;> split at e <;> omega
theorem path_sur {j : Nat} (hj : j < n) : ∃ i, i < n ∧ path knob n c i = j := by
  have := home_lt (knob := knob) (c := c) (show 0 < n by omega)
  by_cases q : home knob n c ≤ j
  · exact ⟨j - home knob n c, by omega, by rw [path_eq (by omega), if_pos (by omega)]; omega⟩
  · exact ⟨j + n - home knob n c, by omega, by rw [path_eq (by omega), if_neg (by omega)]; omega⟩
theorem path_code {i : Nat} (hn : 0 < n) (hm : n ≤ 512) (hi : i < n) : iRem .i64 (iAdd .i64 (IntKind.wrap .i64 (iRem .u64 (hash c.Obj c.Pass knob) (IntKind.wrap .u64 (n : Int)))) (i : Int)) (n : Int) = ((path knob n c i : Nat) : Int) := by
  obtain ⟨m, e, hm'⟩ := hash_nat c.Obj c.Pass knob
  have e1 : IntKind.u64.wrap (n : Int) = n := u_wrap (by omega)
  have e2 : iRem .u64 (m : Int) (n : Int) = ((m % n : Nat) : Int) := rfl
  have hlt : m % n < n := Nat.mod_lt _ hn
  rw [e, e1, e2, i64_eq (by omega) (by omega), iAdd_eq (by omega) (by omega)]
  unfold path home
  rw [e]
  show (((m % n : Nat) : Int) + (i : Int)).tmod n = _
  rw [← Int.natCast_add]
  rfl
end
/-! Places. -/
inductive Plc
  | free
  | dead
  | full (c : S_api_Cap) (v : Int)
def Plc.pl : Plc → S_slots_place_int
  | .free => ⟨0, ⟨0, ⟨0, 0⟩⟩, 0⟩
  | .dead => ⟨2, ⟨0, ⟨0, 0⟩⟩, 0⟩
  | .full c v => ⟨1, c, v⟩
def Plc.ent : Plc → Option (S_api_Cap × Int)
  | .full c v => some (c, v)
  | _ => none
def plC (p : Plc) : List Value := S_slots_place_int.cells p.pl
theorem pl_len : ∀ x, (plC x).length = 5 := fun _ => rfl
theorem pl_plain : ∀ x, (plC x).all plainVal = true := fun _ => rfl
def ents (ps : List Plc) : List (S_api_Cap × Int) := ps.filterMap Plc.ent
theorem ents_mem {ps : List Plc} {c : S_api_Cap} {v : Int} : (c, v) ∈ ents ps ↔ ∃ j : Nat, ps[j]? = some (.full c v) := by
  unfold ents
  rw [List.mem_filterMap]
  constructor
  · rintro ⟨p, hp, e⟩
    obtain ⟨j, hj⟩ := List.mem_iff_getElem?.1 hp
    refine ⟨j, ?_⟩
    cases p <;> simp [Plc.ent] at e
    obtain ⟨rfl, rfl⟩ := e
    exact hj
  · rintro ⟨j, hj⟩
    exact ⟨_, List.mem_iff_getElem?.2 ⟨j, hj⟩, rfl⟩
theorem ents_append (a b : List Plc) : ents (a ++ b) = ents a ++ ents b := List.filterMap_append
theorem ents_put {ps : List Plc} {j : Nat} {p : Plc} (hj : ps[j]? = some p) (he : p.ent = none) (c : S_api_Cap) (v : Int) : (ents (ps.set j (.full c v))).Perm ((c, v) :: ents ps) := by
  have hlt := lt_of_get hj
  have e1 : ps.set j (.full c v) = ps.take j ++ .full c v :: ps.drop (j + 1) := by rw [List.set_eq_take_append_cons_drop, if_pos hlt]
  rw [e1]
  conv => rhs; rw [split_at hj]
  rw [ents_append, ents_append]
  have e2 : ents (.full c v :: ps.drop (j + 1)) = (c, v) :: ents (ps.drop (j + 1)) := rfl
  have e3 : ents (p :: ps.drop (j + 1)) = ents (ps.drop (j + 1)) := by unfold ents; rw [List.filterMap_cons, he]
  rw [e2, e3]
  exact List.perm_middle
theorem ents_kill {ps : List Plc} {j : Nat} {c : S_api_Cap} {v : Int} (hj : ps[j]? = some (.full c v)) : (ents ps).Perm ((c, v) :: ents (ps.set j .dead)) := by
  have hlt := lt_of_get hj
  have e1 : ps.set j .dead = ps.take j ++ .dead :: ps.drop (j + 1) := by rw [List.set_eq_take_append_cons_drop, if_pos hlt]
  rw [e1]
  conv => lhs; rw [split_at hj]
  rw [ents_append, ents_append]
  exact List.perm_middle
theorem ents_le : ∀ ps : List Plc, (ents ps).length ≤ ps.length := fun _ => List.length_filterMap_le _ _
theorem ents_all {ps : List Plc} (h : ∀ q ∈ ps, q.ent ≠ none) : (ents ps).length = ps.length := by
  induction ps with
  | nil => rfl
  | cons p r ih =>
    have hp := h p (List.mem_cons_self ..)
    have := ih fun q hq => h q (List.mem_cons_of_mem _ hq)
    cases p <;> first | exact absurd rfl hp | skip
    show ((ents r).length + 1) = _
    rw [this]; rfl
/-- A row in which each capability is found. -/
structure TabWF (knob : Int) (ps : List Plc) : Prop where
  one : Once (ents ps)
  way : ∀ c v i, i < ps.length → ps[path knob ps.length c i]? = some (.full c v) → ∀ j, j < i → ps[path knob ps.length c j]? ≠ some .free
/-- Where a capability would be put. -/
def Spot (knob : Int) (ps : List Plc) (c : S_api_Cap) (o : Int) : Prop :=
  (o = -1 ∧ ∀ q ∈ ps, q.ent ≠ none) ∨ ∃ i p, i < ps.length ∧ o = ((path knob ps.length c i : Nat) : Int) ∧ ps[path knob ps.length c i]? = some p ∧ p.ent = none ∧ ∀ j, j < i → ps[path knob ps.length c j]? ≠ some .free
theorem TabWF.absent {knob : Int} {ps : List Plc} (w : TabWF knob ps) {c : S_api_Cap} {m : Nat} (hm : m ≤ ps.length) (hne : ∀ j, j < m → ∀ v, ps[path knob ps.length c j]? ≠ some (.full c v)) (hend : m = ps.length ∨ ps[path knob ps.length c m]? = some .free) (v : Int) : (c, v) ∉ ents ps := fun hv => by
  obtain ⟨j, hj⟩ := ents_mem.1 hv
  obtain ⟨i, hi, rfl⟩ := path_sur (knob := knob) (c := c) (lt_of_get hj)
  rcases Nat.lt_or_ge i m with q | q
  · exact hne i q v hj
  · rcases hend with e | e
    · omega
    · rcases Nat.lt_or_ge m i with r | r
      · exact w.way c v i hi hj m r e
      · obtain rfl : i = m := by omega
        rw [hj] at e; cases e
theorem TabWF.put {knob : Int} {ps : List Plc} (w : TabWF knob ps) {c : S_api_Cap} {v : Int} (abs : ∀ v, (c, v) ∉ ents ps) {i : Nat} {p : Plc} (hi : i < ps.length) (hp : ps[path knob ps.length c i]? = some p) (he : p.ent = none) (hw : ∀ j, j < i → ps[path knob ps.length c j]? ≠ some .free) :
    TabWF knob (ps.set (path knob ps.length c i) (.full c v)) := by
  have hl : (ps.set (path knob ps.length c i) (.full c v)).length = ps.length := List.length_set ..
  have get : ∀ k, (ps.set (path knob ps.length c i) (.full c v))[k]? = if path knob ps.length c i = k then some (.full c v) else ps[k]? := fun k => by
    rw [List.getElem?_set]
    split
    · rw [if_pos (lt_of_get hp)]
    · rfl
  refine ⟨?_, fun c' v' i' hi' hf j hj => ?_⟩
  · unfold Once
    have := (ents_put hp he c v).map (·.1)
    refine (this.nodup_iff).2 ?_
    rw [List.map_cons, List.nodup_cons]
    refine ⟨fun q => ?_, w.one⟩
    obtain ⟨z, hz, e⟩ := List.mem_map.1 q
    obtain ⟨a, b⟩ := z
    cases e
    exact abs _ hz
  · rw [hl] at hi' hf ⊢
    rw [get] at hf ⊢
    split
    · exact fun q => by cases q
    · rename_i hne
      split at hf
      · rename_i e
        cases hf
        have := path_inj hi hi' e
        subst this
        exact hw j hj
      · exact w.way c' v' i' hi' hf j hj
theorem TabWF.kill {knob : Int} {ps : List Plc} (w : TabWF knob ps) {k : Nat} {c : S_api_Cap} {v : Int} (hk : ps[k]? = some (.full c v)) : TabWF knob (ps.set k .dead) := by
  have hl : (ps.set k .dead).length = ps.length := List.length_set ..
  have get : ∀ j, (ps.set k .dead)[j]? = if k = j then some .dead else ps[j]? := fun j => by
    rw [List.getElem?_set]
    split
    · rw [if_pos (lt_of_get hk)]
    · rfl
  refine ⟨?_, fun c' v' i' hi' hf j hj => ?_⟩
  · unfold Once
    have := ((ents_kill hk).map Prod.fst).nodup_iff.1 w.one
    rw [List.map_cons, List.nodup_cons] at this
    exact this.2
  · rw [hl] at hi' hf ⊢
    rw [get] at hf ⊢
    split
    · exact fun q => by cases q
    · split at hf
      · cases hf
      · exact w.way c' v' i' hi' hf j hj
theorem TabWF.none (knob : Int) (n : Nat) : TabWF knob (List.replicate n .free) := by
  have he : ents (List.replicate n .free) = [] := by
    unfold ents
    rw [List.filterMap_eq_nil_iff]
    intro a ha
    rw [(List.mem_replicate.1 ha).2]; rfl
  refine ⟨by rw [he]; exact List.nodup_nil, fun c v i hi hf => ?_⟩
  have : (c, v) ∈ ents (List.replicate n .free) := ents_mem.2 ⟨_, hf⟩
  rw [he] at this; cases this
/-! In memory. -/
structure TableAt (h : H) (p : Nat) (s : Sl) (most knob : Int) (ps : List Plc) (live used : Int) : Prop where
  cell : h p = some (.cells (S_slots_Table_int.cells ⟨most, knob, s, live, used⟩).toArray N_slots_Table_int (0, 0))
  buf : Buf plC 5 N_slots_place_int h s ps
  len : 0 < ps.length ∧ ps.length ≤ 512
  wf : TabWF knob ps
section
variable {h : H} {p : Nat} {s : Sl} {most knob : Int} {ps : List Plc} {live used : Int}
theorem TableAt.f (x : TableAt h p s most knob ps live used) {n : Nat} {l1 l2 l3 : List Value} (e : S_slots_Table_int.cells ⟨most, knob, s, live, used⟩ = l1 ++ l2 ++ l3) (hn : l1.length = n) : At h ((⟨p, 0, none⟩ : Addr).add n) l2 := by
  have hc := x.cell
  rw [e] at hc
  have : (⟨p, 0, none⟩ : Addr).add n = ⟨p, n, none⟩ := by
    unfold Addr.add; split
    · rename_i q; subst q; rfl
    · simp
  rw [this]
  exact At.own hc hn
theorem TableAt.f0 (x : TableAt h p s most knob ps live used) : At h ((⟨p, 0, none⟩ : Addr).add 0) (cInt .i64 most) := x.f (l1 := []) (l3 := (S_slots_Table_int.cells ⟨most, knob, s, live, used⟩).drop 1) rfl rfl
theorem TableAt.f1 (x : TableAt h p s most knob ps live used) : At h ((⟨p, 0, none⟩ : Addr).add 1) (cInt .i64 knob) := x.f (l1 := (S_slots_Table_int.cells ⟨most, knob, s, live, used⟩).take 1) (l3 := (S_slots_Table_int.cells ⟨most, knob, s, live, used⟩).drop 2) rfl rfl
theorem TableAt.f2 (x : TableAt h p s most knob ps live used) : At h ((⟨p, 0, none⟩ : Addr).add 2) (cSl s) := x.f (l1 := (S_slots_Table_int.cells ⟨most, knob, s, live, used⟩).take 2) (l3 := (S_slots_Table_int.cells ⟨most, knob, s, live, used⟩).drop 3) rfl rfl
theorem TableAt.f3 (x : TableAt h p s most knob ps live used) : At h ((⟨p, 0, none⟩ : Addr).add 3) (cInt .i64 live) := x.f (l1 := (S_slots_Table_int.cells ⟨most, knob, s, live, used⟩).take 3) (l3 := (S_slots_Table_int.cells ⟨most, knob, s, live, used⟩).drop 4) rfl rfl
theorem TableAt.f4 (x : TableAt h p s most knob ps live used) : At h ((⟨p, 0, none⟩ : Addr).add 4) (cInt .i64 used) := x.f (l1 := (S_slots_Table_int.cells ⟨most, knob, s, live, used⟩).take 4) (l3 := []) rfl rfl
theorem TableAt.apart (x : TableAt h p s most knob ps live used) : ¬ s.foot p := fun f => (x.buf.typed f).ne (Typed.of x.cell) (by decide) rfl
/-- Where a capability stands. -/
theorem t_find (x : TableAt h p s most knob ps live used) {c : S_api_Cap} {K : Int × Int → H → Prop} (hit : ∀ (j : Nat) v o, ps[j]? = some (.full c v) → K ((j : Int), o) h)
    (miss : ∀ o, (∀ v, (c, v) ∉ ents ps) → Spot knob ps c o → K (-1, o) h) : m_slots_Table_int_find (some ⟨p, 0, none⟩) c K h := by
  unfold m_slots_Table_int_find
  have hl := x.buf.len
  obtain ⟨h0, h1⟩ := x.len
  refine w_deref (w_load x.f2 (w_deref (w_load x.f1 (w_hash ⟨?_, ?_⟩))))
  · rw [u_wrap (by omega)]; omega
  rw [hl]
  refine w_for ps.length (fun i (z : Int × Int) h' => h = h' ∧ z.2 = (i : Int) ∧ (∀ j, j < i → ps[path knob ps.length c j]? ≠ some .free ∧ ∀ v, ps[path knob ps.length c j]? ≠ some (.full c v)) ∧
    ((z.1 = -1 ∧ ∀ j, j < i → ∀ q, ps[path knob ps.length c j]? = some q → q.ent ≠ none) ∨ ∃ j, j < i ∧ z.1 = ((path knob ps.length c j : Nat) : Int) ∧ ps[path knob ps.length c j]? = some .dead)) ?_ ⟨rfl, rfl, fun j hj => by omega, .inl ⟨rfl, fun j hj => by omega⟩⟩
  rintro rec i ⟨o, ii⟩ h' hi ⟨rfl, e2, hne, ho⟩ more
  have e2 : ii = (i : Int) := e2
  subst e2
  have spotD : ∀ {m : Nat}, (∃ j, j < m ∧ o = ((path knob ps.length c j : Nat) : Int) ∧ ps[path knob ps.length c j]? = some .dead) → m ≤ i → Spot knob ps c o := fun ⟨j, hj, e, hd⟩ hm => .inr ⟨j, .dead, by omega, e, hd, rfl, fun k hk => (hne k (by omega)).1⟩
  refine w_if' (fun ci => ?_) fun ci => ?_
  · have ci : (i : Int) < (ps.length : Int) := ci
    have hi' : i < ps.length := by omega
    refine ⟨by show ((ps.length : Nat) : Int) ≠ 0; omega, w_deref (w_load x.f2 ?_)⟩
    show mIdx s (iRem .i64 (iAdd .i64 (IntKind.wrap .i64 (iRem .u64 (hash c.Obj c.Pass knob) (IntKind.wrap .u64 (ps.length : Int)))) (i : Int)) (ps.length : Int)) 5 _ h
    rw [path_code h0 h1 hi']
    have hlt := path_lt (knob := knob) (c := c) h0 i
    obtain ⟨q, hq⟩ : ∃ q, ps[path knob ps.length c i]? = some q := ⟨_, List.getElem?_eq_getElem hlt⟩
    refine w_idx pl_len x.buf.arr hq rfl fun a ha hat => ?_
    have hst : At h (a.add 0) (cInt .u8 q.pl.xstate) := At.sub (l1 := []) (l3 := (plC q).drop 1) hat rfl
    refine w_load hst ?_
    cases q with
    | free =>
      refine w_ifT rfl ?_
      have abs := x.wf.absent (c := c) hi (fun j hj => (hne j hj).2) (.inr hq)
      refine w_if' (fun co => ?_) fun co => ?_
      · exact miss _ abs (.inr ⟨i, .free, hi', rfl, hq, rfl, fun j hj => (hne j hj).1⟩)
      · rcases ho with ⟨e, _⟩ | ho
        · have co : ¬ o < 0 := co
          have e : o = -1 := e
          omega
        · exact miss _ abs (spotD ho (Nat.le_refl _))
    | dead =>
      refine w_ifF rfl (w_load hst (w_ifT rfl ?_))
      have hne' : ∀ j, j < i + 1 → ps[path knob ps.length c j]? ≠ some .free ∧ ∀ v, ps[path knob ps.length c j]? ≠ some (.full c v) := fun j hj => by
        rcases Nat.lt_or_ge j i with r | r
        · exact hne j r
        · obtain rfl : j = i := by omega
          rw [hq]; exact ⟨fun e => (by cases e), fun v e => (by cases e)⟩
      refine w_if' (fun co => ?_) fun co => ?_
      · exact more _ _ hi' ⟨rfl, by rw [iAdd_eq (by omega) (by omega)]; rfl, hne', .inr ⟨i, by omega, rfl, hq⟩⟩
      · refine more _ _ hi' ⟨rfl, by rw [iAdd_eq (by omega) (by omega)]; rfl, hne', ?_⟩
        rcases ho with ⟨e, _⟩ | ⟨j, hj, e, hd⟩
        · have co : ¬ o < 0 := co
          have e : o = -1 := e
          omega
        · exact .inr ⟨j, by omega, e, hd⟩
    | full c' v =>
      refine w_ifF rfl (w_load hst (w_ifF rfl ?_))
      refine w_load (v := c') (At.sub (l1 := (plC (.full c' v)).take 1) (l3 := (plC (.full c' v)).drop 4) hat rfl) ?_
      rw [cap_eqB]
      refine w_if' (fun cc => ?_) fun cc => ?_
      · subst cc
        exact hit _ v _ hq
      · refine more _ _ hi' ⟨rfl, by rw [iAdd_eq (by omega) (by omega)]; rfl, fun j hj => ?_, ?_⟩
        · rcases Nat.lt_or_ge j i with r | r
          · exact hne j r
          · obtain rfl : j = i := by omega
            rw [hq]; exact ⟨fun e => (by cases e), fun v e => (by cases e; exact cc rfl)⟩
        · rcases ho with ⟨e, ha⟩ | ⟨j, hj, e, hd⟩
          · refine .inl ⟨e, fun j hj z hz => ?_⟩
            rcases Nat.lt_or_ge j i with r | r
            · exact ha j r z hz
            · obtain rfl : j = i := by omega
              rw [hq] at hz; cases hz; exact fun e => by cases e
          · exact .inr ⟨j, by omega, e, hd⟩
  · have ci : ¬ (i : Int) < (ps.length : Int) := ci
    have hi' : i = ps.length := by omega
    have abs := x.wf.absent (c := c) hi (fun j hj => (hne j hj).2) (.inl hi')
    refine miss _ abs ?_
    rcases ho with ⟨e, ha⟩ | ho
    · refine .inl ⟨e, fun q hq => ?_⟩
      obtain ⟨k, hk⟩ := List.mem_iff_getElem?.1 hq
      obtain ⟨j, hj, rfl⟩ := path_sur (knob := knob) (c := c) (lt_of_get hk)
      exact ha j (by omega) q hk
    · exact spotD ho (Nat.le_refl _)
end
end Go.Proofs.Ytiajjcboddaenaa.K
