/- Tables by capability: a row of places, found by hashes. Tables by capability: their calls. -/
import Derived.Test.YtiajjcboddaenaaQu0
import Derived.Test.YtiajjcboddaenaaU1
import Derived.Test.YtiajjcboddaenaaFslots
import Derived.Test.YtiajjcboddaenaaFmask
import Derived.Test.YtiajjcboddaenaaFmix
namespace Go.Proofs.Ytiajjcboddaenaa.K
open Go
instance : DecidableEq S_api_Word := fun a b => decidable_of_iff (a.Hi = b.Hi ∧ a.Lo = b.Lo) ⟨fun ⟨h1, h2⟩ => by cases a; cases b; simp_all, fun e => by subst e; exact ⟨rfl, rfl⟩⟩
instance : DecidableEq S_api_Cap := fun a b => decidable_of_iff (a.Obj = b.Obj ∧ a.Pass = b.Pass) ⟨fun ⟨h1, h2⟩ => by cases a; cases b; simp_all, fun e => by subst e; exact ⟨rfl, rfl⟩⟩
theorem cap_eqB (x y : S_api_Cap) : ((decide (x.Obj = y.Obj)) && (((decide (x.Pass.Hi = y.Pass.Hi)) && ((decide (x.Pass.Lo = y.Pass.Lo)) && true)) && true)) = decide (x = y) := by
  obtain ⟨a, b, c⟩ := x
  obtain ⟨a', b', c'⟩ := y
  rw [Bool.eq_iff_iff]
  simp only [Bool.and_eq_true, decide_eq_true_eq, Bool.and_true, S_api_Cap.mk.injEq, S_api_Word.mk.injEq]
/-! The hash. -/
def mixR (h v : Int) : Int := iXor .u64 (iMul .u64 (iXor .u64 h v) 11400714819323198485) (iShr .u64 (iMul .u64 (iXor .u64 h v) 11400714819323198485) 29)
def hash (obj : Int) (w : S_api_Word) (knob : Int) : Int :=
  if knob ≤ 0 then 0 else if 64 ≤ knob then mixR (mixR (mixR 5903417616801668165 (IntKind.wrap .u64 obj)) w.Hi) w.Lo
  else iAnd .u64 (mixR (mixR (mixR 5903417616801668165 (IntKind.wrap .u64 obj)) w.Hi) w.Lo) (iSub .u64 (iShl .u64 1 knob) 1)
theorem t_Hash {h : H} {obj : Int} {w : S_api_Word} {knob : Int} {K : Int → H → Prop} (y : K (hash obj w knob) h) : m_mix_Hash obj w knob K h := by
  unfold m_mix_Hash
  refine ⟨4, ?_⟩
  refine w_ifF rfl (w_ifF rfl (w_ifF rfl ?_))
  refine w_ifT rfl ?_
  refine w_ifF rfl (w_ifT rfl ?_)
  refine w_ifF rfl (w_ifF rfl (w_ifT rfl ?_))
  unfold hash at y
  refine w_if' (fun c => by rw [if_pos c] at y; exact y) fun c => ?_
  rw [if_neg c] at y
  refine w_if' (fun c2 => by rw [if_pos c2] at y; exact y) fun c2 => ?_
  rw [if_neg c2] at y
  exact w_nn (by omega) y
theorem wrap_nat (x : Int) : ∃ n : Nat, IntKind.u64.wrap x = n ∧ n < 2 ^ 64 := ⟨(x % 18446744073709551616).toNat, by rw [wrap_u64]; omega, by omega⟩
theorem hash_nat (obj : Int) (w : S_api_Word) (knob : Int) : ∃ n : Nat, hash obj w knob = n ∧ n < 2 ^ 64 := by
  unfold hash
  split
  · exact ⟨0, rfl, by decide⟩
  · split
    · exact wrap_nat _
    · exact wrap_nat _
theorem w_hash {h : H} {obj : Int} {w : S_api_Word} {knob : Int} {k : Int → H → Prop} (y : k (hash obj w knob) h) : mPure (m_mix_Hash obj w knob) k h := w_pure _ (fun _ _ y => t_Hash y) y
/-! Ways through a row. -/
def home (knob : Int) (n : Nat) (c : S_api_Cap) : Nat := (hash c.Obj c.Pass knob).toNat % n
def path (knob : Int) (n : Nat) (c : S_api_Cap) (i : Nat) : Nat := (home knob n c + i) % n
section
variable {knob : Int} {n : Nat} {c : S_api_Cap}
theorem home_lt (hn : 0 < n) : home knob n c < n := Nat.mod_lt _ hn
theorem path_lt (hn : 0 < n) (i : Nat) : path knob n c i < n := Nat.mod_lt _ hn
theorem path_eq {i : Nat} (hi : i < n) : path knob n c i = if home knob n c + i < n then home knob n c + i else home knob n c + i - n := by
  have := home_lt (knob := knob) (c := c) (show 0 < n by omega)
  unfold path
  split
  · rename_i q; exact Nat.mod_eq_of_lt q
  · rename_i q; rw [Nat.mod_eq_sub_mod (by omega), Nat.mod_eq_of_lt (by omega)]
theorem path_inj {i j : Nat} (hi : i < n) (hj : j < n) (e : path knob n c i = path knob n c j) : i = j := by
  rw [path_eq hi, path_eq hj] at e
  split at e <;> split at e <;> omega
theorem path_sur {j : Nat} (hj : j < n) : ∃ i, i < n ∧ path knob n c i = j := by
  have := home_lt (knob := knob) (c := c) (show 0 < n by omega)
  by_cases q : home knob n c ≤ j
  · exact ⟨j - home knob n c, by omega, by rw [path_eq (by omega), if_pos (by omega)]; omega⟩
  · exact ⟨j + n - home knob n c, by omega, by rw [path_eq (by omega), if_neg (by omega)]; omega⟩
theorem path_code {i : Nat} (hn : 0 < n) (hm : n ≤ 512) (hi : i < n) : iRem .i64 (iAdd .i64 (IntKind.wrap .i64 (iRem .u64 (hash c.Obj c.Pass knob) (IntKind.wrap .u64 (n : Int)))) (i : Int)) (n : Int) = ((path knob n c i : Nat) : Int) := by
  obtain ⟨m, e, hm'⟩ := hash_nat c.Obj c.Pass knob
  have e1 : IntKind.u64.wrap (n : Int) = n := u_wrap (by omega)
  have e2 : iRem .u64 (m : Int) (n : Int) = ((m % n : Nat) : Int) := rfl
  have hlt : m % n < n := Nat.mod_lt _ hn
  rw [e, e1, e2, i64_eq (by omega) (by omega), iAdd_eq (by omega) (by omega)]
  unfold path home
  rw [e]
  show (((m % n : Nat) : Int) + (i : Int)).tmod n = _
  rw [← Int.natCast_add]
  rfl
end
/-! Places. -/
inductive Plc
  | free
  | dead
  | full (c : S_api_Cap) (v : Int)
def Plc.pl : Plc → S_slots_place_int
  | .free => ⟨0, ⟨0, ⟨0, 0⟩⟩, 0⟩
  | .dead => ⟨2, ⟨0, ⟨0, 0⟩⟩, 0⟩
  | .full c v => ⟨1, c, v⟩
def Plc.ent : Plc → Option (S_api_Cap × Int)
  | .full c v => some (c, v)
  | _ => none
def plC (p : Plc) : List Value := S_slots_place_int.cells p.pl
theorem pl_len : ∀ x, (plC x).length = 5 := fun _ => rfl
theorem pl_plain : ∀ x, (plC x).all plainVal = true := fun _ => rfl
def ents (ps : List Plc) : List (S_api_Cap × Int) := ps.filterMap Plc.ent
theorem ents_mem {ps : List Plc} {c : S_api_Cap} {v : Int} : (c, v) ∈ ents ps ↔ ∃ j : Nat, ps[j]? = some (.full c v) := by
  unfold ents
  rw [List.mem_filterMap]
  constructor
  · rintro ⟨p, hp, e⟩
    obtain ⟨j, hj⟩ := List.mem_iff_getElem?.1 hp
    refine ⟨j, ?_⟩
    cases p <;> simp [Plc.ent] at e
    obtain ⟨rfl, rfl⟩ := e
    exact hj
  · rintro ⟨j, hj⟩
    exact ⟨_, List.mem_iff_getElem?.2 ⟨j, hj⟩, rfl⟩
theorem ents_append (a b : List Plc) : ents (a ++ b) = ents a ++ ents b := List.filterMap_append
theorem ents_put {ps : List Plc} {j : Nat} {p : Plc} (hj : ps[j]? = some p) (he : p.ent = none) (c : S_api_Cap) (v : Int) : (ents (ps.set j (.full c v))).Perm ((c, v) :: ents ps) := by
  have hlt := lt_of_get hj
  have e1 : ps.set j (.full c v) = ps.take j ++ .full c v :: ps.drop (j + 1) := by rw [List.set_eq_take_append_cons_drop, if_pos hlt]
  rw [e1]
  conv => rhs; rw [split_at hj]
  rw [ents_append, ents_append]
  have e2 : ents (.full c v :: ps.drop (j + 1)) = (c, v) :: ents (ps.drop (j + 1)) := rfl
  have e3 : ents (p :: ps.drop (j + 1)) = ents (ps.drop (j + 1)) := by unfold ents; rw [List.filterMap_cons, he]
  rw [e2, e3]
  exact List.perm_middle
theorem ents_kill {ps : List Plc} {j : Nat} {c : S_api_Cap} {v : Int} (hj : ps[j]? = some (.full c v)) : (ents ps).Perm ((c, v) :: ents (ps.set j .dead)) := by
  have hlt := lt_of_get hj
  have e1 : ps.set j .dead = ps.take j ++ .dead :: ps.drop (j + 1) := by rw [List.set_eq_take_append_cons_drop, if_pos hlt]
  rw [e1]
  conv => lhs; rw [split_at hj]
  rw [ents_append, ents_append]
  exact List.perm_middle
theorem ents_le : ∀ ps : List Plc, (ents ps).length ≤ ps.length := fun _ => List.length_filterMap_le _ _
theorem ents_all {ps : List Plc} (h : ∀ q ∈ ps, q.ent ≠ none) : (ents ps).length = ps.length := by
  induction ps with
  | nil => rfl
  | cons p r ih =>
    have hp := h p (List.mem_cons_self ..)
    have := ih fun q hq => h q (List.mem_cons_of_mem _ hq)
    cases p <;> first | exact absurd rfl hp | skip
    show ((ents r).length + 1) = _
    rw [this]; rfl
/-- A row in which each capability is found. -/
structure TabWF (knob : Int) (ps : List Plc) : Prop where
  one : Once (ents ps)
  way : ∀ c v i, i < ps.length → ps[path knob ps.length c i]? = some (.full c v) → ∀ j, j < i → ps[path knob ps.length c j]? ≠ some .free
/-- Where a capability would be put. -/
def Spot (knob : Int) (ps : List Plc) (c : S_api_Cap) (o : Int) : Prop :=
  (o = -1 ∧ ∀ q ∈ ps, q.ent ≠ none) ∨ ∃ i p, i < ps.length ∧ o = ((path knob ps.length c i : Nat) : Int) ∧ ps[path knob ps.length c i]? = some p ∧ p.ent = none ∧ ∀ j, j < i → ps[path knob ps.length c j]? ≠ some .free
theorem TabWF.absent {knob : Int} {ps : List Plc} (w : TabWF knob ps) {c : S_api_Cap} {m : Nat} (hm : m ≤ ps.length) (hne : ∀ j, j < m → ∀ v, ps[path knob ps.length c j]? ≠ some (.full c v)) (hend : m = ps.length ∨ ps[path knob ps.length c m]? = some .free) (v : Int) : (c, v) ∉ ents ps := fun hv => by
  obtain ⟨j, hj⟩ := ents_mem.1 hv
  obtain ⟨i, hi, rfl⟩ := path_sur (knob := knob) (c := c) (lt_of_get hj)
  rcases Nat.lt_or_ge i m with q | q
  · exact hne i q v hj
  · rcases hend with e | e
    · omega
    · rcases Nat.lt_or_ge m i with r | r
      · exact w.way c v i hi hj m r e
      · obtain rfl : i = m := by omega
        rw [hj] at e; cases e
theorem TabWF.put {knob : Int} {ps : List Plc} (w : TabWF knob ps) {c : S_api_Cap} {v : Int} (abs : ∀ v, (c, v) ∉ ents ps) {i : Nat} {p : Plc} (hi : i < ps.length) (hp : ps[path knob ps.length c i]? = some p) (he : p.ent = none) (hw : ∀ j, j < i → ps[path knob ps.length c j]? ≠ some .free) :
    TabWF knob (ps.set (path knob ps.length c i) (.full c v)) := by
  have hl : (ps.set (path knob ps.length c i) (.full c v)).length = ps.length := List.length_set ..
  have get : ∀ k, (ps.set (path knob ps.length c i) (.full c v))[k]? = if path knob ps.length c i = k then some (.full c v) else ps[k]? := fun k => by
    rw [List.getElem?_set]
    split
    · rw [if_pos (lt_of_get hp)]
    · rfl
  refine ⟨?_, fun c' v' i' hi' hf j hj => ?_⟩
  · unfold Once
    have := (ents_put hp he c v).map (·.1)
    refine (this.nodup_iff).2 ?_
    rw [List.map_cons, List.nodup_cons]
    refine ⟨fun q => ?_, w.one⟩
    obtain ⟨z, hz, e⟩ := List.mem_map.1 q
    obtain ⟨a, b⟩ := z
    cases e
    exact abs _ hz
  · rw [hl] at hi' hf ⊢
    rw [get] at hf ⊢
    split
    · exact fun q => by cases q
    · rename_i hne
      split at hf
      · rename_i e
        cases hf
        have := path_inj hi hi' e
        subst this
        exact hw j hj
      · exact w.way c' v' i' hi' hf j hj
theorem TabWF.kill {knob : Int} {ps : List Plc} (w : TabWF knob ps) {k : Nat} {c : S_api_Cap} {v : Int} (hk : ps[k]? = some (.full c v)) : TabWF knob (ps.set k .dead) := by
  have hl : (ps.set k .dead).length = ps.length := List.length_set ..
  have get : ∀ j, (ps.set k .dead)[j]? = if k = j then some .dead else ps[j]? := fun j => by
    rw [List.getElem?_set]
    split
    · rw [if_pos (lt_of_get hk)]
    · rfl
  refine ⟨?_, fun c' v' i' hi' hf j hj => ?_⟩
  · unfold Once
    have := ((ents_kill hk).map Prod.fst).nodup_iff.1 w.one
    rw [List.map_cons, List.nodup_cons] at this
    exact this.2
  · rw [hl] at hi' hf ⊢
    rw [get] at hf ⊢
    split
    · exact fun q => by cases q
    · split at hf
      · cases hf
      · exact w.way c' v' i' hi' hf j hj
theorem TabWF.none (knob : Int) (n : Nat) : TabWF knob (List.replicate n .free) := by
  have he : ents (List.replicate n .free) = [] := by
    unfold ents
    rw [List.filterMap_eq_nil_iff]
    intro a ha
    rw [(List.mem_replicate.1 ha).2]; rfl
  refine ⟨by rw [he]; exact List.nodup_nil, fun c v i hi hf => ?_⟩
  have : (c, v) ∈ ents (List.replicate n .free) := ents_mem.2 ⟨_, hf⟩
  rw [he] at this; cases this
/-! In memory. -/
structure TableAt (h : H) (p : Nat) (s : Sl) (most knob : Int) (ps : List Plc) (live used : Int) : Prop where
  cell : h p = some (.cells (S_slots_Table_int.cells ⟨most, knob, s, live, used⟩).toArray N_slots_Table_int (0, 0))
  buf : Buf plC 5 N_slots_place_int h s ps
  len : 0 < ps.length ∧ ps.length ≤ 512
  wf : TabWF knob ps
section
variable {h : H} {p : Nat} {s : Sl} {most knob : Int} {ps : List Plc} {live used : Int}
theorem TableAt.f (x : TableAt h p s most knob ps live used) {n : Nat} {l1 l2 l3 : List Value} (e : S_slots_Table_int.cells ⟨most, knob, s, live, used⟩ = l1 ++ l2 ++ l3) (hn : l1.length = n) : At h ((⟨p, 0, none⟩ : Addr).add n) l2 := by
  have hc := x.cell
  rw [e] at hc
  have : (⟨p, 0, none⟩ : Addr).add n = ⟨p, n, none⟩ := by
    unfold Addr.add; split
    · rename_i q; subst q; rfl
    · simp
  rw [this]
  exact At.own hc hn
theorem TableAt.f0 (x : TableAt h p s most knob ps live used) : At h ((⟨p, 0, none⟩ : Addr).add 0) (cInt .i64 most) := x.f (l1 := []) (l3 := (S_slots_Table_int.cells ⟨most, knob, s, live, used⟩).drop 1) rfl rfl
theorem TableAt.f1 (x : TableAt h p s most knob ps live used) : At h ((⟨p, 0, none⟩ : Addr).add 1) (cInt .i64 knob) := x.f (l1 := (S_slots_Table_int.cells ⟨most, knob, s, live, used⟩).take 1) (l3 := (S_slots_Table_int.cells ⟨most, knob, s, live, used⟩).drop 2) rfl rfl
theorem TableAt.f2 (x : TableAt h p s most knob ps live used) : At h ((⟨p, 0, none⟩ : Addr).add 2) (cSl s) := x.f (l1 := (S_slots_Table_int.cells ⟨most, knob, s, live, used⟩).take 2) (l3 := (S_slots_Table_int.cells ⟨most, knob, s, live, used⟩).drop 3) rfl rfl
theorem TableAt.f3 (x : TableAt h p s most knob ps live used) : At h ((⟨p, 0, none⟩ : Addr).add 3) (cInt .i64 live) := x.f (l1 := (S_slots_Table_int.cells ⟨most, knob, s, live, used⟩).take 3) (l3 := (S_slots_Table_int.cells ⟨most, knob, s, live, used⟩).drop 4) rfl rfl
theorem TableAt.f4 (x : TableAt h p s most knob ps live used) : At h ((⟨p, 0, none⟩ : Addr).add 4) (cInt .i64 used) := x.f (l1 := (S_slots_Table_int.cells ⟨most, knob, s, live, used⟩).take 4) (l3 := []) rfl rfl
theorem TableAt.apart (x : TableAt h p s most knob ps live used) : ¬ s.foot p := fun f => (x.buf.typed f).ne (Typed.of x.cell) (by decide) rfl
/-- Where a capability stands. -/
theorem t_find (x : TableAt h p s most knob ps live used) {c : S_api_Cap} {K : Int × Int → H → Prop} (hit : ∀ (j : Nat) v o, ps[j]? = some (.full c v) → K ((j : Int), o) h)
    (miss : ∀ o, (∀ v, (c, v) ∉ ents ps) → Spot knob ps c o → K (-1, o) h) : m_slots_Table_int_find (some ⟨p, 0, none⟩) c K h := by
  unfold m_slots_Table_int_find
  have hl := x.buf.len
  obtain ⟨h0, h1⟩ := x.len
  refine w_deref (w_load x.f2 (w_deref (w_load x.f1 (w_hash ⟨?_, ?_⟩))))
  · rw [u_wrap (by omega)]; omega
  rw [hl]
  refine w_for ps.length (fun i (z : Int × Int) h' => h = h' ∧ z.2 = (i : Int) ∧ (∀ j, j < i → ps[path knob ps.length c j]? ≠ some .free ∧ ∀ v, ps[path knob ps.length c j]? ≠ some (.full c v)) ∧
    ((z.1 = -1 ∧ ∀ j, j < i → ∀ q, ps[path knob ps.length c j]? = some q → q.ent ≠ none) ∨ ∃ j, j < i ∧ z.1 = ((path knob ps.length c j : Nat) : Int) ∧ ps[path knob ps.length c j]? = some .dead)) ?_ ⟨rfl, rfl, fun j hj => by omega, .inl ⟨rfl, fun j hj => by omega⟩⟩
  rintro rec i ⟨o, ii⟩ h' hi ⟨rfl, e2, hne, ho⟩ more
  have e2 : ii = (i : Int) := e2
  subst e2
  have spotD : ∀ {m : Nat}, (∃ j, j < m ∧ o = ((path knob ps.length c j : Nat) : Int) ∧ ps[path knob ps.length c j]? = some .dead) → m ≤ i → Spot knob ps c o := fun ⟨j, hj, e, hd⟩ hm => .inr ⟨j, .dead, by omega, e, hd, rfl, fun k hk => (hne k (by omega)).1⟩
  refine w_if' (fun ci => ?_) fun ci => ?_
  · have ci : (i : Int) < (ps.length : Int) := ci
    have hi' : i < ps.length := by omega
    refine ⟨by show ((ps.length : Nat) : Int) ≠ 0; omega, w_deref (w_load x.f2 ?_)⟩
    show mIdx s (iRem .i64 (iAdd .i64 (IntKind.wrap .i64 (iRem .u64 (hash c.Obj c.Pass knob) (IntKind.wrap .u64 (ps.length : Int)))) (i : Int)) (ps.length : Int)) 5 _ h
    rw [path_code h0 h1 hi']
    have hlt := path_lt (knob := knob) (c := c) h0 i
    obtain ⟨q, hq⟩ : ∃ q, ps[path knob ps.length c i]? = some q := ⟨_, List.getElem?_eq_getElem hlt⟩
    refine w_idx pl_len x.buf.arr hq rfl fun a ha hat => ?_
    have hst : At h (a.add 0) (cInt .u8 q.pl.xstate) := At.sub (l1 := []) (l3 := (plC q).drop 1) hat rfl
    refine w_load hst ?_
    cases q with
    | free =>
      refine w_ifT rfl ?_
      have abs := x.wf.absent (c := c) hi (fun j hj => (hne j hj).2) (.inr hq)
      refine w_if' (fun co => ?_) fun co => ?_
      · exact miss _ abs (.inr ⟨i, .free, hi', rfl, hq, rfl, fun j hj => (hne j hj).1⟩)
      · rcases ho with ⟨e, _⟩ | ho
        · have co : ¬ o < 0 := co
          have e : o = -1 := e
          omega
        · exact miss _ abs (spotD ho (Nat.le_refl _))
    | dead =>
      refine w_ifF rfl (w_load hst (w_ifT rfl ?_))
      have hne' : ∀ j, j < i + 1 → ps[path knob ps.length c j]? ≠ some .free ∧ ∀ v, ps[path knob ps.length c j]? ≠ some (.full c v) := fun j hj => by
        rcases Nat.lt_or_ge j i with r | r
        · exact hne j r
        · obtain rfl : j = i := by omega
          rw [hq]; exact ⟨fun e => (by cases e), fun v e => (by cases e)⟩
      refine w_if' (fun co => ?_) fun co => ?_
      · exact more _ _ hi' ⟨rfl, by rw [iAdd_eq (by omega) (by omega)]; rfl, hne', .inr ⟨i, by omega, rfl, hq⟩⟩
      · refine more _ _ hi' ⟨rfl, by rw [iAdd_eq (by omega) (by omega)]; rfl, hne', ?_⟩
        rcases ho with ⟨e, _⟩ | ⟨j, hj, e, hd⟩
        · have co : ¬ o < 0 := co
          have e : o = -1 := e
          omega
        · exact .inr ⟨j, by omega, e, hd⟩
    | full c' v =>
      refine w_ifF rfl (w_load hst (w_ifF rfl ?_))
      refine w_load (v := c') (At.sub (l1 := (plC (.full c' v)).take 1) (l3 := (plC (.full c' v)).drop 4) hat rfl) ?_
      rw [cap_eqB]
      refine w_if' (fun cc => ?_) fun cc => ?_
      · subst cc
        exact hit _ v _ hq
      · refine more _ _ hi' ⟨rfl, by rw [iAdd_eq (by omega) (by omega)]; rfl, fun j hj => ?_, ?_⟩
        · rcases Nat.lt_or_ge j i with r | r
          · exact hne j r
          · obtain rfl : j = i := by omega
            rw [hq]; exact ⟨fun e => (by cases e), fun v e => (by cases e; exact cc rfl)⟩
        · rcases ho with ⟨e, ha⟩ | ⟨j, hj, e, hd⟩
          · refine .inl ⟨e, fun j hj z hz => ?_⟩
            rcases Nat.lt_or_ge j i with r | r
            · exact ha j r z hz
            · obtain rfl : j = i := by omega
              rw [hq] at hz; cases hz; exact fun e => by cases e
          · exact .inr ⟨j, by omega, e, hd⟩
  · have ci : ¬ (i : Int) < (ps.length : Int) := ci
    have hi' : i = ps.length := by omega
    have abs := x.wf.absent (c := c) hi (fun j hj => (hne j hj).2) (.inl hi')
    refine miss _ abs ?_
    rcases ho with ⟨e, ha⟩ | ho
    · refine .inl ⟨e, fun q hq => ?_⟩
      obtain ⟨k, hk⟩ := List.mem_iff_getElem?.1 hq
      obtain ⟨j, hj, rfl⟩ := path_sur (knob := knob) (c := c) (lt_of_get hk)
      exact ha j (by omega) q hk
    · exact spotD ho (Nat.le_refl _)
end
end Go.Proofs.Ytiajjcboddaenaa.K
namespace Go.Proofs.Ytiajjcboddaenaa.K
open Go
theorem pt_add (p n : Nat) : (⟨p, 0, none⟩ : Addr).add n = ⟨p, n, none⟩ := by rw [addr_add, Nat.zero_add]
/-- clear of a whole row. -/
theorem w_clear {T : Type} {cells : T → List Value} {sz : Nat} {e : TypeId} (hs : ∀ x, (cells x).length = sz) {h : H} (z0 : T) {zero : Array Value} (hz : zero = (cells z0).toArray) {s : Sl} {xs : List T} (x : Buf cells sz e h s xs) {k : H → Prop}
    (y : ∀ h', Buf cells sz e h' s (List.replicate xs.length z0) → But s.foot h h' → (∀ b, h' b = none → h b = none) → k h') : mClear zero s k h := by
  have hl := x.len
  rcases x.at_ with ⟨ha, h0⟩ | ⟨b, z, fz, ha, hb, hlen, hth⟩
  · have hc := x.cap
    have h1 : xs.length = 0 := by omega
    have : xs = [] := List.length_eq_zero_iff.1 h1
    subst this
    exact .inl ⟨.inl ha, y h x (.refl _ _) fun _ q => q⟩
  · by_cases h0 : s.len = 0
    · have : xs = [] := List.length_eq_zero_iff.1 (by omega)
      subst this
      exact .inl ⟨.inr h0, y h x (.refl _ _) fun _ q => q⟩
    · refine .inr ⟨h0, _, ha, ?_⟩
      rw [zero_flat hs z0 hz, hl]
      have hb' : h b = some (.cells ([] ++ flat cells xs ++ z).toArray e fz) := hb
      refine w_storeF (l1 := []) rfl hb' (by rw [List.nil_append, hlen]; exact hth) rfl (by rw [flat_len hs, flat_len hs, List.length_replicate]) ?_
      refine y _ ⟨by rw [List.length_replicate]; exact hl, x.cap, .inr ⟨b, z, fz, ha, upd_same _ _ _, ?_, hth⟩⟩ (But.upd ⟨_, ha, rfl⟩) fun c hc => (upd_none.1 hc).2
      rw [← hlen, List.length_append, List.length_append, flat_len hs, flat_len hs, List.length_replicate]
/-- What a table's change writes. -/
structure TChg (p : Nat) (s : Sl) (h h' : H) : Prop where
  but : But (fun c => c = p ∨ s.foot c) h h'
  dom : ∀ c, h' c = none → h c = none
theorem TChg.refl (p : Nat) (s : Sl) (h : H) : TChg p s h h := ⟨.refl _ _, fun _ e => e⟩
theorem TChg.keeps {p : Nat} {s : Sl} {h h' : H} (k : Keeps h h') : TChg p s h h' := ⟨.of k, fun _ e => k.fresh e⟩
theorem TChg.trans {p : Nat} {s : Sl} {h h1 h2 : H} (x : TChg p s h h1) (y : TChg p s h1 h2) : TChg p s h h2 := ⟨x.but.trans y.but fun _ f => .inl f, fun c e => x.dom c (y.dom c e)⟩
section
variable {h : H} {p : Nat} {s : Sl} {most knob : Int} {ps : List Plc} {live used : Int}
theorem TableAt.keep {h' : H} (x : TableAt h p s most knob ps live used) (k : Keeps h h') : TableAt h' p s most knob ps live used := ⟨k _ _ x.cell, x.buf.keep k, x.len, x.wf⟩
theorem TableAt.but {h' : H} {F : Nat → Prop} (x : TableAt h p s most knob ps live used) (k : But F h h') (f : ∀ c, F c → c ≠ p ∧ ¬ s.foot c) : TableAt h' p s most knob ps live used :=
  ⟨k _ _ x.cell fun q => (f _ q).1 rfl, x.buf.but k fun a ha q => (f _ q).2 ⟨a, ha, rfl⟩, x.len, x.wf⟩
/-- A field of the table is written. -/
theorem TableAt.store (x : TableAt h p s most knob ps live used) {n : Nat} {l1 l2 l3 new : List Value} {live' used' : Int} (e : S_slots_Table_int.cells ⟨most, knob, s, live, used⟩ = l1 ++ l2 ++ l3) (e' : S_slots_Table_int.cells ⟨most, knob, s, live', used'⟩ = l1 ++ new ++ l3) (hn : l1.length = n) (hl : new.length = l2.length) {k : H → Prop}
    (y : ∀ h', TableAt h' p s most knob ps live' used' → TChg p s h h' → k h') : mStore ((⟨p, 0, none⟩ : Addr).add n) new k h := by
  have hc := x.cell
  rw [e] at hc
  refine w_store (pt_add p n) hc hn hl ?_
  rw [← e']
  exact y _ ⟨upd_same _ _ _, x.buf.but (F := (· = p)) (But.upd rfl) fun a ha q => x.apart ⟨a, ha, q⟩, x.len, x.wf⟩ ⟨But.upd (.inl rfl), fun c q => (upd_none.1 q).2⟩
theorem TableAt.setLive (x : TableAt h p s most knob ps live used) {v : Int} {k : H → Prop} (y : ∀ h', TableAt h' p s most knob ps v used → TChg p s h h' → k h') : mStore ((⟨p, 0, none⟩ : Addr).add 3) [.int .i64 v] k h :=
  x.store (n := 3) (new := [.int .i64 v]) (live' := v) (used' := used) (l1 := (S_slots_Table_int.cells ⟨most, knob, s, live, used⟩).take 3) (l2 := [.int .i64 live]) (l3 := (S_slots_Table_int.cells ⟨most, knob, s, live, used⟩).drop 4) rfl rfl rfl rfl y
theorem TableAt.setUsed (x : TableAt h p s most knob ps live used) {v : Int} {k : H → Prop} (y : ∀ h', TableAt h' p s most knob ps live v → TChg p s h h' → k h') : mStore ((⟨p, 0, none⟩ : Addr).add 4) [.int .i64 v] k h :=
  x.store (n := 4) (new := [.int .i64 v]) (live' := live) (used' := v) (l1 := (S_slots_Table_int.cells ⟨most, knob, s, live, used⟩).take 4) (l2 := [.int .i64 used]) (l3 := []) rfl rfl rfl rfl y
theorem TableAt.place (x : TableAt h p s most knob ps live used) {h' : H} {ps' : List Plc} (b : Buf plC 5 N_slots_place_int h' s ps') (k : But s.foot h h') (l : ps'.length = ps.length) (w : TabWF knob ps') : TableAt h' p s most knob ps' live used :=
  ⟨k _ _ x.cell x.apart, b, by rw [l]; exact x.len, w⟩
/-- A value is put where it belongs. -/
theorem t_put (x : TableAt h p s most knob ps live used) (hl : 0 ≤ live ∧ live ≤ 512) (hu : 0 ≤ used ∧ used ≤ 512) {c : S_api_Cap} {v : Int} (abs : ∀ v, (c, v) ∉ ents ps) (room : (ents ps).length < ps.length) {K : Unit → H → Prop}
    (y : ∀ h' ps' used', TableAt h' p s most knob ps' (live + 1) used' → (ents ps').Perm ((c, v) :: ents ps) → ps'.length = ps.length → used ≤ used' → used' ≤ used + 1 → TChg p s h h' → K () h') : m_slots_Table_int_put (some ⟨p, 0, none⟩) c v K h := by
  unfold m_slots_Table_int_put
  refine t_find x (fun j v o e => absurd (ents_mem.2 ⟨j, e⟩) (abs v)) fun o _ sp => ?_
  rcases sp with ⟨_, hall⟩ | ⟨i, q, hi, rfl, hq, he, hw⟩
  · rw [ents_all hall] at room; omega
  have hlt := lt_of_get hq
  refine w_joinP (fun _ h1 => ∃ used', TableAt h1 p s most knob ps live used' ∧ TChg p s h h1 ∧ used ≤ used' ∧ used' ≤ used + 1) (fun j hj => ?_) ?_
  · refine w_deref (w_load x.f2 (w_field pl_len x.buf.arr hq rfl (v' := q.pl.xstate) (cells' := cInt .u8) (l1 := []) (l3 := (plC q).drop 1) rfl rfl ?_))
    refine w_if (fun _ => ?_) fun _ => hj _ _ ⟨used, x, .refl .., Int.le_refl _, by omega⟩
    refine w_deref (w_load x.f4 (w_deref ?_))
    rw [iAdd_eq (by omega) (by omega)]
    exact x.setUsed fun h1 x1 t1 => hj _ _ ⟨used + 1, x1, t1, by omega, Int.le_refl _⟩
  · rintro _ h1 ⟨used', x1, t1, u1, u2⟩
    refine w_deref (w_load x1.f2 (w_put pl_len x1.buf hlt rfl (.full c v) rfl fun h2 b2 k2 d2 => ?_))
    have x2 := x1.place b2 k2 (List.length_set ..) (x.wf.put abs hi hq he hw)
    refine w_deref (w_load x2.f3 (w_deref ?_))
    rw [iAdd_eq (by omega) (by omega)]
    refine x2.setLive fun h3 x3 t3 => y h3 _ used' x3 (ents_put hq he c v) (List.length_set ..) u1 u2 ?_
    exact (t1.trans ⟨k2.mono fun _ f => .inr f, d2⟩).trans t3
def isFull (q : Plc) : Bool := q.ent.isSome
theorem ents_filter (ps : List Plc) : ents (ps.filter isFull) = ents ps := by
  induction ps with
  | nil => rfl
  | cons q r ih =>
    unfold ents at ih ⊢
    cases q with
    | full c v =>
      rw [List.filter_cons_of_pos rfl, List.filterMap_cons, List.filterMap_cons, ih]
    | free => rw [List.filter_cons_of_neg (by simp [isFull, Plc.ent]), List.filterMap_cons, ih]; rfl
    | dead => rw [List.filter_cons_of_neg (by simp [isFull, Plc.ent]), List.filterMap_cons, ih]; rfl
/-- All tombstones are taken out. -/
theorem t_anew (x : TableAt h p s most knob ps live used) (room : 2 * (ents ps).length ≤ ps.length) {K : Unit → H → Prop}
    (y : ∀ h' ps' used', TableAt h' p s most knob ps' ((ents ps).length : Nat) used' → (ents ps').Perm (ents ps) → ps'.length = ps.length → 0 ≤ used' → 2 * used' ≤ ps.length → TChg p s h h' → K () h') : m_slots_Table_int_anew (some ⟨p, 0, none⟩) K h := by
  unfold m_slots_Table_int_anew
  have hl := x.buf.len
  obtain ⟨h0, h1⟩ := x.len
  refine w_deref (w_load x.f2 ?_)
  refine w_for ps.length (fun i (z : Sl × Int) h' => z.2 = (i : Int) ∧ Buf plC 5 N_slots_place_int h' z.1 ((ps.take i).filter isFull) ∧ Keeps h h' ∧ (∀ c, z.1.foot c → h c = none)) ?_ ⟨rfl, Buf.nil, .refl _, fun c ⟨a, ha, _⟩ => by cases ha⟩
  rintro rec i ⟨s2, ii⟩ h2 hi ⟨e2, bu2, k2, fr2⟩ more
  have e2 : ii = (i : Int) := e2
  subst e2
  have x2 := x.keep k2
  refine w_if' (fun ci => ?_) fun ci => ?_
  · have ci : (i : Int) < (s.len : Int) := ci
    have hi' : i < ps.length := by omega
    obtain ⟨q, hq⟩ : ∃ q, ps[i]? = some q := ⟨_, List.getElem?_eq_getElem hi'⟩
    refine w_idx pl_len x2.buf.arr hq rfl fun a _ ha => w_load (v := q.pl) ha ?_
    have htk : ps.take (i + 1) = ps.take i ++ [q] := by rw [List.take_add_one, hq]; rfl
    have hlen : ((ps.take i).filter isFull).length ≤ 512 := Nat.le_trans (List.length_filter_le _ _) (by rw [List.length_take]; omega)
    have nofull : isFull q = false → (ps.take (i + 1)).filter isFull = (ps.take i).filter isFull := fun e => by rw [htk, List.filter_append]; simp [e]
    have skip : isFull q = false → rec (s2, iAdd .i64 (i : Int) 1) h2 := fun e => more _ _ hi' ⟨ia1 i (by omega), by rw [nofull e]; exact bu2, k2, fr2⟩
    cases q with
    | free => exact w_ifF rfl (skip rfl)
    | dead => exact w_ifF rfl (skip rfl)
    | full c v =>
      refine w_ifT rfl (w_app (by_ := 40) pl_len rfl bu2 [.full c v] rfl rfl (.inl (by simp only [List.length_singleton]; omega)) fun s3 h3 bu3 b3 f3 d3 => ?_)
      refine more _ _ hi' ⟨ia1 i (by omega), ?_, k2.but b3 fun n f => fr2 n f, fun c f => (f3 c f).elim (fr2 c) k2.fresh⟩
      rw [htk, List.filter_append]
      exact bu3
  · have ci : ¬ (i : Int) < (s.len : Int) := ci
    have hi' : i = ps.length := by omega
    subst hi'
    rw [List.take_length] at bu2
    have hf : ∀ q ∈ ps.filter isFull, ∃ c v, q = .full c v := fun q hq => by
      have := (List.mem_filter.1 hq).2
      cases q with
      | full c v => exact ⟨c, v, rfl⟩
      | _ => cases this
    have hents := ents_filter ps
    have hcnt : (ps.filter isFull).length = (ents ps).length := by
      rw [← hents, ents_all]
      intro q hq
      obtain ⟨c, v, rfl⟩ := hf q hq
      exact fun e => by cases e
    refine w_deref (w_load x2.f2 (w_clear pl_len .free rfl x2.buf fun h3 b3 k3 d3 => ?_))
    have x3 := x2.place b3 k3 (List.length_replicate ..) (TabWF.none knob ps.length)
    have ap2 : ∀ c, s2.foot c → c ≠ p ∧ ¬ s.foot c := fun c f => ⟨fun e => (by subst e; have := fr2 _ f; rw [x.cell] at this; cases this), fun g => x.buf.has g (fr2 _ f)⟩
    have bu3 := bu2.but k3 fun a ha f => (ap2 _ ⟨a, ha, rfl⟩).2 f
    refine w_deref (x3.setLive fun h4 x4 t4 => w_deref (x4.setUsed fun h5 x5 t5 => ?_))
    have t45 := t4.trans t5
    have bu5 := bu3.but t45.but fun a ha f => f.elim (ap2 _ ⟨a, ha, rfl⟩).1 (ap2 _ ⟨a, ha, rfl⟩).2
    have t05 : TChg p s h h5 := ((TChg.keeps k2).trans ⟨k3.mono fun _ f => .inr f, d3⟩).trans t45
    have hl2 := bu2.len
    refine w_for (ps.filter isFull).length (fun i (z : Int) h' => z = (i : Int) ∧ Buf plC 5 N_slots_place_int h' s2 (ps.filter isFull) ∧ TChg p s h h' ∧ ∃ ps' used', TableAt h' p s most knob ps' (i : Nat) used' ∧ (ents ps').Perm (ents ((ps.filter isFull).take i)) ∧ ps'.length = ps.length ∧ 0 ≤ used' ∧ used' ≤ i) ?_
      ⟨rfl, bu5, t05, _, 0, x5, ?_, List.length_replicate .., Int.le_refl _, by omega⟩
    · rintro rec i z h6 hi ⟨rfl, bu6, t6, ps6, used6, x6, pm6, l6, u6, u6'⟩ more
      refine w_if' (fun ci => ?_) fun ci => ?_
      · have ci : (i : Int) < (s2.len : Int) := ci
        have hi' : i < (ps.filter isFull).length := by omega
        obtain ⟨q, hq⟩ : ∃ q, (ps.filter isFull)[i]? = some q := ⟨_, List.getElem?_eq_getElem hi'⟩
        obtain ⟨c, v, rfl⟩ := hf q (List.mem_of_getElem? hq)
        refine w_idx pl_len bu6.arr hq rfl fun a _ ha => w_load (v := (Plc.full c v).pl) ha ?_
        have htk : (ps.filter isFull).take (i + 1) = (ps.filter isFull).take i ++ [.full c v] := by rw [List.take_add_one, hq]; rfl
        have hone : Once (ents ((ps.filter isFull).take (i + 1))) := by
          have : Once (ents (ps.filter isFull)) := by rw [hents]; exact x.wf.one
          rw [← List.take_append_drop (i + 1) (ps.filter isFull), ents_append] at this
          unfold Once at this ⊢
          rw [List.map_append] at this
          exact (List.nodup_append.1 this).1
        have abs : ∀ v', (c, v') ∉ ents ps6 := fun v' hv => by
          have hv := pm6.subset hv
          rw [htk, ents_append] at hone
          unfold Once at hone
          rw [List.map_append, List.nodup_append] at hone
          exact hone.2.2 c (List.mem_map.2 ⟨_, hv, rfl⟩) c (by simp [ents, Plc.ent]) rfl
        have hle : (ents ps6).length ≤ i := by rw [pm6.length_eq]; exact Nat.le_trans (ents_le _) (by rw [List.length_take]; omega)
        refine t_put x6 ⟨by omega, by omega⟩ ⟨by omega, by omega⟩ abs (by omega) fun h7 ps7 used7 x7 pm7 l7 u7 u7' t7 => ?_
        refine more _ _ hi' ⟨ia1 i (by omega), bu6.but t7.but fun a ha f => f.elim (ap2 _ ⟨a, ha, rfl⟩).1 (ap2 _ ⟨a, ha, rfl⟩).2, t6.trans t7, ps7, used7, ?_, ?_, l7.trans l6, by omega, by omega⟩
        · rw [show ((i + 1 : Nat) : Int) = (i : Int) + 1 by omega]; exact x7
        · rw [htk, ents_append]
          exact (pm7.trans (pm6.cons _)).trans (List.perm_append_comm (l₁ := [(c, v)]))
      · have ci : ¬ (i : Int) < (s2.len : Int) := ci
        have hi' : i = (ps.filter isFull).length := by omega
        subst hi'
        rw [List.take_length, hents] at pm6
        exact y h6 ps6 used6 (by rw [← hcnt]; exact x6) pm6 l6 u6 (by omega) t6
    · rw [List.take_zero]
      unfold ents
      rw [List.filterMap_eq_nil_iff.2 fun a ha => by rw [(List.mem_replicate.1 ha).2]; rfl]
      exact .refl _
end
/-- A table that holds 'l'. -/
structure Tab (h : H) (p : Nat) (s : Sl) (most knob : Int) (l : List (S_api_Cap × Int)) : Prop where
  ex : ∃ ps used, TableAt h p s most knob ps (l.length : Nat) used ∧ (ents ps).Perm l ∧ 0 ≤ used ∧ used ≤ ps.length ∧ 2 * most ≤ ps.length ∧ (l.length : Int) ≤ most
theorem alook_perm {K V : Type} [DecidableEq K] {l m : List (K × V)} (h : l.Perm m) (o : Once l) (k : K) : alook l k = alook m k := by
  have o' : Once m := (h.map Prod.fst).nodup_iff.1 o
  cases e : alook l k with
  | none =>
    cases e' : alook m k with
    | none => rfl
    | some v => have := o.look (h.symm.subset (alook_mem e')); rw [e] at this; cases this
  | some v => exact (o'.look (h.subset (alook_mem e))).symm
theorem adel_perm {K V : Type} [DecidableEq K] {k : K} {v : V} : ∀ {l : List (K × V)}, alook l k = some v → l.Perm ((k, v) :: adel l k) := by
  intro l
  induction l with
  | nil => intro e; cases e
  | cons q r ih =>
    obtain ⟨a, w⟩ := q
    intro e
    rw [alook_cons] at e
    rw [adel_cons]
    by_cases z : k = a
    · rw [if_pos z] at e ⊢
      cases e; subst z; exact .refl _
    · rw [if_neg z] at e ⊢
      exact ((ih e).cons _).trans (List.Perm.swap _ _ _)
section
variable {h : H} {p : Nat} {s : Sl} {most knob : Int} {l : List (S_api_Cap × Int)}
theorem Tab.keep {h' : H} (x : Tab h p s most knob l) (k : Keeps h h') : Tab h' p s most knob l := by
  obtain ⟨ps, used, a, b⟩ := x.ex
  exact ⟨ps, used, a.keep k, b⟩
theorem Tab.but {h' : H} {F : Nat → Prop} (x : Tab h p s most knob l) (k : But F h h') (f : ∀ c, F c → c ≠ p ∧ ¬ s.foot c) : Tab h' p s most knob l := by
  obtain ⟨ps, used, a, b⟩ := x.ex
  exact ⟨ps, used, a.but k f, b⟩
theorem Tab.once (x : Tab h p s most knob l) : Once l := by
  obtain ⟨ps, used, a, b, _⟩ := x.ex
  exact (b.map Prod.fst).nodup_iff.1 a.wf.one
theorem Tab.has (x : Tab h p s most knob l) {c : Nat} (f : c = p ∨ s.foot c) : h c ≠ none := by
  obtain ⟨ps, used, a, b, _⟩ := x.ex
  rcases f with rfl | f
  · rw [a.cell]; simp
  · exact a.buf.has f
theorem Tab.typed (x : Tab h p s most knob l) {c : Nat} (f : c = p ∨ s.foot c) : Typed h N_slots_Table_int c ∨ Typed h N_slots_place_int c := by
  obtain ⟨ps, used, a, b, _⟩ := x.ex
  rcases f with rfl | f
  · exact .inl (Typed.of a.cell)
  · exact .inr (a.buf.typed f)
theorem t_TGet (x : Tab h p s most knob l) {c : S_api_Cap} {K : Int × Bool → H → Prop} (y : K ((alook l c).getD 0, (alook l c).isSome) h) : m_slots_Table_int_Get (some ⟨p, 0, none⟩) c K h := by
  obtain ⟨ps, used, a, b, _⟩ := x.ex
  unfold m_slots_Table_int_Get
  refine t_find a (fun j v o e => w_ifT (by simp) ?_) fun o abs _ => w_ifF (by simp) ?_
  · have : alook l c = some v := x.once.look (b.subset (ents_mem.2 ⟨j, e⟩))
    rw [this] at y
    exact w_deref (w_load a.f2 (w_field pl_len a.buf.arr e rfl (v' := v) (cells' := cInt .i64) (l1 := (plC (.full c v)).take 4) (l3 := []) rfl rfl y))
  · have : alook l c = none := by
      cases e : alook l c with
      | none => rfl
      | some v => exact absurd (b.symm.subset (alook_mem e)) (abs v)
    rw [this] at y
    exact y
theorem t_TLen (x : Tab h p s most knob l) {K : Int → H → Prop} (y : K (l.length : Nat) h) : m_slots_Table_int_Len (some ⟨p, 0, none⟩) K h := by
  obtain ⟨ps, used, a, b, _⟩ := x.ex
  unfold m_slots_Table_int_Len
  exact w_deref (w_load a.f3 y)
theorem t_TPut (x : Tab h p s most knob l) {c : S_api_Cap} {v : Int} {K : Int → H → Prop} (y1 : alook l c ≠ none → K 19 h) (y2 : alook l c = none → most ≤ l.length → K 10 h)
    (y : alook l c = none → (l.length : Int) < most → ∀ h', Tab h' p s most knob (l ++ [(c, v)]) → TChg p s h h' → K 0 h') : m_slots_Table_int_Put (some ⟨p, 0, none⟩) c v K h := by
  obtain ⟨ps, used, a, b, u0, u1, mp, ml⟩ := x.ex
  unfold m_slots_Table_int_Put
  obtain ⟨h0, h1⟩ := a.len
  have hle := b.length_eq
  refine t_find a (fun j w o e => w_ifT (by simp) ?_) fun o abs _ => w_ifF (by simp) ?_
  · refine y1 ?_
    rw [x.once.look (b.subset (ents_mem.2 ⟨j, e⟩))]; simp
  have hno : alook l c = none := by
    cases e : alook l c with
    | none => rfl
    | some v => exact absurd (b.symm.subset (alook_mem e)) (abs v)
  refine w_deref (w_deref (w_load a.f3 (w_load a.f0 (w_if' (fun cm => ?_) fun cm => ?_))))
  · exact y2 hno cm
  have cm : ¬ most ≤ ((l.length : Nat) : Int) := cm
  refine w_joinP (fun _ h1 => ∃ ps1 used1, TableAt h1 p s most knob ps1 (l.length : Nat) used1 ∧ (ents ps1).Perm l ∧ 0 ≤ used1 ∧ used1 + 1 ≤ ps1.length ∧ 2 * most ≤ ps1.length ∧ TChg p s h h1) (fun j hj => ?_) ?_
  · refine w_deref (w_deref (w_load a.f4 (w_load a.f2 (w_if' (fun ca => ?_) fun ca => ?_))))
    · refine t_anew a (by omega) fun h2 ps2 used2 x2 pm2 l2 u2 u2' t2 => hj _ _ ⟨ps2, used2, ?_, pm2.trans b, u2, by omega, by omega, t2⟩
      rw [hle] at x2; exact x2
    · have hsl := a.buf.len
      rw [show (iMul .i64 7 (s.len : Int) < iMul .i64 8 (iAdd .i64 used 1)) ↔ (7 * (s.len : Int) < 8 * (used + 1)) by rw [iMul_eq (by omega) (by omega), iAdd_eq (by omega) (by omega), iMul_eq (by omega) (by omega)]] at ca
      exact hj _ _ ⟨ps, used, a, b, u0, by omega, mp, .refl ..⟩
  · rintro _ h2 ⟨ps1, used1, x1, b1, v0, v1, mp1, t1⟩
    have hl1 := b1.length_eq
    have := x1.len
    refine t_put x1 ⟨by omega, by omega⟩ ⟨by omega, by omega⟩ (fun w hw => abs w (b.symm.subset (b1.subset hw))) (by omega) fun h3 ps3 used3 x3 pm3 l3 w1 w2 t3 => ?_
    refine y hno (by omega) h3 ⟨ps3, used3, ?_, ?_, by omega, by omega, by omega, by simp only [List.length_append, List.length_singleton]; omega⟩ (t1.trans t3)
    · rw [List.length_append, List.length_singleton]
      exact x3
    · exact (pm3.trans (b1.cons _)).trans (List.perm_append_comm (l₁ := [(c, v)]))
theorem t_TDrop (x : Tab h p s most knob l) {c : S_api_Cap} {K : Bool → H → Prop} (no : alook l c = none → K false h) (y : ∀ v, alook l c = some v → ∀ h', Tab h' p s most knob (adel l c) → TChg p s h h' → K true h') : m_slots_Table_int_Drop (some ⟨p, 0, none⟩) c K h := by
  obtain ⟨ps, used, a, b, u0, u1, mp, ml⟩ := x.ex
  unfold m_slots_Table_int_Drop
  obtain ⟨h0, h1⟩ := a.len
  refine t_find a (fun j v o e => w_ifF (by simp) ?_) fun o abs _ => w_ifT (by simp) ?_
  · have hv : alook l c = some v := x.once.look (b.subset (ents_mem.2 ⟨j, e⟩))
    refine w_deref (w_load a.f2 (w_put pl_len a.buf (lt_of_get e) rfl .dead rfl fun h2 b2 k2 d2 => ?_))
    have x2 := a.place b2 k2 (List.length_set ..) (a.wf.kill e)
    have hp := adel_perm hv
    have hlen := hp.length_eq
    rw [List.length_cons] at hlen
    refine w_deref (w_load x2.f3 (w_deref ?_))
    rw [iSub_eq (by omega) (by omega)]
    refine x2.setLive fun h3 x3 t3 => y v hv h3 ⟨ps.set j .dead, used, ?_, ?_, u0, by rw [List.length_set]; exact u1, by rw [List.length_set]; exact mp, by omega⟩ (TChg.trans ⟨k2.mono fun _ f => .inr f, d2⟩ t3)
    · rw [show ((adel l c).length : Int) = (l.length : Int) - 1 by omega]; exact x3
    · exact List.Perm.cons_inv (((ents_kill e).symm.trans b).trans hp)
  · refine no ?_
    cases e : alook l c with
    | none => rfl
    | some v => exact absurd (b.symm.subset (alook_mem e)) (abs v)
theorem t_TNew {most knob : Int} {K : Option Addr × Int → H → Prop} (bad : (most < 1 ∨ 256 < most ∨ knob < 0 ∨ 64 < knob) → K (none, 16) h)
    (good : 1 ≤ most → most ≤ 256 → 0 ≤ knob → knob ≤ 64 → ∀ p s h', Tab h' p s most knob [] → Keeps h h' → h p = none → (∀ c, s.foot c → h c = none) → K (some ⟨p, 0, none⟩, 0) h') : m_slots_New_int most knob K h := by
  unfold m_slots_New_int
  refine w_if (fun c => bad ?_) fun c => ?_
  · simp only [Bool.or_eq_true, decide_eq_true_eq] at c; omega
  · simp only [Bool.or_eq_false_iff, decide_eq_false_iff_not] at c
    have m2 : iMul .i64 2 most = 2 * most := iMul_eq (by omega) (by omega)
    refine w_for 9 (fun i (z : Int) h' => z = ((2 ^ i : Nat) : Int) ∧ h = h') ?_ ⟨rfl, rfl⟩
    rintro rec i z h' hi ⟨rfl, rfl⟩ more
    have hp : 0 < 2 ^ i := Nat.pow_pos (by decide)
    have hp9 : 2 ^ i ≤ 2 ^ 9 := Nat.pow_le_pow_right (by decide) hi
    rw [m2]
    refine w_if' (fun ci => ?_) fun ci => ?_
    · have ci : ((2 ^ i : Nat) : Int) < 2 * most := ci
      have h9 : i < 9 := by
        rcases Nat.lt_or_ge i 9 with q | q
        · exact q
        · obtain rfl : i = 9 := by omega
          have : ((2 ^ 9 : Nat) : Int) = 512 := rfl
          omega
      refine more _ _ h9 ⟨?_, rfl⟩
      rw [iMul_eq (by omega) (by omega), Nat.pow_succ]; omega
    · have ci : ¬ ((2 ^ i : Nat) : Int) < 2 * most := ci
      generalize 2 ^ i = n at *
      have hn : n ≤ 512 := by omega
      refine w_make pl_len .free rfl rfl rfl (by omega) (by omega) fun s h1 bu k1 f1 _ => w_new fun p fp => ?_
      have hpn : h p = none := k1.fresh fp
      refine good (by omega) (by omega) (by omega) (by omega) p s _ ⟨List.replicate n .free, 0, ⟨upd_same _ _ _, bu.keep (.new fp), by rw [List.length_replicate]; omega, TabWF.none knob n⟩, ?_, Int.le_refl _, by omega, by rw [List.length_replicate]; omega, by simp only [List.length_nil]; omega⟩ (k1.trans (.new fp)) hpn f1
      have he : ents (List.replicate n .free) = [] := by
        unfold ents
        rw [List.filterMap_eq_nil_iff]
        intro a ha
        rw [(List.mem_replicate.1 ha).2]; rfl
      rw [he]
end
/-! Rights. -/
theorem w_Valid {h : H} {r : Int} {k : Bool → H → Prop} (y : k (decide (1 ≤ r ∧ r ≤ 31)) h) : mPure (m_mask_Valid r) k h := by
  refine w_pure _ (fun _ _ z => ?_) y
  unfold m_mask_Valid
  rw [← Bool.decide_and]; exact z
def partOf (sub r : Int) : Bool := decide (1 ≤ sub ∧ sub ≤ 31) && (decide (1 ≤ r ∧ r ≤ 31) && decide (iAnd .i64 sub r = sub))
theorem t_Part {h : H} {sub r : Int} {K : Bool → H → Prop} (y : K (partOf sub r) h) : m_mask_Part sub r K h := by
  unfold m_mask_Part
  unfold partOf at y
  refine w_Valid (w_if (fun c => ?_) fun c => ?_)
  · rw [c, Bool.true_and] at y; exact w_Valid y
  · rw [c] at y; exact y
theorem w_Part {h : H} {sub r : Int} {k : Bool → H → Prop} (y : k (partOf sub r) h) : mPure (m_mask_Part sub r) k h := w_pure _ (fun _ _ z => t_Part z) y
end Go.Proofs.Ytiajjcboddaenaa.K
