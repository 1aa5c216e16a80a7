/- revokeRest: true at every input, the arguments as they were: no condition. Part 4 of 7. -/
import Derived.Test.YtcclfjhnpeappaaGreatZD3
namespace Go.Proofs.YtcclfjhnpeappaaGreat.K
open Go
instance : DecidableEq S_api_Word := fun a b => decidable_of_iff (a.Hi = b.Hi ∧ a.Lo = b.Lo) ⟨fun ⟨h1, h2⟩ => by cases a; cases b; simp_all, fun e => by subst e; exact ⟨rfl, rfl⟩⟩
instance : DecidableEq S_api_Cap := fun a b => decidable_of_iff (a.Obj = b.Obj ∧ a.Pass = b.Pass) ⟨fun ⟨h1, h2⟩ => by cases a; cases b; simp_all, fun e => by subst e; exact ⟨rfl, rfl⟩⟩
theorem cap_eqB (x y : S_api_Cap) : ((decide (x.Obj = y.Obj)) && (((decide (x.Pass.Hi = y.Pass.Hi)) && ((decide (x.Pass.Lo = y.Pass.Lo)) && true)) && true)) = decide (x = y) := by
  obtain ⟨a, b, c⟩ := x
  obtain ⟨a', b', c'⟩ := y
  rw [Bool.eq_iff_iff]
  simp only [Bool.and_eq_true, decide_eq_true_eq, Bool.and_true, S_api_Cap.mk.injEq, S_api_Word.mk.injEq]
def mixR (h v : Int) : Int := iXor .u64 (iMul .u64 (iXor .u64 h v) 11400714819323198485) (iShr .u64 (iMul .u64 (iXor .u64 h v) 11400714819323198485) 29)
def hash (obj : Int) (w : S_api_Word) (knob : Int) : Int :=
  if knob ≤ 0 then 0 else if 64 ≤ knob then mixR (mixR (mixR 5903417616801668165 (IntKind.wrap .u64 obj)) w.Hi) w.Lo
  else iAnd .u64 (mixR (mixR (mixR 5903417616801668165 (IntKind.wrap .u64 obj)) w.Hi) w.Lo) (iSub .u64 (iShl .u64 1 knob) 1)
theorem t_Hash {h : H} {obj : Int} {w : S_api_Word} {knob : Int} {K : Int → H → Prop} (y : K (hash obj w knob) h) : m_mix_Hash obj w knob K h := by
  unfold m_mix_Hash
  refine ⟨4, ?_⟩
  refine w_ifF rfl (w_ifF rfl (w_ifF rfl ?_))
  refine w_ifT rfl ?_
  refine w_ifF rfl (w_ifT rfl ?_)
  refine w_ifF rfl (w_ifF rfl (w_ifT rfl ?_))
  unfold hash at y
  refine w_if' (fun c => by rw [if_pos c] at y; exact y) fun c => ?_
  rw [if_neg c] at y
  refine w_if' (fun c2 => by rw [if_pos c2] at y; exact y) fun c2 => ?_
  rw [if_neg c2] at y
  exact w_nn (by omega) y
theorem wrap_nat (x : Int) : ∃ n : Nat, IntKind.u64.wrap x = n ∧ n < 2 ^ 64 := ⟨(x % 18446744073709551616).toNat, by rw [wrap_u64]; omega, by omega⟩
theorem hash_nat (obj : Int) (w : S_api_Word) (knob : Int) : ∃ n : Nat, hash obj w knob = n ∧ n < 2 ^ 64 := by
  unfold hash
  split
  · exact ⟨0, rfl, by decide⟩
  · split
    · exact wrap_nat _
    · exact wrap_nat _
theorem w_hash {h : H} {obj : Int} {w : S_api_Word} {knob : Int} {k : Int → H → Prop} (y : k (hash obj w knob) h) : mPure (m_mix_Hash obj w knob) k h := w_pure _ (fun _ _ y => t_Hash y) y
def home (knob : Int) (n : Nat) (c : S_api_Cap) : Nat := (hash c.Obj c.Pass knob).toNat % n
def path (knob : Int) (n : Nat) (c : S_api_Cap) (i : Nat) : Nat := (home knob n c + i) % n
section
variable {knob : Int} {n : Nat} {c : S_api_Cap}
theorem home_lt (hn : 0 < n) : home knob n c < n := Nat.mod_lt _ hn
theorem path_lt (hn : 0 < n) (i : Nat) : path knob n c i < n := Nat.mod_lt _ hn
theorem path_eq {i : Nat} (hi : i < n) : path knob n c i = if home knob n c + i < n then home knob n c + i else home knob n c + i - n := by
  have := home_lt (knob := knob) (c := c) (show 0 < n by omega)
  unfold path
  split
  · rename_i q; exact Nat.mod_eq_of_lt q
  · rename_i q; rw [Nat.mod_eq_sub_mod (by omega), Nat.mod_eq_of_lt (by omega)]
theorem path_inj {i j : Nat} (hi : i < n) (hj : j < n) (e : path knob n c i = path knob n c j) : i = j := by
  rw [path_eq hi, path_eq hj] at e
  split at e <;> split at e <;> omega
theorem path_sur {j : Nat} (hj : j < n) : ∃ i, i < n ∧ path knob n c i = j := by
  have := home_lt (knob := knob) (c := c) (show 0 < n by omega)
  by_cases q : home knob n c ≤ j
  · exact ⟨j - home knob n c, by omega, by rw [path_eq (by omega), if_pos (by omega)]; omega⟩
  · exact ⟨j + n - home knob n c, by omega, by rw [path_eq (by omega), if_neg (by omega)]; omega⟩
theorem path_code {i : Nat} (hn : 0 < n) (hm : n ≤ 512) (hi : i < n) : iRem .i64 (iAdd .i64 (IntKind.wrap .i64 (iRem .u64 (hash c.Obj c.Pass knob) (IntKind.wrap .u64 (n : Int)))) (i : Int)) (n : Int) = ((path knob n c i : Nat) : Int) := by
  obtain ⟨m, e, hm'⟩ := hash_nat c.Obj c.Pass knob
  have e1 : IntKind.u64.wrap (n : Int) = n := u_wrap (by omega)
  have e2 : iRem .u64 (m : Int) (n : Int) = ((m % n : Nat) : Int) := rfl
  have hlt : m % n < n := Nat.mod_lt _ hn
  rw [e, e1, e2, i64_eq (by omega) (by omega), iAdd_eq (by omega) (by omega)]
  unfold path home
  rw [e]
  show (((m % n : Nat) : Int) + (i : Int)).tmod n = _
  rw [← Int.natCast_add]
  rfl
end
inductive Plc
  | free
  | dead
  | full (c : S_api_Cap) (v : Int)
def Plc.pl : Plc → S_slots_place_int
  | .free => ⟨0, ⟨0, ⟨0, 0⟩⟩, 0⟩
  | .dead => ⟨2, ⟨0, ⟨0, 0⟩⟩, 0⟩
  | .full c v => ⟨1, c, v⟩
def Plc.ent : Plc → Option (S_api_Cap × Int)
  | .full c v => some (c, v)
  | _ => none
def plC (p : Plc) : List Value := S_slots_place_int.cells p.pl
theorem pl_len : ∀ x, (plC x).length = 5 := fun _ => rfl
def ents (ps : List Plc) : List (S_api_Cap × Int) := ps.filterMap Plc.ent
theorem ents_mem {ps : List Plc} {c : S_api_Cap} {v : Int} : (c, v) ∈ ents ps ↔ ∃ j : Nat, ps[j]? = some (.full c v) := by
  unfold ents
  rw [List.mem_filterMap]
  constructor
  · rintro ⟨p, hp, e⟩
    obtain ⟨j, hj⟩ := List.mem_iff_getElem?.1 hp
    refine ⟨j, ?_⟩
    cases p <;> simp [Plc.ent] at e
    obtain ⟨rfl, rfl⟩ := e
    exact hj
  · rintro ⟨j, hj⟩
    exact ⟨_, List.mem_iff_getElem?.2 ⟨j, hj⟩, rfl⟩
theorem ents_append (a b : List Plc) : ents (a ++ b) = ents a ++ ents b := List.filterMap_append
theorem ents_put {ps : List Plc} {j : Nat} {p : Plc} (hj : ps[j]? = some p) (he : p.ent = none) (c : S_api_Cap) (v : Int) : (ents (ps.set j (.full c v))).Perm ((c, v) :: ents ps) := by
  have hlt := lt_of_get hj
  have e1 : ps.set j (.full c v) = ps.take j ++ .full c v :: ps.drop (j + 1) := by rw [List.set_eq_take_append_cons_drop, if_pos hlt]
  rw [e1]
  conv => rhs; rw [split_at hj]
  rw [ents_append, ents_append]
  have e2 : ents (.full c v :: ps.drop (j + 1)) = (c, v) :: ents (ps.drop (j + 1)) := rfl
  have e3 : ents (p :: ps.drop (j + 1)) = ents (ps.drop (j + 1)) := by unfold ents; rw [List.filterMap_cons, he]
  rw [e2, e3]
  exact List.perm_middle
theorem ents_kill {ps : List Plc} {j : Nat} {c : S_api_Cap} {v : Int} (hj : ps[j]? = some (.full c v)) : (ents ps).Perm ((c, v) :: ents (ps.set j .dead)) := by
  have hlt := lt_of_get hj
  have e1 : ps.set j .dead = ps.take j ++ .dead :: ps.drop (j + 1) := by rw [List.set_eq_take_append_cons_drop, if_pos hlt]
  rw [e1]
  conv => lhs; rw [split_at hj]
  rw [ents_append, ents_append]
  exact List.perm_middle
theorem ents_le : ∀ ps : List Plc, (ents ps).length ≤ ps.length := fun _ => List.length_filterMap_le _ _
theorem ents_all {ps : List Plc} (h : ∀ q ∈ ps, q.ent ≠ none) : (ents ps).length = ps.length := by
  induction ps with
  | nil => rfl
  | cons p r ih =>
    have hp := h p (List.mem_cons_self ..)
    have := ih fun q hq => h q (List.mem_cons_of_mem _ hq)
    cases p <;> first | exact absurd rfl hp | skip
    show ((ents r).length + 1) = _
    rw [this]; rfl
structure TabWF (knob : Int) (ps : List Plc) : Prop where
  one : Once (ents ps)
  way : ∀ c v i, i < ps.length → ps[path knob ps.length c i]? = some (.full c v) → ∀ j, j < i → ps[path knob ps.length c j]? ≠ some .free
def Spot (knob : Int) (ps : List Plc) (c : S_api_Cap) (o : Int) : Prop :=
  (o = -1 ∧ ∀ q ∈ ps, q.ent ≠ none) ∨ ∃ i p, i < ps.length ∧ o = ((path knob ps.length c i : Nat) : Int) ∧ ps[path knob ps.length c i]? = some p ∧ p.ent = none ∧ ∀ j, j < i → ps[path knob ps.length c j]? ≠ some .free
theorem TabWF.absent {knob : Int} {ps : List Plc} (w : TabWF knob ps) {c : S_api_Cap} {m : Nat} (hm : m ≤ ps.length) (hne : ∀ j, j < m → ∀ v, ps[path knob ps.length c j]? ≠ some (.full c v)) (hend : m = ps.length ∨ ps[path knob ps.length c m]? = some .free) (v : Int) : (c, v) ∉ ents ps := fun hv => by
  obtain ⟨j, hj⟩ := ents_mem.1 hv
  obtain ⟨i, hi, rfl⟩ := path_sur (knob := knob) (c := c) (lt_of_get hj)
  rcases Nat.lt_or_ge i m with q | q
  · exact hne i q v hj
  · rcases hend with e | e
    · omega
    · rcases Nat.lt_or_ge m i with r | r
      · exact w.way c v i hi hj m r e
      · obtain rfl : i = m := by omega
        rw [hj] at e; cases e
theorem TabWF.put {knob : Int} {ps : List Plc} (w : TabWF knob ps) {c : S_api_Cap} {v : Int} (abs : ∀ v, (c, v) ∉ ents ps) {i : Nat} {p : Plc} (hi : i < ps.length) (hp : ps[path knob ps.length c i]? = some p) (he : p.ent = none) (hw : ∀ j, j < i → ps[path knob ps.length c j]? ≠ some .free) :
    TabWF knob (ps.set (path knob ps.length c i) (.full c v)) := by
  have hl : (ps.set (path knob ps.length c i) (.full c v)).length = ps.length := List.length_set ..
  have get : ∀ k, (ps.set (path knob ps.length c i) (.full c v))[k]? = if path knob ps.length c i = k then some (.full c v) else ps[k]? := fun k => by
    rw [List.getElem?_set]
    split
    · rw [if_pos (lt_of_get hp)]
    · rfl
  refine ⟨?_, fun c' v' i' hi' hf j hj => ?_⟩
  · unfold Once
    have := (ents_put hp he c v).map (·.1)
    refine (this.nodup_iff).2 ?_
    rw [List.map_cons, List.nodup_cons]
    refine ⟨fun q => ?_, w.one⟩
    obtain ⟨z, hz, e⟩ := List.mem_map.1 q
    obtain ⟨a, b⟩ := z
    cases e
    exact abs _ hz
  · rw [hl] at hi' hf ⊢
    rw [get] at hf ⊢
    split
    · exact fun q => by cases q
    · rename_i hne
      split at hf
      · rename_i e
        cases hf
        have := path_inj hi hi' e
        subst this
        exact hw j hj
      · exact w.way c' v' i' hi' hf j hj
theorem TabWF.kill {knob : Int} {ps : List Plc} (w : TabWF knob ps) {k : Nat} {c : S_api_Cap} {v : Int} (hk : ps[k]? = some (.full c v)) : TabWF knob (ps.set k .dead) := by
  have hl : (ps.set k .dead).length = ps.length := List.length_set ..
  have get : ∀ j, (ps.set k .dead)[j]? = if k = j then some .dead else ps[j]? := fun j => by
    rw [List.getElem?_set]
    split
    · rw [if_pos (lt_of_get hk)]
    · rfl
  refine ⟨?_, fun c' v' i' hi' hf j hj => ?_⟩
  · unfold Once
    have := ((ents_kill hk).map Prod.fst).nodup_iff.1 w.one
    rw [List.map_cons, List.nodup_cons] at this
    exact this.2
  · rw [hl] at hi' hf ⊢
    rw [get] at hf ⊢
    split
    · exact fun q => by cases q
    · split at hf
      · cases hf
      · exact w.way c' v' i' hi' hf j hj
theorem TabWF.none (knob : Int) (n : Nat) : TabWF knob (List.replicate n .free) := by
  have he : ents (List.replicate n .free) = [] := by
    unfold ents
    rw [List.filterMap_eq_nil_iff]
    intro a ha
    rw [(List.mem_replicate.1 ha).2]; rfl
  refine ⟨by rw [he]; exact List.nodup_nil, fun c v i hi hf => ?_⟩
  have : (c, v) ∈ ents (List.replicate n .free) := ents_mem.2 ⟨_, hf⟩
  rw [he] at this; cases this
structure TableAt (h : H) (p : Nat) (s : Sl) (most knob : Int) (ps : List Plc) (live used : Int) : Prop where
  cell : h p = some (.cells (S_slots_Table_int.cells ⟨most, knob, s, live, used⟩).toArray N_slots_Table_int (0, 0))
  buf : Buf plC 5 N_slots_place_int h s ps
  len : 0 < ps.length ∧ ps.length ≤ 512
  wf : TabWF knob ps
section
variable {h : H} {p : Nat} {s : Sl} {most knob : Int} {ps : List Plc} {live used : Int}
theorem TableAt.f (x : TableAt h p s most knob ps live used) {n : Nat} {l1 l2 l3 : List Value} (e : S_slots_Table_int.cells ⟨most, knob, s, live, used⟩ = l1 ++ l2 ++ l3) (hn : l1.length = n) : At h ((⟨p, 0, none⟩ : Addr).add n) l2 := by
  have hc := x.cell
  rw [e] at hc
  have : (⟨p, 0, none⟩ : Addr).add n = ⟨p, n, none⟩ := by
    unfold Addr.add; split
    · rename_i q; subst q; rfl
    · simp
  rw [this]
  exact At.own hc hn
theorem TableAt.f0 (x : TableAt h p s most knob ps live used) : At h ((⟨p, 0, none⟩ : Addr).add 0) (cInt .i64 most) := x.f (l1 := []) (l3 := (S_slots_Table_int.cells ⟨most, knob, s, live, used⟩).drop 1) rfl rfl
theorem TableAt.f1 (x : TableAt h p s most knob ps live used) : At h ((⟨p, 0, none⟩ : Addr).add 1) (cInt .i64 knob) := x.f (l1 := (S_slots_Table_int.cells ⟨most, knob, s, live, used⟩).take 1) (l3 := (S_slots_Table_int.cells ⟨most, knob, s, live, used⟩).drop 2) rfl rfl
theorem TableAt.f2 (x : TableAt h p s most knob ps live used) : At h ((⟨p, 0, none⟩ : Addr).add 2) (cSl s) := x.f (l1 := (S_slots_Table_int.cells ⟨most, knob, s, live, used⟩).take 2) (l3 := (S_slots_Table_int.cells ⟨most, knob, s, live, used⟩).drop 3) rfl rfl
theorem TableAt.f3 (x : TableAt h p s most knob ps live used) : At h ((⟨p, 0, none⟩ : Addr).add 3) (cInt .i64 live) := x.f (l1 := (S_slots_Table_int.cells ⟨most, knob, s, live, used⟩).take 3) (l3 := (S_slots_Table_int.cells ⟨most, knob, s, live, used⟩).drop 4) rfl rfl
theorem TableAt.f4 (x : TableAt h p s most knob ps live used) : At h ((⟨p, 0, none⟩ : Addr).add 4) (cInt .i64 used) := x.f (l1 := (S_slots_Table_int.cells ⟨most, knob, s, live, used⟩).take 4) (l3 := []) rfl rfl
theorem TableAt.apart (x : TableAt h p s most knob ps live used) : ¬ s.foot p := fun f => (x.buf.typed f).ne (Typed.of x.cell) (by decide) rfl
theorem t_find (x : TableAt h p s most knob ps live used) {c : S_api_Cap} {K : Int × Int → H → Prop} (hit : ∀ (j : Nat) v o, ps[j]? = some (.full c v) → K ((j : Int), o) h)
    (miss : ∀ o, (∀ v, (c, v) ∉ ents ps) → Spot knob ps c o → K (-1, o) h) : m_slots_Table_int_find (some ⟨p, 0, none⟩) c K h := by
  unfold m_slots_Table_int_find
  have hl := x.buf.len
  obtain ⟨h0, h1⟩ := x.len
  refine w_deref (w_load x.f2 (w_deref (w_load x.f1 (w_hash ⟨?_, ?_⟩))))
  · rw [u_wrap (by omega)]; omega
  rw [hl]
  refine w_for ps.length (fun i (z : Int × Int) h' => h = h' ∧ z.2 = (i : Int) ∧ (∀ j, j < i → ps[path knob ps.length c j]? ≠ some .free ∧ ∀ v, ps[path knob ps.length c j]? ≠ some (.full c v)) ∧
    ((z.1 = -1 ∧ ∀ j, j < i → ∀ q, ps[path knob ps.length c j]? = some q → q.ent ≠ none) ∨ ∃ j, j < i ∧ z.1 = ((path knob ps.length c j : Nat) : Int) ∧ ps[path knob ps.length c j]? = some .dead)) ?_ ⟨rfl, rfl, fun j hj => by omega, .inl ⟨rfl, fun j hj => by omega⟩⟩
  rintro rec i ⟨o, ii⟩ h' hi ⟨rfl, e2, hne, ho⟩ more
  have e2 : ii = (i : Int) := e2
  subst e2
  have spotD : ∀ {m : Nat}, (∃ j, j < m ∧ o = ((path knob ps.length c j : Nat) : Int) ∧ ps[path knob ps.length c j]? = some .dead) → m ≤ i → Spot knob ps c o := fun ⟨j, hj, e, hd⟩ hm => .inr ⟨j, .dead, by omega, e, hd, rfl, fun k hk => (hne k (by omega)).1⟩
  refine w_if' (fun ci => ?_) fun ci => ?_
  · have ci : (i : Int) < (ps.length : Int) := ci
    have hi' : i < ps.length := by omega
    refine ⟨by show ((ps.length : Nat) : Int) ≠ 0; omega, w_deref (w_load x.f2 ?_)⟩
    show mIdx s (iRem .i64 (iAdd .i64 (IntKind.wrap .i64 (iRem .u64 (hash c.Obj c.Pass knob) (IntKind.wrap .u64 (ps.length : Int)))) (i : Int)) (ps.length : Int)) 5 _ h
    rw [path_code h0 h1 hi']
    have hlt := path_lt (knob := knob) (c := c) h0 i
    obtain ⟨q, hq⟩ : ∃ q, ps[path knob ps.length c i]? = some q := ⟨_, List.getElem?_eq_getElem hlt⟩
    refine w_idx pl_len x.buf.arr hq rfl fun a ha hat => ?_
    have hst : At h (a.add 0) (cInt .u8 q.pl.xstate) := At.sub (l1 := []) (l3 := (plC q).drop 1) hat rfl
    refine w_load hst ?_
    cases q with
    | free =>
      refine w_ifT rfl ?_
      have abs := x.wf.absent (c := c) hi (fun j hj => (hne j hj).2) (.inr hq)
      refine w_if' (fun co => ?_) fun co => ?_
      · exact miss _ abs (.inr ⟨i, .free, hi', rfl, hq, rfl, fun j hj => (hne j hj).1⟩)
      · rcases ho with ⟨e, _⟩ | ho
        · have co : ¬ o < 0 := co
          have e : o = -1 := e
          omega
        · exact miss _ abs (spotD ho (Nat.le_refl _))
    | dead =>
      refine w_ifF rfl (w_load hst (w_ifT rfl ?_))
      have hne' : ∀ j, j < i + 1 → ps[path knob ps.length c j]? ≠ some .free ∧ ∀ v, ps[path knob ps.length c j]? ≠ some (.full c v) := fun j hj => by
        rcases Nat.lt_or_ge j i with r | r
        · exact hne j r
        · obtain rfl : j = i := by omega
          rw [hq]; exact ⟨fun e => (by cases e), fun v e => (by cases e)⟩
      refine w_if' (fun co => ?_) fun co => ?_
      · exact more _ _ hi' ⟨rfl, by rw [iAdd_eq (by omega) (by omega)]; rfl, hne', .inr ⟨i, by omega, rfl, hq⟩⟩
      · refine more _ _ hi' ⟨rfl, by rw [iAdd_eq (by omega) (by omega)]; rfl, hne', ?_⟩
        rcases ho with ⟨e, _⟩ | ⟨j, hj, e, hd⟩
        · have co : ¬ o < 0 := co
          have e : o = -1 := e
          omega
        · exact .inr ⟨j, by omega, e, hd⟩
    | full c' v =>
      refine w_ifF rfl (w_load hst (w_ifF rfl ?_))
      refine w_load (v := c') (At.sub (l1 := (plC (.full c' v)).take 1) (l3 := (plC (.full c' v)).drop 4) hat rfl) ?_
      rw [cap_eqB]
      refine w_if' (fun cc => ?_) fun cc => ?_
      · subst cc
        exact hit _ v _ hq
      · refine more _ _ hi' ⟨rfl, by rw [iAdd_eq (by omega) (by omega)]; rfl, fun j hj => ?_, ?_⟩
        · rcases Nat.lt_or_ge j i with r | r
          · exact hne j r
          · obtain rfl : j = i := by omega
            rw [hq]; exact ⟨fun e => (by cases e), fun v e => (by cases e; exact cc rfl)⟩
        · rcases ho with ⟨e, ha⟩ | ⟨j, hj, e, hd⟩
          · refine .inl ⟨e, fun j hj z hz => ?_⟩
            rcases Nat.lt_or_ge j i with r | r
            · exact ha j r z hz
            · obtain rfl : j = i := by omega
              rw [hq] at hz; cases hz; exact fun e => by cases e
          · exact .inr ⟨j, by omega, e, hd⟩
  · have ci : ¬ (i : Int) < (ps.length : Int) := ci
    have hi' : i = ps.length := by omega
    have abs := x.wf.absent (c := c) hi (fun j hj => (hne j hj).2) (.inl hi')
    refine miss _ abs ?_
    rcases ho with ⟨e, ha⟩ | ho
    · refine .inl ⟨e, fun q hq => ?_⟩
      obtain ⟨k, hk⟩ := List.mem_iff_getElem?.1 hq
      obtain ⟨j, hj, rfl⟩ := path_sur (knob := knob) (c := c) (lt_of_get hk)
      exact ha j (by omega) q hk
    · exact spotD ho (Nat.le_refl _)
end
theorem pt_add (p n : Nat) : (⟨p, 0, none⟩ : Addr).add n = ⟨p, n, none⟩ := by rw [addr_add, Nat.zero_add]
theorem w_clear {T : Type} {cells : T → List Value} {sz : Nat} {e : TypeId} (hs : ∀ x, (cells x).length = sz) {h : H} (z0 : T) {zero : Array Value} (hz : zero = (cells z0).toArray) {s : Sl} {xs : List T} (x : Buf cells sz e h s xs) {k : H → Prop}
    (y : ∀ h', Buf cells sz e h' s (List.replicate xs.length z0) → But s.foot h h' → (∀ b, h' b = none → h b = none) → k h') : mClear zero s k h := by
  have hl := x.len
  rcases x.at_ with ⟨ha, h0⟩ | ⟨b, z, fz, ha, hb, hlen, hth⟩
  · have hc := x.cap
    have h1 : xs.length = 0 := by omega
    have : xs = [] := List.length_eq_zero_iff.1 h1
    subst this
    exact .inl ⟨.inl ha, y h x (.refl _ _) fun _ q => q⟩
  · by_cases h0 : s.len = 0
    · have : xs = [] := List.length_eq_zero_iff.1 (by omega)
      subst this
      exact .inl ⟨.inr h0, y h x (.refl _ _) fun _ q => q⟩
    · refine .inr ⟨h0, _, ha, ?_⟩
      rw [zero_flat hs z0 hz, hl]
      have hb' : h b = some (.cells ([] ++ flat cells xs ++ z).toArray e fz) := hb
      refine w_storeF (l1 := []) rfl hb' (by rw [List.nil_append, hlen]; exact hth) rfl (by rw [flat_len hs, flat_len hs, List.length_replicate]) ?_
      refine y _ ⟨by rw [List.length_replicate]; exact hl, x.cap, .inr ⟨b, z, fz, ha, upd_same _ _ _, ?_, hth⟩⟩ (But.upd ⟨_, ha, rfl⟩) fun c hc => (upd_none.1 hc).2
      rw [← hlen, List.length_append, List.length_append, flat_len hs, flat_len hs, List.length_replicate]
structure TChg (p : Nat) (s : Sl) (h h' : H) : Prop where
  but : But (fun c => c = p ∨ s.foot c) h h'
  dom : ∀ c, h' c = none → h c = none
theorem TChg.refl (p : Nat) (s : Sl) (h : H) : TChg p s h h := ⟨.refl _ _, fun _ e => e⟩
theorem TChg.keeps {p : Nat} {s : Sl} {h h' : H} (k : Keeps h h') : TChg p s h h' := ⟨.of k, fun _ e => k.fresh e⟩
theorem TChg.trans {p : Nat} {s : Sl} {h h1 h2 : H} (x : TChg p s h h1) (y : TChg p s h1 h2) : TChg p s h h2 := ⟨x.but.trans y.but fun _ f => .inl f, fun c e => x.dom c (y.dom c e)⟩
section
variable {h : H} {p : Nat} {s : Sl} {most knob : Int} {ps : List Plc} {live used : Int}
theorem TableAt.keep {h' : H} (x : TableAt h p s most knob ps live used) (k : Keeps h h') : TableAt h' p s most knob ps live used := ⟨k _ _ x.cell, x.buf.keep k, x.len, x.wf⟩
theorem TableAt.but {h' : H} {F : Nat → Prop} (x : TableAt h p s most knob ps live used) (k : But F h h') (f : ∀ c, F c → c ≠ p ∧ ¬ s.foot c) : TableAt h' p s most knob ps live used :=
  ⟨k _ _ x.cell fun q => (f _ q).1 rfl, x.buf.but k fun a ha q => (f _ q).2 ⟨a, ha, rfl⟩, x.len, x.wf⟩
theorem TableAt.store (x : TableAt h p s most knob ps live used) {n : Nat} {l1 l2 l3 new : List Value} {live' used' : Int} (e : S_slots_Table_int.cells ⟨most, knob, s, live, used⟩ = l1 ++ l2 ++ l3) (e' : S_slots_Table_int.cells ⟨most, knob, s, live', used'⟩ = l1 ++ new ++ l3) (hn : l1.length = n) (hl : new.length = l2.length) {k : H → Prop}
    (y : ∀ h', TableAt h' p s most knob ps live' used' → TChg p s h h' → k h') : mStore ((⟨p, 0, none⟩ : Addr).add n) new k h := by
  have hc := x.cell
  rw [e] at hc
  refine w_store (pt_add p n) hc hn hl ?_
  rw [← e']
  exact y _ ⟨upd_same _ _ _, x.buf.but (F := (· = p)) (But.upd rfl) fun a ha q => x.apart ⟨a, ha, q⟩, x.len, x.wf⟩ ⟨But.upd (.inl rfl), fun c q => (upd_none.1 q).2⟩
theorem TableAt.setLive (x : TableAt h p s most knob ps live used) {v : Int} {k : H → Prop} (y : ∀ h', TableAt h' p s most knob ps v used → TChg p s h h' → k h') : mStore ((⟨p, 0, none⟩ : Addr).add 3) [.int .i64 v] k h :=
  x.store (n := 3) (new := [.int .i64 v]) (live' := v) (used' := used) (l1 := (S_slots_Table_int.cells ⟨most, knob, s, live, used⟩).take 3) (l2 := [.int .i64 live]) (l3 := (S_slots_Table_int.cells ⟨most, knob, s, live, used⟩).drop 4) rfl rfl rfl rfl y
theorem TableAt.setUsed (x : TableAt h p s most knob ps live used) {v : Int} {k : H → Prop} (y : ∀ h', TableAt h' p s most knob ps live v → TChg p s h h' → k h') : mStore ((⟨p, 0, none⟩ : Addr).add 4) [.int .i64 v] k h :=
  x.store (n := 4) (new := [.int .i64 v]) (live' := live) (used' := v) (l1 := (S_slots_Table_int.cells ⟨most, knob, s, live, used⟩).take 4) (l2 := [.int .i64 used]) (l3 := []) rfl rfl rfl rfl y
theorem TableAt.place (x : TableAt h p s most knob ps live used) {h' : H} {ps' : List Plc} (b : Buf plC 5 N_slots_place_int h' s ps') (k : But s.foot h h') (l : ps'.length = ps.length) (w : TabWF knob ps') : TableAt h' p s most knob ps' live used :=
  ⟨k _ _ x.cell x.apart, b, by rw [l]; exact x.len, w⟩
theorem t_put (x : TableAt h p s most knob ps live used) (hl : 0 ≤ live ∧ live ≤ 512) (hu : 0 ≤ used ∧ used ≤ 512) {c : S_api_Cap} {v : Int} (abs : ∀ v, (c, v) ∉ ents ps) (room : (ents ps).length < ps.length) {K : Unit → H → Prop}
    (y : ∀ h' ps' used', TableAt h' p s most knob ps' (live + 1) used' → (ents ps').Perm ((c, v) :: ents ps) → ps'.length = ps.length → used ≤ used' → used' ≤ used + 1 → TChg p s h h' → K () h') : m_slots_Table_int_put (some ⟨p, 0, none⟩) c v K h := by
  unfold m_slots_Table_int_put
  refine t_find x (fun j v o e => absurd (ents_mem.2 ⟨j, e⟩) (abs v)) fun o _ sp => ?_
  rcases sp with ⟨_, hall⟩ | ⟨i, q, hi, rfl, hq, he, hw⟩
  · rw [ents_all hall] at room; omega
  have hlt := lt_of_get hq
  refine w_joinP (fun _ h1 => ∃ used', TableAt h1 p s most knob ps live used' ∧ TChg p s h h1 ∧ used ≤ used' ∧ used' ≤ used + 1) (fun j hj => ?_) ?_
  · refine w_deref (w_load x.f2 (w_field pl_len x.buf.arr hq rfl (v' := q.pl.xstate) (cells' := cInt .u8) (l1 := []) (l3 := (plC q).drop 1) rfl rfl ?_))
    refine w_if (fun _ => ?_) fun _ => hj _ _ ⟨used, x, .refl .., Int.le_refl _, by omega⟩
    refine w_deref (w_load x.f4 (w_deref ?_))
    rw [iAdd_eq (by omega) (by omega)]
    exact x.setUsed fun h1 x1 t1 => hj _ _ ⟨used + 1, x1, t1, by omega, Int.le_refl _⟩
  · rintro _ h1 ⟨used', x1, t1, u1, u2⟩
    refine w_deref (w_load x1.f2 (w_put pl_len x1.buf hlt rfl (.full c v) rfl fun h2 b2 k2 d2 => ?_))
    have x2 := x1.place b2 k2 (List.length_set ..) (x.wf.put abs hi hq he hw)
    refine w_deref (w_load x2.f3 (w_deref ?_))
    rw [iAdd_eq (by omega) (by omega)]
    refine x2.setLive fun h3 x3 t3 => y h3 _ used' x3 (ents_put hq he c v) (List.length_set ..) u1 u2 ?_
    exact (t1.trans ⟨k2.mono fun _ f => .inr f, d2⟩).trans t3
def isFull (q : Plc) : Bool := q.ent.isSome
theorem ents_filter (ps : List Plc) : ents (ps.filter isFull) = ents ps := by
  induction ps with
  | nil => rfl
  | cons q r ih =>
    unfold ents at ih ⊢
    cases q with
    | full c v =>
      rw [List.filter_cons_of_pos rfl, List.filterMap_cons, List.filterMap_cons, ih]
    | free => rw [List.filter_cons_of_neg (by simp [isFull, Plc.ent]), List.filterMap_cons, ih]; rfl
    | dead => rw [List.filter_cons_of_neg (by simp [isFull, Plc.ent]), List.filterMap_cons, ih]; rfl
theorem t_anew (x : TableAt h p s most knob ps live used) (room : 2 * (ents ps).length ≤ ps.length) {K : Unit → H → Prop}
    (y : ∀ h' ps' used', TableAt h' p s most knob ps' ((ents ps).length : Nat) used' → (ents ps').Perm (ents ps) → ps'.length = ps.length → 0 ≤ used' → 2 * used' ≤ ps.length → TChg p s h h' → K () h') : m_slots_Table_int_anew (some ⟨p, 0, none⟩) K h := by
  unfold m_slots_Table_int_anew
  have hl := x.buf.len
  obtain ⟨h0, h1⟩ := x.len
  refine w_deref (w_load x.f2 ?_)
  refine w_for ps.length (fun i (z : Sl × Int) h' => z.2 = (i : Int) ∧ Buf plC 5 N_slots_place_int h' z.1 ((ps.take i).filter isFull) ∧ Keeps h h' ∧ (∀ c, z.1.foot c → h c = none)) ?_ ⟨rfl, Buf.nil, .refl _, fun c ⟨a, ha, _⟩ => by cases ha⟩
  rintro rec i ⟨s2, ii⟩ h2 hi ⟨e2, bu2, k2, fr2⟩ more
  have e2 : ii = (i : Int) := e2
  subst e2
  have x2 := x.keep k2
  refine w_if' (fun ci => ?_) fun ci => ?_
  · have ci : (i : Int) < (s.len : Int) := ci
    have hi' : i < ps.length := by omega
    obtain ⟨q, hq⟩ : ∃ q, ps[i]? = some q := ⟨_, List.getElem?_eq_getElem hi'⟩
    refine w_idx pl_len x2.buf.arr hq rfl fun a _ ha => w_load (v := q.pl) ha ?_
    have htk : ps.take (i + 1) = ps.take i ++ [q] := by rw [List.take_add_one, hq]; rfl
    have hlen : ((ps.take i).filter isFull).length ≤ 512 := Nat.le_trans (List.length_filter_le _ _) (by rw [List.length_take]; omega)
    have nofull : isFull q = false → (ps.take (i + 1)).filter isFull = (ps.take i).filter isFull := fun e => by rw [htk, List.filter_append]; simp [e]
    have skip : isFull q = false → rec (s2, iAdd .i64 (i : Int) 1) h2 := fun e => more _ _ hi' ⟨ia1 i (by omega), by rw [nofull e]; exact bu2, k2, fr2⟩
    cases q with
    | free => exact w_ifF rfl (skip rfl)
    | dead => exact w_ifF rfl (skip rfl)
    | full c v =>
      refine w_ifT rfl (w_app (by_ := 40) pl_len rfl bu2 [.full c v] rfl rfl (.inl (by simp only [List.length_singleton]; omega)) fun s3 h3 bu3 b3 f3 d3 => ?_)
      refine more _ _ hi' ⟨ia1 i (by omega), ?_, k2.but b3 fun n f => fr2 n f, fun c f => (f3 c f).elim (fr2 c) k2.fresh⟩
      rw [htk, List.filter_append]
      exact bu3
  · have ci : ¬ (i : Int) < (s.len : Int) := ci
    have hi' : i = ps.length := by omega
    subst hi'
    rw [List.take_length] at bu2
    have hf : ∀ q ∈ ps.filter isFull, ∃ c v, q = .full c v := fun q hq => by
      have := (List.mem_filter.1 hq).2
      cases q with
      | full c v => exact ⟨c, v, rfl⟩
      | _ => cases this
    have hents := ents_filter ps
    have hcnt : (ps.filter isFull).length = (ents ps).length := by
      rw [← hents, ents_all]
      intro q hq
      obtain ⟨c, v, rfl⟩ := hf q hq
      exact fun e => by cases e
    refine w_deref (w_load x2.f2 (w_clear pl_len .free rfl x2.buf fun h3 b3 k3 d3 => ?_))
    have x3 := x2.place b3 k3 (List.length_replicate ..) (TabWF.none knob ps.length)
    have ap2 : ∀ c, s2.foot c → c ≠ p ∧ ¬ s.foot c := fun c f => ⟨fun e => (by subst e; have := fr2 _ f; rw [x.cell] at this; cases this), fun g => x.buf.has g (fr2 _ f)⟩
    have bu3 := bu2.but k3 fun a ha f => (ap2 _ ⟨a, ha, rfl⟩).2 f
    refine w_deref (x3.setLive fun h4 x4 t4 => w_deref (x4.setUsed fun h5 x5 t5 => ?_))
    have t45 := t4.trans t5
    have bu5 := bu3.but t45.but fun a ha f => f.elim (ap2 _ ⟨a, ha, rfl⟩).1 (ap2 _ ⟨a, ha, rfl⟩).2
    have t05 : TChg p s h h5 := ((TChg.keeps k2).trans ⟨k3.mono fun _ f => .inr f, d3⟩).trans t45
    have hl2 := bu2.len
    refine w_for (ps.filter isFull).length (fun i (z : Int) h' => z = (i : Int) ∧ Buf plC 5 N_slots_place_int h' s2 (ps.filter isFull) ∧ TChg p s h h' ∧ ∃ ps' used', TableAt h' p s most knob ps' (i : Nat) used' ∧ (ents ps').Perm (ents ((ps.filter isFull).take i)) ∧ ps'.length = ps.length ∧ 0 ≤ used' ∧ used' ≤ i) ?_
      ⟨rfl, bu5, t05, _, 0, x5, ?_, List.length_replicate .., Int.le_refl _, by omega⟩
    · rintro rec i z h6 hi ⟨rfl, bu6, t6, ps6, used6, x6, pm6, l6, u6, u6'⟩ more
      refine w_if' (fun ci => ?_) fun ci => ?_
      · have ci : (i : Int) < (s2.len : Int) := ci
        have hi' : i < (ps.filter isFull).length := by omega
        obtain ⟨q, hq⟩ : ∃ q, (ps.filter isFull)[i]? = some q := ⟨_, List.getElem?_eq_getElem hi'⟩
        obtain ⟨c, v, rfl⟩ := hf q (List.mem_of_getElem? hq)
        refine w_idx pl_len bu6.arr hq rfl fun a _ ha => w_load (v := (Plc.full c v).pl) ha ?_
        have htk : (ps.filter isFull).take (i + 1) = (ps.filter isFull).take i ++ [.full c v] := by rw [List.take_add_one, hq]; rfl
        have hone : Once (ents ((ps.filter isFull).take (i + 1))) := by
          have : Once (ents (ps.filter isFull)) := by rw [hents]; exact x.wf.one
          rw [← List.take_append_drop (i + 1) (ps.filter isFull), ents_append] at this
          unfold Once at this ⊢
          rw [List.map_append] at this
          exact (List.nodup_append.1 this).1
        have abs : ∀ v', (c, v') ∉ ents ps6 := fun v' hv => by
          have hv := pm6.subset hv
          rw [htk, ents_append] at hone
          unfold Once at hone
          rw [List.map_append, List.nodup_append] at hone
          exact hone.2.2 c (List.mem_map.2 ⟨_, hv, rfl⟩) c (by simp [ents, Plc.ent]) rfl
        have hle : (ents ps6).length ≤ i := by rw [pm6.length_eq]; exact Nat.le_trans (ents_le _) (by rw [List.length_take]; omega)
        refine t_put x6 ⟨by omega, by omega⟩ ⟨by omega, by omega⟩ abs (by omega) fun h7 ps7 used7 x7 pm7 l7 u7 u7' t7 => ?_
        refine more _ _ hi' ⟨ia1 i (by omega), bu6.but t7.but fun a ha f => f.elim (ap2 _ ⟨a, ha, rfl⟩).1 (ap2 _ ⟨a, ha, rfl⟩).2, t6.trans t7, ps7, used7, ?_, ?_, l7.trans l6, by omega, by omega⟩
        · rw [show ((i + 1 : Nat) : Int) = (i : Int) + 1 by omega]; exact x7
        · rw [htk, ents_append]
          exact (pm7.trans (pm6.cons _)).trans (List.perm_append_comm (l₁ := [(c, v)]))
      · have ci : ¬ (i : Int) < (s2.len : Int) := ci
        have hi' : i = (ps.filter isFull).length := by omega
        subst hi'
        rw [List.take_length, hents] at pm6
        exact y h6 ps6 used6 (by rw [← hcnt]; exact x6) pm6 l6 u6 (by omega) t6
    · rw [List.take_zero]
      unfold ents
      rw [List.filterMap_eq_nil_iff.2 fun a ha => by rw [(List.mem_replicate.1 ha).2]; rfl]
      exact .refl _
end
structure Tab (h : H) (p : Nat) (s : Sl) (most knob : Int) (l : List (S_api_Cap × Int)) : Prop where
  ex : ∃ ps used, TableAt h p s most knob ps (l.length : Nat) used ∧ (ents ps).Perm l ∧ 0 ≤ used ∧ used ≤ ps.length ∧ 2 * most ≤ ps.length ∧ (l.length : Int) ≤ most
theorem adel_perm {K V : Type} [DecidableEq K] {k : K} {v : V} : ∀ {l : List (K × V)}, alook l k = some v → l.Perm ((k, v) :: adel l k) := by
  intro l
  induction l with
  | nil => intro e; cases e
  | cons q r ih =>
    obtain ⟨a, w⟩ := q
    intro e
    rw [alook_cons] at e
    rw [adel_cons]
    by_cases z : k = a
    · rw [if_pos z] at e ⊢
      cases e; subst z; exact .refl _
    · rw [if_neg z] at e ⊢
      exact ((ih e).cons _).trans (List.Perm.swap _ _ _)
section
variable {h : H} {p : Nat} {s : Sl} {most knob : Int} {l : List (S_api_Cap × Int)}
theorem Tab.keep {h' : H} (x : Tab h p s most knob l) (k : Keeps h h') : Tab h' p s most knob l := by
  obtain ⟨ps, used, a, b⟩ := x.ex
  exact ⟨ps, used, a.keep k, b⟩
theorem Tab.but {h' : H} {F : Nat → Prop} (x : Tab h p s most knob l) (k : But F h h') (f : ∀ c, F c → c ≠ p ∧ ¬ s.foot c) : Tab h' p s most knob l := by
  obtain ⟨ps, used, a, b⟩ := x.ex
  exact ⟨ps, used, a.but k f, b⟩
theorem Tab.once (x : Tab h p s most knob l) : Once l := by
  obtain ⟨ps, used, a, b, _⟩ := x.ex
  exact (b.map Prod.fst).nodup_iff.1 a.wf.one
theorem Tab.typed (x : Tab h p s most knob l) {c : Nat} (f : c = p ∨ s.foot c) : Typed h N_slots_Table_int c ∨ Typed h N_slots_place_int c := by
  obtain ⟨ps, used, a, b, _⟩ := x.ex
  rcases f with rfl | f
  · exact .inl (Typed.of a.cell)
  · exact .inr (a.buf.typed f)
theorem t_TGet (x : Tab h p s most knob l) {c : S_api_Cap} {K : Int × Bool → H → Prop} (y : K ((alook l c).getD 0, (alook l c).isSome) h) : m_slots_Table_int_Get (some ⟨p, 0, none⟩) c K h := by
  obtain ⟨ps, used, a, b, _⟩ := x.ex
  unfold m_slots_Table_int_Get
  refine t_find a (fun j v o e => w_ifT (by simp) ?_) fun o abs _ => w_ifF (by simp) ?_
  · have : alook l c = some v := x.once.look (b.subset (ents_mem.2 ⟨j, e⟩))
    rw [this] at y
    exact w_deref (w_load a.f2 (w_field pl_len a.buf.arr e rfl (v' := v) (cells' := cInt .i64) (l1 := (plC (.full c v)).take 4) (l3 := []) rfl rfl y))
  · have : alook l c = none := by
      cases e : alook l c with
      | none => rfl
      | some v => exact absurd (b.symm.subset (alook_mem e)) (abs v)
    rw [this] at y
    exact y
theorem t_TLen (x : Tab h p s most knob l) {K : Int → H → Prop} (y : K (l.length : Nat) h) : m_slots_Table_int_Len (some ⟨p, 0, none⟩) K h := by
  obtain ⟨ps, used, a, b, _⟩ := x.ex
  unfold m_slots_Table_int_Len
  exact w_deref (w_load a.f3 y)
theorem t_TPut (x : Tab h p s most knob l) {c : S_api_Cap} {v : Int} {K : Int → H → Prop} (y1 : alook l c ≠ none → K 19 h) (y2 : alook l c = none → most ≤ l.length → K 10 h)
    (y : alook l c = none → (l.length : Int) < most → ∀ h', Tab h' p s most knob (l ++ [(c, v)]) → TChg p s h h' → K 0 h') : m_slots_Table_int_Put (some ⟨p, 0, none⟩) c v K h := by
  obtain ⟨ps, used, a, b, u0, u1, mp, ml⟩ := x.ex
  unfold m_slots_Table_int_Put
  obtain ⟨h0, h1⟩ := a.len
  have hle := b.length_eq
  refine t_find a (fun j w o e => w_ifT (by simp) ?_) fun o abs _ => w_ifF (by simp) ?_
  · refine y1 ?_
    rw [x.once.look (b.subset (ents_mem.2 ⟨j, e⟩))]; simp
  have hno : alook l c = none := by
    cases e : alook l c with
    | none => rfl
    | some v => exact absurd (b.symm.subset (alook_mem e)) (abs v)
  refine w_deref (w_deref (w_load a.f3 (w_load a.f0 (w_if' (fun cm => ?_) fun cm => ?_))))
  · exact y2 hno cm
  have cm : ¬ most ≤ ((l.length : Nat) : Int) := cm
  refine w_joinP (fun _ h1 => ∃ ps1 used1, TableAt h1 p s most knob ps1 (l.length : Nat) used1 ∧ (ents ps1).Perm l ∧ 0 ≤ used1 ∧ used1 + 1 ≤ ps1.length ∧ 2 * most ≤ ps1.length ∧ TChg p s h h1) (fun j hj => ?_) ?_
  · refine w_deref (w_deref (w_load a.f4 (w_load a.f2 (w_if' (fun ca => ?_) fun ca => ?_))))
    · refine t_anew a (by omega) fun h2 ps2 used2 x2 pm2 l2 u2 u2' t2 => hj _ _ ⟨ps2, used2, ?_, pm2.trans b, u2, by omega, by omega, t2⟩
      rw [hle] at x2; exact x2
    · have hsl := a.buf.len
      rw [show (iMul .i64 7 (s.len : Int) < iMul .i64 8 (iAdd .i64 used 1)) ↔ (7 * (s.len : Int) < 8 * (used + 1)) by rw [iMul_eq (by omega) (by omega), iAdd_eq (by omega) (by omega), iMul_eq (by omega) (by omega)]] at ca
      exact hj _ _ ⟨ps, used, a, b, u0, by omega, mp, .refl ..⟩
  · rintro _ h2 ⟨ps1, used1, x1, b1, v0, v1, mp1, t1⟩
    have hl1 := b1.length_eq
    have := x1.len
    refine t_put x1 ⟨by omega, by omega⟩ ⟨by omega, by omega⟩ (fun w hw => abs w (b.symm.subset (b1.subset hw))) (by omega) fun h3 ps3 used3 x3 pm3 l3 w1 w2 t3 => ?_
    refine y hno (by omega) h3 ⟨ps3, used3, ?_, ?_, by omega, by omega, by omega, by simp only [List.length_append, List.length_singleton]; omega⟩ (t1.trans t3)
    · rw [List.length_append, List.length_singleton]
      exact x3
    · exact (pm3.trans (b1.cons _)).trans (List.perm_append_comm (l₁ := [(c, v)]))
theorem t_TDrop (x : Tab h p s most knob l) {c : S_api_Cap} {K : Bool → H → Prop} (no : alook l c = none → K false h) (y : ∀ v, alook l c = some v → ∀ h', Tab h' p s most knob (adel l c) → TChg p s h h' → K true h') : m_slots_Table_int_Drop (some ⟨p, 0, none⟩) c K h := by
  obtain ⟨ps, used, a, b, u0, u1, mp, ml⟩ := x.ex
  unfold m_slots_Table_int_Drop
  obtain ⟨h0, h1⟩ := a.len
  refine t_find a (fun j v o e => w_ifF (by simp) ?_) fun o abs _ => w_ifT (by simp) ?_
  · have hv : alook l c = some v := x.once.look (b.subset (ents_mem.2 ⟨j, e⟩))
    refine w_deref (w_load a.f2 (w_put pl_len a.buf (lt_of_get e) rfl .dead rfl fun h2 b2 k2 d2 => ?_))
    have x2 := a.place b2 k2 (List.length_set ..) (a.wf.kill e)
    have hp := adel_perm hv
    have hlen := hp.length_eq
    rw [List.length_cons] at hlen
    refine w_deref (w_load x2.f3 (w_deref ?_))
    rw [iSub_eq (by omega) (by omega)]
    refine x2.setLive fun h3 x3 t3 => y v hv h3 ⟨ps.set j .dead, used, ?_, ?_, u0, by rw [List.length_set]; exact u1, by rw [List.length_set]; exact mp, by omega⟩ (TChg.trans ⟨k2.mono fun _ f => .inr f, d2⟩ t3)
    · rw [show ((adel l c).length : Int) = (l.length : Int) - 1 by omega]; exact x3
    · exact List.Perm.cons_inv (((ents_kill e).symm.trans b).trans hp)
  · refine no ?_
    cases e : alook l c with
    | none => rfl
    | some v => exact absurd (b.symm.subset (alook_mem e)) (abs v)
theorem t_TNew {most knob : Int} {K : Option Addr × Int → H → Prop} (bad : (most < 1 ∨ 256 < most ∨ knob < 0 ∨ 64 < knob) → K (none, 16) h)
    (good : 1 ≤ most → most ≤ 256 → 0 ≤ knob → knob ≤ 64 → ∀ p s h', Tab h' p s most knob [] → Keeps h h' → h p = none → (∀ c, s.foot c → h c = none) → K (some ⟨p, 0, none⟩, 0) h') : m_slots_New_int most knob K h := by
  unfold m_slots_New_int
  refine w_if (fun c => bad ?_) fun c => ?_
  · simp only [Bool.or_eq_true, decide_eq_true_eq] at c; omega
  · simp only [Bool.or_eq_false_iff, decide_eq_false_iff_not] at c
    have m2 : iMul .i64 2 most = 2 * most := iMul_eq (by omega) (by omega)
    refine w_for 9 (fun i (z : Int) h' => z = ((2 ^ i : Nat) : Int) ∧ h = h') ?_ ⟨rfl, rfl⟩
    rintro rec i z h' hi ⟨rfl, rfl⟩ more
    have hp : 0 < 2 ^ i := Nat.pow_pos (by decide)
    have hp9 : 2 ^ i ≤ 2 ^ 9 := Nat.pow_le_pow_right (by decide) hi
    rw [m2]
    refine w_if' (fun ci => ?_) fun ci => ?_
    · have ci : ((2 ^ i : Nat) : Int) < 2 * most := ci
      have h9 : i < 9 := by
        rcases Nat.lt_or_ge i 9 with q | q
        · exact q
        · obtain rfl : i = 9 := by omega
          have : ((2 ^ 9 : Nat) : Int) = 512 := rfl
          omega
      refine more _ _ h9 ⟨?_, rfl⟩
      rw [iMul_eq (by omega) (by omega), Nat.pow_succ]; omega
    · have ci : ¬ ((2 ^ i : Nat) : Int) < 2 * most := ci
      generalize 2 ^ i = n at *
      have hn : n ≤ 512 := by omega
      refine w_make pl_len .free rfl rfl rfl (by omega) (by omega) fun s h1 bu k1 f1 _ => w_new fun p fp => ?_
      have hpn : h p = none := k1.fresh fp
      refine good (by omega) (by omega) (by omega) (by omega) p s _ ⟨List.replicate n .free, 0, ⟨upd_same _ _ _, bu.keep (.new fp), by rw [List.length_replicate]; omega, TabWF.none knob n⟩, ?_, Int.le_refl _, by omega, by rw [List.length_replicate]; omega, by simp only [List.length_nil]; omega⟩ (k1.trans (.new fp)) hpn f1
      have he : ents (List.replicate n .free) = [] := by
        unfold ents
        rw [List.filterMap_eq_nil_iff]
        intro a ha
        rw [(List.mem_replicate.1 ha).2]; rfl
      rw [he]
end
theorem w_Valid {h : H} {r : Int} {k : Bool → H → Prop} (y : k (decide (1 ≤ r ∧ r ≤ 31)) h) : mPure (m_mask_Valid r) k h := by
  refine w_pure _ (fun _ _ z => ?_) y
  unfold m_mask_Valid
  rw [← Bool.decide_and]; exact z
def partOf (sub r : Int) : Bool := decide (1 ≤ sub ∧ sub ≤ 31) && (decide (1 ≤ r ∧ r ≤ 31) && decide (iAnd .i64 sub r = sub))
theorem t_Part {h : H} {sub r : Int} {K : Bool → H → Prop} (y : K (partOf sub r) h) : m_mask_Part sub r K h := by
  unfold m_mask_Part
  unfold partOf at y
  refine w_Valid (w_if (fun c => ?_) fun c => ?_)
  · rw [c, Bool.true_and] at y; exact w_Valid y
  · rw [c] at y; exact y
theorem w_Part {h : H} {sub r : Int} {k : Bool → H → Prop} (y : k (partOf sub r) h) : mPure (m_mask_Part sub r) k h := w_pure _ (fun _ _ z => t_Part z) y
theorem callV_of {P : Program} (s : Spec P) {first cap : Array Value} {args : List Value} (a : Den s.A) (e : first ++ args.toArray ++ cap = (valsD s.A a).toArray) {k : Den s.R → HP} {h : H} (hm : s.m a k h) :
    mCallV P (fun r => outV (valsD s.R r)) (.func (.func s.f) first cap) args k h := by
  obtain ⟨fn, c⟩ := s.callee
  exact .inl ⟨_, fn, first, cap, rfl, c, by rw [e]; exact s.ok a k h hm⟩
section
variable {T : Type} {cells : T → List Value} {sz by_ : Nat} {e : TypeId} {h : H}
theorem w_appIn (hs : ∀ x, (cells x).length = sz) {zero : Array Value} (hz : zero.size = sz) {m : Nat} {new : List Value} {s : Sl} {xs : List T} (x : Buf cells sz e h s xs) (ys : List T) (hnew : new = flat cells ys) (hm : m = ys.length) (fit : s.len + ys.length ≤ s.cap)
    (room : (2 * (xs.length + ys.length) + 192) * by_ ≤ 2 ^ 48) {k : Sl → H → Prop} (y : ∀ h', Buf cells sz e h' ⟨s.a, s.len + ys.length, s.cap⟩ (xs ++ ys) → But s.foot h h' → (∀ b, h' b = none → h b = none) → k ⟨s.a, s.len + ys.length, s.cap⟩ h') : mApp e sz by_ zero m new s k h := by
  subst hm; subst hnew
  refine ⟨fun hle => ?_, fun hgt => absurd fit hgt⟩
  have old := (w_app hs hz x ys rfl rfl (.inl room) (k := fun s' h' => s' = ⟨s.a, s.len + ys.length, s.cap⟩ → k s' h') (fun s' h' bu b _ d eq => by subst eq; exact y h' bu b d) : mApp e sz by_ zero ys.length (flat cells ys) s _ h).1 hle
  obtain ⟨sa, sl, sc⟩ := s
  cases sa with
  | none => exact ⟨old.1, old.2 rfl⟩
  | some a =>
    rcases old with ⟨p, q⟩ | ⟨p, c, e', fz, hb, hl, hf, q⟩
    · exact .inl ⟨p, q rfl⟩
    · exact .inr ⟨p, c, e', fz, hb, hl, hf, q rfl⟩
theorem Buf.front {s : Sl} {xs : List T} (x : Buf cells sz e h s xs) {n : Nat} (hn : n ≤ xs.length) : Buf cells sz e h ⟨s.a, n, s.cap⟩ (xs.take n) := by
  have hl := x.len
  have hc := x.cap
  refine ⟨by show n = _; rw [List.length_take]; omega, by show n ≤ s.cap; omega, x.at_.imp id fun ⟨b, z, fz, ha, hb, hz, ht⟩ => ⟨b, flat cells (xs.drop n) ++ z, fz, ha, ?_, ?_, ht⟩⟩
  · rw [← List.append_assoc, ← flat_append, List.take_append_drop]; exact hb
  · rw [← List.append_assoc, ← flat_append, List.take_append_drop]; exact hz
theorem w_delete (hs : ∀ x, (cells x).length = sz) (hp : ∀ x, (cells x).all plainVal = true) (z0 : T) {zero : Array Value} (hz : zero = (cells z0).toArray) {s : Sl} {xs : List T} (x : Buf cells sz e h s xs) {i : Nat} (hi : i < xs.length) (room : (2 * xs.length + 192) * by_ ≤ 2 ^ 48) {i' j' : Int} (ei : i' = i) (ej : j' = ((i + 1 : Nat) : Int)) {k : Sl → H → Prop}
    (y : ∀ s' h', Buf cells sz e h' s' (xs.eraseIdx i) → (∀ b, s'.foot b → s.foot b) → But s.foot h h' → (∀ b, h' b = none → h b = none) → k s' h') :
    mCut3 s i' j' (s.len : Int) sz (fun _ => mIf (decide (i' = j')) (k s) (mCut s 0 i' sz fun s2 => mCut s j' (s.len : Int) sz fun s3 => mAppend e sz by_ zero s2 s3 fun s4 => mCut s4 (s4.len : Int) (s.len : Int) sz fun s5 => mClear zero s5 <| k s4)) h := by
  subst ei; subst ej
  have hl := x.len
  have hc := x.cap
  refine ⟨_, ⟨by omega, by omega, by omega, by omega, rfl⟩, w_if' (fun c => by omega) fun _ => ?_⟩
  have hcut : (if s.cap = 0 then s.a else s.a.map (·.add (0 * sz))) = s.a := by
    split
    · rfl
    · cases s.a <;> simp [add_zero]
  refine w_cut (lo := 0) (hi := i) rfl rfl (Nat.zero_le _) (by omega) ?_
  rw [hcut, Nat.sub_zero, Nat.sub_zero]
  refine w_mid hs x.arr (lo := i + 1) (hi := xs.length) (by omega) (Nat.le_refl _) rfl (by rw [hl]) fun s3 a3 _ _ _ => ?_
  have bu2 := x.front (n := i) (by omega)
  have e3 : (xs.drop (i + 1)).take (xs.length - (i + 1)) = xs.drop (i + 1) := by rw [List.take_of_length_le]; rw [List.length_drop]; omega
  rw [e3] at a3
  have hl3 : (xs.drop (i + 1)).length = xs.length - (i + 1) := List.length_drop ..
  have hl2 : (xs.take i).length = i := by rw [List.length_take]; omega
  refine ⟨flat cells (xs.drop (i + 1)), a3.row, fun _ => by rw [flat_len hs, a3.len], ?_, w_appIn hs (by rw [hz, List.size_toArray, hs]) bu2 (xs.drop (i + 1)) rfl a3.len (by rw [hl3]; show i + _ ≤ s.cap; omega) (Nat.le_trans (Nat.mul_le_mul_right _ (by omega)) room) fun h4 bu4 b4 d4 => ?_⟩
  · rw [List.all_eq_true]
    intro v hv
    obtain ⟨t, _, hv⟩ := List.mem_flatMap.1 hv
    exact List.all_eq_true.1 (hp t) v hv
  have exs : xs.take i ++ xs.drop (i + 1) = xs.eraseIdx i := by rw [List.eraseIdx_eq_take_drop_succ]
  rw [exs] at bu4
  have hlen : i + (xs.drop (i + 1)).length = xs.length - 1 := by omega
  show mCut ⟨s.a, i + (xs.drop (i + 1)).length, s.cap⟩ ((i + (xs.drop (i + 1)).length : Nat) : Int) (s.len : Int) sz _ h4
  have bu4' : Buf cells sz e h4 ⟨s.a, i + (xs.drop (i + 1)).length, s.cap⟩ (xs.eraseIdx i) := bu4
  rw [hlen] at bu4' ⊢
  refine w_cut (lo := xs.length - 1) (hi := s.len) rfl rfl (by omega) (by show s.len ≤ s.cap; omega) ?_
  have el : (xs.eraseIdx i).length = xs.length - 1 := by rw [List.length_eraseIdx, if_pos hi]
  rcases bu4'.at_ with ⟨ha, h0⟩ | ⟨b, z, fz, ha, hb, hzl, hth⟩
  · have h0 : s.cap = 0 := h0
    omega
  have ha : s.a = some ⟨b, 0, none⟩ := ha
  have hzl : (flat cells (xs.eraseIdx i) ++ z).length = s.cap * sz := hzl
  have hth : Thawed fz (s.cap * sz) := hth
  have hne : s.cap ≠ xs.length - 1 := by omega
  show mClear zero ⟨if s.cap = xs.length - 1 then s.a else s.a.map (·.add ((xs.length - 1) * sz)), s.len - (xs.length - 1), s.cap - (xs.length - 1)⟩ _ h4
  rw [if_neg hne, ha, show s.len - (xs.length - 1) = 1 by omega]
  refine .inr ⟨by show (1 : Nat) ≠ 0; omega, (⟨b, 0, none⟩ : Addr).add ((xs.length - 1) * sz), rfl, ?_⟩
  rw [show (Builtin.zeroCells zero 1).toList = flat cells (List.replicate 1 z0) from zero_flat hs z0 hz 1]
  have hzn : sz ≤ z.length := by
    rw [List.length_append, flat_len hs, el] at hzl
    have : (xs.length - 1) * sz + sz ≤ s.cap * sz := by rw [← Nat.succ_mul]; exact Nat.mul_le_mul_right _ (by omega)
    omega
  have hb' : h4 b = some (.cells (flat cells (xs.eraseIdx i) ++ z.take sz ++ z.drop sz).toArray e fz) := by rw [List.append_assoc, List.take_append_drop]; exact hb
  refine w_storeF (l1 := flat cells (xs.eraseIdx i)) (addr_add _ _ _) hb' (by rw [List.append_assoc, List.take_append_drop, hzl]; exact hth) (by rw [flat_len hs, el, Nat.zero_add]) (by rw [flat_len hs, List.length_replicate, List.length_take]; omega) ?_
  refine y _ _ ⟨bu4'.len, bu4'.cap, .inr ⟨b, flat cells (List.replicate 1 z0) ++ z.drop sz, fz, rfl, ?_, ?_, hth⟩⟩ (fun b f => ⟨_, ha, (by obtain ⟨a, q, r⟩ := f; cases q; exact r)⟩) (b4.trans (But.upd (F := (· = b)) rfl) fun n q => .inl ⟨_, ha, q.symm⟩) fun c hc => d4 c (upd_none.1 hc).2
  · rw [upd_same, List.append_assoc]
  · rw [← hzl, List.length_append, List.length_append, List.length_append, flat_len hs, flat_len hs, List.length_replicate, List.length_drop]; omega
end
section
variable {h : H}
theorem w_index {s : Sl} {xs : List Int} (x : Arr (cInt .i64) h s xs) (hn : xs.length ≤ 2 ^ 40) {v : Int} (hv : v ∈ xs) {K : Int → H → Prop} (y : K ((xs.idxOf v : Nat) : Int) h) :
    mLoop (fun (rec : Int → H → Prop) (i : Int) => mIf (decide (i < (s.len : Int))) (mIdx s i 1 fun a => mLoad (cInt .i64) a fun z => mIf (decide (v = z)) (K i) (rec (iAdd .i64 i 1))) (K (-1))) 0 h := by
  have hl := x.len
  refine w_for xs.length (fun i z h' => z = (i : Int) ∧ h = h' ∧ i ≤ xs.idxOf v) ?_ ⟨rfl, rfl, Nat.zero_le _⟩
  rintro rec i z h' hi ⟨rfl, rfl, hle⟩ more
  have hlt := List.idxOf_lt_length_of_mem hv
  refine w_if' (fun c => ?_) fun c => by have c : ¬ (i : Int) < (s.len : Int) := c; omega
  have hi' : i < xs.length := by omega
  refine w_idx ci_len x (List.getElem?_eq_getElem hi') rfl fun a _ ha => w_load ha (w_if' (fun e => ?_) fun e => ?_)
  · have : xs.idxOf v ≤ i := by
      rcases Nat.lt_or_ge i (xs.idxOf v) with q | q
      · exact absurd e.symm (by have := List.not_of_lt_findIdx (p := (· == v)) (xs := xs) q; simpa using this)
      · exact q
    obtain rfl : i = xs.idxOf v := by omega
    exact y
  · refine more _ _ hi' ⟨ia1 i (by omega), rfl, ?_⟩
    rcases Nat.lt_or_ge i (xs.idxOf v) with q | q
    · exact q
    · obtain rfl : i = xs.idxOf v := by omega
      exact absurd (List.getElem_idxOf hlt).symm e
theorem w_reverse {s : Sl} {xs : List Int} (x : Buf (cInt .i64) 1 N_int h s xs) (hn : xs.length ≤ 2 ^ 40) {K : Unit → H → Prop} (y : ∀ h', Buf (cInt .i64) 1 N_int h' s xs.reverse → But s.foot h h' → (∀ b, h' b = none → h b = none) → K () h') :
    mLoop (fun (rec : (Int × Int) → H → Prop) (z : Int × Int) => mIf (decide (z.1 < z.2)) (mIdx s z.2 1 fun a => mIdx s z.1 1 fun b => mLoad (cInt .i64) a fun u => mLoad (cInt .i64) b fun v => mIdx s z.1 1 fun c => mStore c [.int .i64 u] <| mIdx s z.2 1 fun d => mStore d [.int .i64 v] <| rec (iAdd .i64 z.1 1, iSub .i64 z.2 1)) (K ())) (0, iSub .i64 (s.len : Int) 1) h := by
  have hl := x.len
  refine w_for xs.length (fun i (z : Int × Int) h' => z = ((i : Int), (xs.length : Int) - 1 - i) ∧ 2 * i ≤ xs.length + 1 ∧ ∃ ys, Buf (cInt .i64) 1 N_int h' s ys ∧ ys.length = xs.length ∧ (∀ k, k < xs.length → ys[k]? = if k < i ∨ xs.length - i ≤ k then xs[xs.length - 1 - k]? else xs[k]?) ∧ But s.foot h h' ∧ ∀ b, h' b = none → h b = none) ?_
    ⟨by rw [iSub_eq (by omega) (by omega), hl]; simp, by omega, xs, x, rfl, fun k hk => by rw [if_neg (by omega)], .refl _ _, fun _ q => q⟩
  rintro rec i z h' hi ⟨rfl, h2, ys, bu, hy, hg, bt, dm⟩ more
  refine w_if' (fun c => ?_) fun c => ?_
  · have c : (i : Int) < (xs.length : Int) - 1 - i := c
    have hij : i < xs.length - 1 - i := by omega
    have ej : (xs.length : Int) - 1 - i = ((xs.length - 1 - i : Nat) : Int) := by omega
    show mIdx s ((xs.length : Int) - 1 - i) 1 _ h'
    rw [ej]
    obtain ⟨u, hu⟩ : ∃ u, ys[xs.length - 1 - i]? = some u := ⟨_, List.getElem?_eq_getElem (by omega)⟩
    obtain ⟨v, hv⟩ : ∃ v, ys[i]? = some v := ⟨_, List.getElem?_eq_getElem (by omega)⟩
    refine w_idx ci_len bu.arr hu rfl fun a _ ha => w_idx ci_len bu.arr hv rfl fun b _ hb => w_load ha (w_load hb ?_)
    refine w_put ci_len bu (i := i) (by omega) rfl u rfl fun h3 bu3 b3 d3 => ?_
    refine w_put ci_len bu3 (i := xs.length - 1 - i) (by rw [List.length_set]; omega) rfl v rfl fun h4 bu4 b4 d4 => ?_
    refine more _ _ (by omega) ⟨?_, by omega, _, bu4, by rw [List.length_set, List.length_set]; exact hy, fun k hk => ?_, (bt.trans b3 fun _ f => .inl f).trans b4 fun _ f => .inl f, fun b q => dm b (d3 b (d4 b q))⟩
    · show (iAdd .i64 (i : Int) 1, iSub .i64 ((xs.length - 1 - i : Nat) : Int) 1) = _
      rw [iAdd_eq (by omega) (by omega), iSub_eq (by omega) (by omega)]
      refine Prod.ext ?_ ?_ <;> dsimp only <;> omega
    · rw [List.getElem?_set, List.getElem?_set, List.length_set]
      have h1 := hg (xs.length - 1 - i) (by omega)
      have h3 := hg i (by omega)
      rw [if_neg (by omega), hu] at h1
      rw [if_neg (by omega), hv] at h3
      by_cases q1 : xs.length - 1 - i = k
      · rw [if_pos q1, if_pos (by omega), if_pos (by omega), h3]; congr 1; omega
      · rw [if_neg q1]
        by_cases q2 : i = k
        · rw [if_pos q2, if_pos (by omega), if_pos (by omega), h1]; congr 1; omega
        · rw [if_neg q2, hg k hk]
          by_cases q3 : k < i ∨ xs.length - i ≤ k
          · rw [if_pos q3, if_pos (by omega)]
          · rw [if_neg q3, if_neg (by omega)]
  · have c : ¬ (i : Int) < (xs.length : Int) - 1 - i := c
    have e : ys = xs.reverse := by
      apply List.ext_getElem?
      intro k
      rcases Nat.lt_or_ge k xs.length with q | q
      · rw [hg k q, List.getElem?_reverse q]
        split
        · rfl
        · congr 1; omega
      · rw [List.getElem?_eq_none (by omega), List.getElem?_eq_none (by rw [List.length_reverse]; exact q)]
    rw [e] at bu
    exact y h' bu bt dm
end
theorem w_clone {T : Type} {cells : T → List Value} {sz by_ : Nat} {e : TypeId} (hs : ∀ x, (cells x).length = sz) (hp : ∀ x, (cells x).all plainVal = true) {zero : Array Value} (hz : zero.size = sz) {h : H} {s : Sl} {xs : List T} (x : Arr cells h s xs) (room : xs.length * by_ ≤ 2 ^ 48) {k : Sl → H → Prop}
    (y : ∀ s' h', Buf cells sz e h' s' xs → Keeps h h' → (∀ b, s'.foot b → h b = none) → k s' h') :
    mIf (s.a.isNone) (k Sl.nil) (mNew e #[] fun ad => mAppend e sz by_ zero (⟨some ad, 0, 0⟩ : Sl) s fun s2 => k s2) h := by
  refine w_if (fun c => ?_) fun c => w_new fun b hb => ?_
  · have hx : xs = [] := by
      rcases List.eq_nil_or_concat xs with q | ⟨r, a, q⟩
      · exact q
      · obtain ⟨a', ha, _⟩ := x.at_ (by rw [q]; simp)
        rw [ha] at c; cases c
    subst hx
    exact y _ _ Buf.nil (.refl _) fun b ⟨a, ha, _⟩ => by cases ha
  · have bu : Buf cells sz e (upd h b (.cells #[] e (0, 0))) ⟨some ⟨b, 0, none⟩, 0, 0⟩ ([] : List T) := ⟨rfl, Nat.le_refl _, .inr ⟨b, [], (0, 0), rfl, upd_same _ _ _, by simp [flat], thawed0 _⟩⟩
    refine w_append hs hp hz bu (x.keep (.new hb)) (.inr ⟨rfl, room⟩) fun s' h' bu' b' f' n' => ?_
    rw [List.nil_append] at bu'
    have foot : ∀ c, (⟨some ⟨b, 0, none⟩, 0, 0⟩ : Sl).foot c → h c = none := fun c ⟨a, ha, hc⟩ => by
      cases ha; subst hc; exact hb
    refine y s' h' bu' (Keeps.but (.new hb) b' foot) fun c fc => ?_
    rcases f' c fc with q | q
    · exact foot c q
    · exact (upd_none.1 q).2
end Go.Proofs.YtcclfjhnpeappaaGreat.K
namespace Go.Proofs.YtcclfjhnpeappaaGreat.K
open Go Go.Proofs
def m_math_bits_Len64 (a0 : Int) (K : (Int) → H → Prop) : H → Prop :=
 mJoin (fun (s1 : Int × Int) =>
 mJoin (fun (s3 : Int × Int) =>
 mJoin (fun (s5 : Int × Int) =>
 mByte (ByteArray.mk #[0, 1, 2, 2, 3, 3, 3, 3, 4, 4, 4, 4, 4, 4, 4, 4, 5, 5, 5, 5, 5, 5, 5, 5, 5, 5, 5, 5, 5, 5, 5, 5, 6, 6, 6, 6, 6, 6, 6, 6, 6, 6, 6, 6, 6, 6, 6, 6, 6, 6, 6, 6, 6, 6, 6, 6, 6, 6, 6, 6, 6, 6, 6, 6, 7, 7, 7, 7, 7, 7, 7, 7, 7, 7, 7, 7, 7, 7, 7, 7, 7, 7, 7, 7, 7, 7, 7, 7, 7, 7, 7, 7, 7, 7, 7, 7, 7, 7, 7, 7, 7, 7, 7, 7, 7, 7, 7, 7, 7, 7, 7, 7, 7, 7, 7, 7, 7, 7, 7, 7, 7, 7, 7, 7, 7, 7, 7, 7, 8, 8, 8, 8, 8, 8, 8, 8, 8, 8, 8, 8, 8, 8, 8, 8, 8, 8, 8, 8, 8, 8, 8, 8, 8, 8, 8, 8, 8, 8, 8, 8, 8, 8, 8, 8, 8, 8, 8, 8, 8, 8, 8, 8, 8, 8, 8, 8, 8, 8, 8, 8, 8, 8, 8, 8, 8, 8, 8, 8, 8, 8, 8, 8, 8, 8, 8, 8, 8, 8, 8, 8, 8, 8, 8, 8, 8, 8, 8, 8, 8, 8, 8, 8, 8, 8, 8, 8, 8, 8, 8, 8, 8, 8, 8, 8, 8, 8, 8, 8, 8, 8, 8, 8, 8, 8, 8, 8, 8, 8, 8, 8, 8, 8, 8, 8, 8, 8, 8, 8, 8, 8, 8, 8, 8, 8, 8, 8]) (IntKind.wrap .u8 s5.1) fun x7 =>
 K (iAdd .i64 s5.2 (IntKind.wrap .i64 x7))
 ) (fun j6 =>
 mIf (decide (256 ≤ s3.1)) (
 j6 ((iShr .u64 s3.1 8), (iAdd .i64 s3.2 8))
 ) (
 j6 (s3.1, s3.2)
 )
 )
 ) (fun j4 =>
 mIf (decide (65536 ≤ s1.1)) (
 j4 ((iShr .u64 s1.1 16), (iAdd .i64 s1.2 16))
 ) (
 j4 (s1.1, s1.2)
 )
 )
 ) (fun j2 =>
 mIf (decide (4294967296 ≤ a0)) (
 j2 ((iShr .u64 a0 32), 32)
 ) (
 j2 (a0, 0)
 )
 )
def x_math_bits_Len64 : Cx Tryz.prog := ⟨tys, [], [], [], mixed⟩
def h_math_bits_Len64 : Hint := (.seq .d (.join [.slot 0 (tInt .u64), .slot 2 (tInt .i64)] 125 [] .d (.join [.slot 0 (tInt .u64), .slot 2 (tInt .i64)] 8069 [] .d (.join [.slot 0 (tInt .u64), .slot 2 (tInt .i64)] 516101 [] .d .d))))
def s_math_bits_Len64 : Spec Tryz.prog := mkSpec x_math_bits_Len64 209 Tryz.f209 [(tInt .u64)] [(tInt .i64)] true h_math_bits_Len64 (fun a => m_math_bits_Len64 a) (fun a K h => by kernel_rfl) callee209 rfl
def m_math_bits_Len (a0 : Int) (K : (Int) → H → Prop) : H → Prop :=
 mPure (m_math_bits_Len64 a0) fun r1 =>
 K r1
def x_math_bits_Len : Cx Tryz.prog := ⟨tys, [s_math_bits_Len64], [], [], mixed⟩
def h_math_bits_Len : Hint := (.seq .d (.seq (.known .d .d) .d))
def s_math_bits_Len : Spec Tryz.prog := mkSpec x_math_bits_Len 175 Tryz.f175 [(tInt .u64)] [(tInt .i64)] true h_math_bits_Len (fun a => m_math_bits_Len a) (fun a K h => by kernel_rfl) callee175 rfl
def m_cmp_isNaN_int (a0 : Int) (K : (Bool) → H → Prop) : H → Prop :=
 K (!decide (a0 = a0))
def x_cmp_isNaN_int : Cx Tryz.prog := ⟨tys, [], [], [], mixed⟩
def h_cmp_isNaN_int : Hint := .d
def s_cmp_isNaN_int : Spec Tryz.prog := mkSpec x_cmp_isNaN_int 225 Tryz.f225 [(tInt .i64)] [tBool] true h_cmp_isNaN_int (fun a => m_cmp_isNaN_int a) (fun a K h => by kernel_rfl) callee225 rfl
def m_cmp_Less_int (a0 : Int) (a1 : Int) (K : (Bool) → H → Prop) : H → Prop :=
 mPure (m_cmp_isNaN_int a0) fun r1 =>
 mIf r1 (
 mPure (m_cmp_isNaN_int a1) fun r3 =>
 K ((!r3) || (decide (a0 < a1)))
 ) (
 K (decide (a0 < a1))
 )
def x_cmp_Less_int : Cx Tryz.prog := ⟨tys, [s_cmp_isNaN_int], [], [], mixed⟩
def h_cmp_Less_int : Hint := (.seq .d (.seq (.reg (.run [3, 7, 11] (.split 7 (.run [15, 19, 23, 27, 31] (.sel 12 16 122880 (.run [35, 39, 43, 47] .nil) (.run [35, 39, 43, 47] .nil) (.run [51] .nil))) (.run [15, 19, 23, 27, 31, 35, 39, 43, 47, 51] .nil)))) .d))
def s_cmp_Less_int : Spec Tryz.prog := mkSpec x_cmp_Less_int 205 Tryz.f205 [(tInt .i64), (tInt .i64)] [tBool] true h_cmp_Less_int (fun a => m_cmp_Less_int a.1 a.2) (fun a K h => by kernel_rfl) callee205 rfl
def m_slices_Index_int_int (a0 : Sl) (a1 : Int) (K : (Int) → H → Prop) : H → Prop :=
 mLoop (fun (rec2 : Int → H → Prop) (s1 : Int) =>
 mIf (decide (s1 < (a0.len : Int))) (
 mIdx a0 s1 1 fun ad3 =>
 mLoad (cInt .i64) ad3 fun x4 =>
 mIf (decide (a1 = x4)) (
 K s1
 ) (
 rec2 (iAdd .i64 s1 1)
 )
 ) (
 K (-1)
 )
 ) 0
def x_slices_Index_int_int : Cx Tryz.prog := ⟨tys, [], [], [], mixed⟩
def h_slices_Index_int_int : Hint := (.seq .d (.seq (.seq .d (.blk (.loop [.slot 8 (tInt .i64)] 524080 [] .d))) .d))
def s_slices_Index_int_int : Spec Tryz.prog := mkSpec x_slices_Index_int_int 187 Tryz.f187 [tSl, (tInt .i64)] [(tInt .i64)] false h_slices_Index_int_int (fun a => m_slices_Index_int_int a.1 a.2) (fun a K h => by kernel_rfl) callee187 rfl
def m_slices_Contains_int_int (a0 : Sl) (a1 : Int) (K : (Bool) → H → Prop) : H → Prop :=
 m_slices_Index_int_int a0 a1 fun r1 =>
 K (decide (0 ≤ r1))
def x_slices_Contains_int_int : Cx Tryz.prog := ⟨tys, [s_slices_Index_int_int], [], [], mixed⟩
def h_slices_Contains_int_int : Hint := .d
def s_slices_Contains_int_int : Spec Tryz.prog := mkSpec x_slices_Contains_int_int 131 Tryz.f131 [tSl, (tInt .i64)] [tBool] false h_slices_Contains_int_int (fun a => m_slices_Contains_int_int a.1 a.2) (fun a K h => by kernel_rfl) callee131 rfl
def m_slices_Clone_byte_byte (a0 : Sl) (K : (Sl) → H → Prop) : H → Prop :=
 mIf (a0.a.isNone) (
 K Sl.nil
 ) (
 mNew 5 #[] fun ad1 =>
 mAppend 5 1 1 #[(Value.int .u8 0)] (⟨some ad1, 0, 0⟩ : Sl) a0 fun s2 =>
 K s2
 )
def x_slices_Clone_byte_byte : Cx Tryz.prog := ⟨tys, [], [], [], mixed⟩
def h_slices_Clone_byte_byte : Hint := .d
def s_slices_Clone_byte_byte : Spec Tryz.prog := mkSpec x_slices_Clone_byte_byte 63 Tryz.f63 [tSl] [tSl] false h_slices_Clone_byte_byte (fun a => m_slices_Clone_byte_byte a) (fun a K h => by kernel_rfl) callee63 rfl
def m_slices_insertionSortOrdered_int (a0 : Sl) (a1 : Int) (a2 : Int) (K : (Unit) → H → Prop) : H → Prop :=
 mLoop (fun (rec2 : Int → H → Prop) (s1 : Int) =>
 mIf (decide (s1 < a2)) (
 mLoop (fun (rec4 : Int → H → Prop) (s3 : Int) =>
 mJoin (fun (s10 : Bool) =>
 mIf s10 (
 mIdx a0 (iSub .i64 s3 1) 1 fun ad12 =>
 mIdx a0 s3 1 fun ad13 =>
 mLoad (cInt .i64) ad12 fun x14 =>
 mLoad (cInt .i64) ad13 fun x15 =>
 mIdx a0 s3 1 fun ad16 =>
 mStore ad16 [(Value.int .i64 x14)] <|
 mIdx a0 (iSub .i64 s3 1) 1 fun ad17 =>
 mStore ad17 [(Value.int .i64 x15)] <|
 rec4 (iSub .i64 s3 1)
 ) (
 rec2 (iAdd .i64 s1 1)
 )
 ) (fun j11 =>
 mIf (decide (a1 < s3)) (
 mIdx a0 s3 1 fun ad18 =>
 mIdx a0 (iSub .i64 s3 1) 1 fun ad19 =>
 mLoad (cInt .i64) ad18 fun x20 =>
 mLoad (cInt .i64) ad19 fun x21 =>
 mPure (m_cmp_Less_int x20 x21) fun r22 =>
 j11 r22
 ) (
 j11 false
 ))
 ) s1
 ) (
 K ()
 )
 ) (iAdd .i64 a1 1)
def x_slices_insertionSortOrdered_int : Cx Tryz.prog := ⟨tys, [s_cmp_Less_int], [], [], mixed⟩
def h_slices_insertionSortOrdered_int : Hint := (.seq .d (.blk (.loop [.slot 6 (tInt .i64)] 562949953420480 [] (.seq .d (.seq (.blk (.seq .d (.blk (.loop [.slot 7 (tInt .i64)] 562949953355904 [] (.seq (.seq (.reg (.run [0, 4, 8, 12] (.join [.slot 30 tBool] 2146435072 [] (.split 19 (.run [16, 20, 24, 32, 36, 40, 44, 30, 50, 52, 56] .nil) (.run [16, 20, 24, 28, 32, 36, 40, 44, 48, 52, 56] .nil)) .nil))) .d) (.seq (.blk (.reg (.run [0, 4, 8, 12, 16, 20, 24, 28, 32, 40, 44, 48, 38, 54, 56, 63, 64, 71] .nil))) .d)))))) .d)))))
def s_slices_insertionSortOrdered_int : Spec Tryz.prog := mkSpec x_slices_insertionSortOrdered_int 199 Tryz.f199 [tSl, (tInt .i64), (tInt .i64)] [] false h_slices_insertionSortOrdered_int (fun a => m_slices_insertionSortOrdered_int a.1 a.2.1 a.2.2) (fun a K h => by kernel_rfl) callee199 rfl
def m_slices_siftDownOrdered_int (a0 : Sl) (a1 : Int) (a2 : Int) (a3 : Int) (K : (Unit) → H → Prop) : H → Prop :=
 mLoop (fun (rec2 : Int → H → Prop) (s1 : Int) =>
 mIf (decide (a2 ≤ (iAdd .i64 (iMul .i64 2 s1) 1))) (
 K ()
 ) (
 mJoin (fun (s3 : Int) =>
 mIdx a0 (iAdd .i64 a3 s1) 1 fun ad5 =>
 mIdx a0 (iAdd .i64 a3 s3) 1 fun ad6 =>
 mLoad (cInt .i64) ad5 fun x7 =>
 mLoad (cInt .i64) ad6 fun x8 =>
 mPure (m_cmp_Less_int x7 x8) fun r9 =>
 mIf (!r9) (
 K ()
 ) (
 mIdx a0 (iAdd .i64 a3 s3) 1 fun ad10 =>
 mIdx a0 (iAdd .i64 a3 s1) 1 fun ad11 =>
 mLoad (cInt .i64) ad10 fun x12 =>
 mLoad (cInt .i64) ad11 fun x13 =>
 mIdx a0 (iAdd .i64 a3 s1) 1 fun ad14 =>
 mStore ad14 [(Value.int .i64 x12)] <|
 mIdx a0 (iAdd .i64 a3 s3) 1 fun ad15 =>
 mStore ad15 [(Value.int .i64 x13)] <|
 rec2 s3
 )
 ) (fun j4 =>
 mJoin (fun (s21 : Bool) =>
 mIf s21 (
 j4 (iAdd .i64 (iAdd .i64 (iMul .i64 2 s1) 1) 1)
 ) (
 j4 (iAdd .i64 (iMul .i64 2 s1) 1)
 )
 ) (fun j22 =>
 mIf (decide ((iAdd .i64 (iAdd .i64 (iMul .i64 2 s1) 1) 1) < a2)) (
 mIdx a0 (iAdd .i64 a3 (iAdd .i64 (iMul .i64 2 s1) 1)) 1 fun ad23 =>
 mIdx a0 (iAdd .i64 (iAdd .i64 a3 (iAdd .i64 (iMul .i64 2 s1) 1)) 1) 1 fun ad24 =>
 mLoad (cInt .i64) ad23 fun x25 =>
 mLoad (cInt .i64) ad24 fun x26 =>
 mPure (m_cmp_Less_int x25 x26) fun r27 =>
 j22 r27
 ) (
 j22 false
 ))
 )
 )
 ) a1
def x_slices_siftDownOrdered_int : Cx Tryz.prog := ⟨tys, [s_cmp_Less_int], [], [], mixed⟩
def h_slices_siftDownOrdered_int : Hint := (.seq .d (.blk (.loop [.slot 8 (tInt .i64)] 75557863725914323417856 [] (.blk (.seq .d (.seq .d (.join [.slot 9 (tInt .i64)] 549755683328 [] (.seq (.reg (.run [0, 4, 8, 12, 16] (.join [.slot 36 tBool] 137434759168 [] (.split 21 (.run [20, 24, 28, 32, 36, 44, 48, 52, 56, 60, 64, 42, 70, 72, 76] .nil) (.run [20, 24, 28, 32, 36, 40, 44, 48, 52, 56, 60, 64, 68, 72, 76] .nil)) .nil))) .d) (.seq (.seq (.reg (.run [0, 4, 8, 12, 16, 24, 28, 32, 36, 40, 22, 46, 48, 52] .nil)) .d) (.seq (.reg (.run [0, 4, 8, 12, 16, 20, 24, 28, 32, 36, 40, 44, 48, 56, 60, 64, 68, 72, 54, 78, 80, 87, 88, 95] .nil)) .d)))))))))
def s_slices_siftDownOrdered_int : Spec Tryz.prog := mkSpec x_slices_siftDownOrdered_int 220 Tryz.f220 [tSl, (tInt .i64), (tInt .i64), (tInt .i64)] [] false h_slices_siftDownOrdered_int (fun a => m_slices_siftDownOrdered_int a.1 a.2.1 a.2.2.1 a.2.2.2) (fun a K h => by kernel_rfl) callee220 rfl
def m_slices_heapSortOrdered_int (a0 : Sl) (a1 : Int) (a2 : Int) (K : (Unit) → H → Prop) : H → Prop :=
 mLoop (fun (rec2 : Int → H → Prop) (s1 : Int) =>
 mIf (decide (0 ≤ s1)) (
 m_slices_siftDownOrdered_int a0 s1 (iSub .i64 a2 a1) a1 fun _ =>
 rec2 (iSub .i64 s1 1)
 ) (
 mLoop (fun (rec5 : Int → H → Prop) (s4 : Int) =>
 mIf (decide (0 ≤ s4)) (
 mIdx a0 (iAdd .i64 a1 s4) 1 fun ad6 =>
 mIdx a0 a1 1 fun ad7 =>
 mLoad (cInt .i64) ad6 fun x8 =>
 mLoad (cInt .i64) ad7 fun x9 =>
 mIdx a0 a1 1 fun ad10 =>
 mStore ad10 [(Value.int .i64 x8)] <|
 mIdx a0 (iAdd .i64 a1 s4) 1 fun ad11 =>
 mStore ad11 [(Value.int .i64 x9)] <|
 m_slices_siftDownOrdered_int a0 0 s4 a1 fun _ =>
 rec5 (iSub .i64 s4 1)
 ) (
 K ()
 )
 ) (iSub .i64 (iSub .i64 a2 a1) 1)
 )
 ) (iQuo .i64 (iSub .i64 (iSub .i64 a2 a1) 1) 2)
def x_slices_heapSortOrdered_int : Cx Tryz.prog := ⟨tys, [s_slices_siftDownOrdered_int], [], [], mixed⟩
def h_slices_heapSortOrdered_int : Hint := (.seq .d (.seq .d (.seq .d (.seq (.seq .d (.blk (.loop [.slot 9 (tInt .i64)] 133956096 [] .d))) (.seq .d (.blk (.loop [.slot 10 (tInt .i64)] 72057593501058048 [] (.seq .d (.seq (.blk (.seq (.reg (.run [0, 4, 8, 12, 16, 20, 24, 28, 32, 36, 40, 48, 52, 56, 46, 62, 64, 71, 72, 79] .nil)) .d)) .d)))))))))
def s_slices_heapSortOrdered_int : Spec Tryz.prog := mkSpec x_slices_heapSortOrdered_int 200 Tryz.f200 [tSl, (tInt .i64), (tInt .i64)] [] false h_slices_heapSortOrdered_int (fun a => m_slices_heapSortOrdered_int a.1 a.2.1 a.2.2) (fun a K h => by kernel_rfl) callee200 rfl
def m_slices_nextPowerOfTwo (a0 : Int) (K : (Int) → H → Prop) : H → Prop :=
 mPure (m_math_bits_Len (IntKind.wrap .u64 a0)) fun r1 =>
 mNN r1 <|
 K (iShl .u64 1 r1)
def x_slices_nextPowerOfTwo : Cx Tryz.prog := ⟨tys, [s_math_bits_Len], [], [], mixed⟩
def h_slices_nextPowerOfTwo : Hint := .d
def s_slices_nextPowerOfTwo : Spec Tryz.prog := mkSpec x_slices_nextPowerOfTwo 221 Tryz.f221 [(tInt .i64)] [(tInt .u64)] true h_slices_nextPowerOfTwo (fun a => m_slices_nextPowerOfTwo a) (fun a K h => by kernel_rfl) callee221 rfl
def m_slices_xorshift_Next (a0 : Option Addr) (K : (Int) → H → Prop) : H → Prop :=
 mDeref a0 fun ad1 =>
 mDeref a0 fun ad2 =>
 mLoad (cInt .u64) ad1 fun x3 =>
 mLoad (cInt .u64) ad2 fun x4 =>
 mDeref a0 fun ad5 =>
 mStore ad5 [(Value.int .u64 (iXor .u64 x3 (iShl .u64 x4 13)))] <|
 mDeref a0 fun ad6 =>
 mDeref a0 fun ad7 =>
 mLoad (cInt .u64) ad6 fun x8 =>
 mLoad (cInt .u64) ad7 fun x9 =>
 mDeref a0 fun ad10 =>
 mStore ad10 [(Value.int .u64 (iXor .u64 x8 (iShr .u64 x9 7)))] <|
 mDeref a0 fun ad11 =>
 mDeref a0 fun ad12 =>
 mLoad (cInt .u64) ad11 fun x13 =>
 mLoad (cInt .u64) ad12 fun x14 =>
 mDeref a0 fun ad15 =>
 mStore ad15 [(Value.int .u64 (iXor .u64 x13 (iShl .u64 x14 17)))] <|
 mDeref a0 fun ad16 =>
 mLoad (cInt .u64) ad16 fun x17 =>
 K x17
def x_slices_xorshift_Next : Cx Tryz.prog := ⟨tys, [], [], [], mixed⟩
def h_slices_xorshift_Next : Hint := (.seq .d (.seq (.reg (.run [0, 4, 12, 16, 10, 22, 24, 28, 32, 39] .nil)) (.seq (.reg (.run [0, 4, 12, 16, 10, 22, 24, 28, 32, 39] .nil)) (.seq (.reg (.run [0, 4, 12, 16, 10, 22, 24, 28, 32, 39] .nil)) .d))))
def s_slices_xorshift_Next : Spec Tryz.prog := mkSpec x_slices_xorshift_Next 222 Tryz.f222 [tPtr] [(tInt .u64)] false h_slices_xorshift_Next (fun a => m_slices_xorshift_Next a) (fun a K h => by kernel_rfl) callee222 rfl
def m_slices_breakPatternsOrdered_int (a0 : Sl) (a1 : Int) (a2 : Int) (K : (Unit) → H → Prop) : H → Prop :=
 mIf (decide (8 ≤ (iSub .i64 a2 a1))) (
 mNew 284 #[(Value.int .u64 0)] fun ad1 =>
 mStore ad1 [(Value.int .u64 (IntKind.wrap .u64 (iSub .i64 a2 a1)))] <|
 mPure (m_slices_nextPowerOfTwo (iSub .i64 a2 a1)) fun r2 =>
 mLoop (fun (rec4 : Int → H → Prop) (s3 : Int) =>
 mIf (decide (s3 ≤ (iAdd .i64 (iAdd .i64 a1 (iMul .i64 (iQuo .i64 (iSub .i64 a2 a1) 4) 2)) 1))) (
 m_slices_xorshift_Next (some ad1) fun r5 =>
 mJoin (fun (s6 : Int) =>
 mIdx a0 (iAdd .i64 a1 s6) 1 fun ad8 =>
 mIdx a0 s3 1 fun ad9 =>
 mLoad (cInt .i64) ad8 fun x10 =>
 mLoad (cInt .i64) ad9 fun x11 =>
 mIdx a0 s3 1 fun ad12 =>
 mStore ad12 [(Value.int .i64 x10)] <|
 mIdx a0 (iAdd .i64 a1 s6) 1 fun ad13 =>
 mStore ad13 [(Value.int .i64 x11)] <|
 rec4 (iAdd .i64 s3 1)
 ) (fun j7 =>
 mIf (decide ((iSub .i64 a2 a1) ≤ (IntKind.wrap .i64 (iAnd .u64 r5 (iSub .u64 r2 1))))) (
 j7 (iSub .i64 (IntKind.wrap .i64 (iAnd .u64 r5 (iSub .u64 r2 1))) (iSub .i64 a2 a1))
 ) (
 j7 (IntKind.wrap .i64 (iAnd .u64 r5 (iSub .u64 r2 1)))
 )
 )
 ) (
 K ()
 )
 ) (iSub .i64 (iAdd .i64 a1 (iMul .i64 (iQuo .i64 (iSub .i64 a2 a1) 4) 2)) 1)
 ) (
 K ()
 )
def x_slices_breakPatternsOrdered_int : Cx Tryz.prog := ⟨tys, [s_slices_nextPowerOfTwo, s_slices_xorshift_Next], [], [], mixed⟩
def h_slices_breakPatternsOrdered_int : Hint := (.seq .d (.seq .d (.cond (.seq .d (.seq .d (.seq .d (.blk (.loop [.slot 9 (tInt .i64)] 36893488147351995904 [] (.seq .d (.seq (.blk (.seq .d (.join [.slot 10 (tInt .i64)] 138538465100800 [] .d (.reg (.run [0, 4, 8, 12, 16, 20, 24, 28, 32, 36, 40, 48, 52, 56, 46, 62, 64, 71, 72, 79] .nil))))) .d))))))) .d)))
def s_slices_breakPatternsOrdered_int : Spec Tryz.prog := mkSpec x_slices_breakPatternsOrdered_int 201 Tryz.f201 [tSl, (tInt .i64), (tInt .i64)] [] false h_slices_breakPatternsOrdered_int (fun a => m_slices_breakPatternsOrdered_int a.1 a.2.1 a.2.2) (fun a K h => by kernel_rfl) callee201 rfl
def m_slices_order2Ordered_int (a0 : Sl) (a1 : Int) (a2 : Int) (a3 : Option Addr) (K : (Int × Int) → H → Prop) : H → Prop :=
 mIdx a0 a2 1 fun ad1 =>
 mIdx a0 a1 1 fun ad2 =>
 mLoad (cInt .i64) ad1 fun x3 =>
 mLoad (cInt .i64) ad2 fun x4 =>
 mPure (m_cmp_Less_int x3 x4) fun r5 =>
 mIf r5 (
 mDeref a3 fun ad6 =>
 mLoad (cInt .i64) ad6 fun x7 =>
 mDeref a3 fun ad8 =>
 mStore ad8 [(Value.int .i64 (iAdd .i64 x7 1))] <|
 K (a2, a1)
 ) (
 K (a1, a2)
 )
def x_slices_order2Ordered_int : Cx Tryz.prog := ⟨tys, [s_cmp_Less_int], [], [], mixed⟩
def h_slices_order2Ordered_int : Hint := (.seq .d (.seq (.seq (.reg (.run [0, 4, 8, 16, 20, 24, 14, 30, 32] .nil)) .d) .d))
def s_slices_order2Ordered_int : Spec Tryz.prog := mkSpec x_slices_order2Ordered_int 227 Tryz.f227 [tSl, (tInt .i64), (tInt .i64), tPtr] [(tInt .i64), (tInt .i64)] false h_slices_order2Ordered_int (fun a => m_slices_order2Ordered_int a.1 a.2.1 a.2.2.1 a.2.2.2) (fun a K h => by kernel_rfl) callee227 rfl
def m_slices_medianOrdered_int (a0 : Sl) (a1 : Int) (a2 : Int) (a3 : Int) (a4 : Option Addr) (K : (Int) → H → Prop) : H → Prop :=
 m_slices_order2Ordered_int a0 a1 a2 a4 fun r1 =>
 m_slices_order2Ordered_int a0 r1.2 a3 a4 fun r2 =>
 m_slices_order2Ordered_int a0 r1.1 r2.1 a4 fun r3 =>
 K r3.2
def x_slices_medianOrdered_int : Cx Tryz.prog := ⟨tys, [s_slices_order2Ordered_int], [], [], mixed⟩
def h_slices_medianOrdered_int : Hint := .d
def s_slices_medianOrdered_int : Spec Tryz.prog := mkSpec x_slices_medianOrdered_int 224 Tryz.f224 [tSl, (tInt .i64), (tInt .i64), (tInt .i64), tPtr] [(tInt .i64)] false h_slices_medianOrdered_int (fun a => m_slices_medianOrdered_int a.1 a.2.1 a.2.2.1 a.2.2.2.1 a.2.2.2.2) (fun a K h => by kernel_rfl) callee224 rfl
def m_slices_medianAdjacentOrdered_int (a0 : Sl) (a1 : Int) (a2 : Option Addr) (K : (Int) → H → Prop) : H → Prop :=
 m_slices_medianOrdered_int a0 (iSub .i64 a1 1) a1 (iAdd .i64 a1 1) a2 fun r1 =>
 K r1
def x_slices_medianAdjacentOrdered_int : Cx Tryz.prog := ⟨tys, [s_slices_medianOrdered_int], [], [], mixed⟩
def h_slices_medianAdjacentOrdered_int : Hint := .d
def s_slices_medianAdjacentOrdered_int : Spec Tryz.prog := mkSpec x_slices_medianAdjacentOrdered_int 223 Tryz.f223 [tSl, (tInt .i64), tPtr] [(tInt .i64)] false h_slices_medianAdjacentOrdered_int (fun a => m_slices_medianAdjacentOrdered_int a.1 a.2.1 a.2.2) (fun a K h => by kernel_rfl) callee223 rfl
def m_slices_choosePivotOrdered_int (a0 : Sl) (a1 : Int) (a2 : Int) (K : (Int × Int) → H → Prop) : H → Prop :=
 mNew 3 #[(Value.int .i64 0)] fun ad1 =>
 mJoin (fun (s2 : Int) =>
 mLoad (cInt .i64) ad1 fun x4 =>
 mIf (decide (x4 = 0)) (
 K (s2, 1)
 ) (
 mIf (decide (x4 = 12)) (
 K (s2, 2)
 ) (
 K (s2, 0)
 )
 )
 ) (fun j3 =>
 mIf (decide (8 ≤ (iSub .i64 a2 a1))) (
 mJoin (fun (s5 : Int × Int × Int) =>
 m_slices_medianOrdered_int a0 s5.1 s5.2.1 s5.2.2 (some ad1) fun r7 =>
 j3 r7
 ) (fun j6 =>
 mIf (decide (50 ≤ (iSub .i64 a2 a1))) (
 m_slices_medianAdjacentOrdered_int a0 (iAdd .i64 a1 (iMul .i64 (iQuo .i64 (iSub .i64 a2 a1) 4) 1)) (some ad1) fun r8 =>
 m_slices_medianAdjacentOrdered_int a0 (iAdd .i64 a1 (iMul .i64 (iQuo .i64 (iSub .i64 a2 a1) 4) 2)) (some ad1) fun r9 =>
 m_slices_medianAdjacentOrdered_int a0 (iAdd .i64 a1 (iMul .i64 (iQuo .i64 (iSub .i64 a2 a1) 4) 3)) (some ad1) fun r10 =>
 j6 (r8, r9, r10)
 ) (
 j6 ((iAdd .i64 a1 (iMul .i64 (iQuo .i64 (iSub .i64 a2 a1) 4) 1)), (iAdd .i64 a1 (iMul .i64 (iQuo .i64 (iSub .i64 a2 a1) 4) 2)), (iAdd .i64 a1 (iMul .i64 (iQuo .i64 (iSub .i64 a2 a1) 4) 3)))
 )
 )
 ) (
 j3 (iAdd .i64 a1 (iMul .i64 (iQuo .i64 (iSub .i64 a2 a1) 4) 2))
 )
 )
def x_slices_choosePivotOrdered_int : Cx Tryz.prog := ⟨tys, [s_slices_medianAdjacentOrdered_int, s_slices_medianOrdered_int], [], [], mixed⟩
def h_slices_choosePivotOrdered_int : Hint := (.seq .d (.seq .d (.seq .d (.seq .d (.seq .d (.seq .d (.join [.slot 11 (tInt .i64)] 562947805944832 [] (.seq .d (.cond (.join [.slot 10 (tInt .i64), .slot 11 (tInt .i64), .slot 12 (tInt .i64)] 17583596116992 [] .d .d) .d)) .d)))))))
def s_slices_choosePivotOrdered_int : Spec Tryz.prog := mkSpec x_slices_choosePivotOrdered_int 202 Tryz.f202 [tSl, (tInt .i64), (tInt .i64)] [(tInt .i64), (tInt .i64)] false h_slices_choosePivotOrdered_int (fun a => m_slices_choosePivotOrdered_int a.1 a.2.1 a.2.2) (fun a K h => by kernel_rfl) callee202 rfl
def m_slices_reverseRangeOrdered_int (a0 : Sl) (a1 : Int) (a2 : Int) (K : (Unit) → H → Prop) : H → Prop :=
 mLoop (fun (rec2 : (Int × Int) → H → Prop) (s1 : Int × Int) =>
 mIf (decide (s1.1 < s1.2)) (
 mIdx a0 s1.2 1 fun ad3 =>
 mIdx a0 s1.1 1 fun ad4 =>
 mLoad (cInt .i64) ad3 fun x5 =>
 mLoad (cInt .i64) ad4 fun x6 =>
 mIdx a0 s1.1 1 fun ad7 =>
 mStore ad7 [(Value.int .i64 x5)] <|
 mIdx a0 s1.2 1 fun ad8 =>
 mStore ad8 [(Value.int .i64 x6)] <|
 rec2 ((iAdd .i64 s1.1 1), (iSub .i64 s1.2 1))
 ) (
 K ()
 )
 ) (a1, (iSub .i64 a2 1))
def x_slices_reverseRangeOrdered_int : Cx Tryz.prog := ⟨tys, [], [], [], mixed⟩
def h_slices_reverseRangeOrdered_int : Hint := (.seq .d (.seq .d (.blk (.loop [.slot 6 (tInt .i64), .slot 7 (tInt .i64)] 4294965440 [] (.seq .d (.blk (.seq (.reg (.run [0, 4, 8, 12, 16, 20, 24, 32, 36, 40, 30, 46, 48, 55, 56, 63] .nil)) .d)))))))
def s_slices_reverseRangeOrdered_int : Spec Tryz.prog := mkSpec x_slices_reverseRangeOrdered_int 203 Tryz.f203 [tSl, (tInt .i64), (tInt .i64)] [] false h_slices_reverseRangeOrdered_int (fun a => m_slices_reverseRangeOrdered_int a.1 a.2.1 a.2.2) (fun a K h => by kernel_rfl) callee203 rfl
def m_slices_partialInsertionSortOrdered_int (a0 : Sl) (a1 : Int) (a2 : Int) (K : (Bool) → H → Prop) : H → Prop :=
 mLoop (fun (rec2 : (Int × Int) → H → Prop) (s1 : Int × Int) =>
 mIf (decide (s1.2 < 5)) (
 mLoop (fun (rec4 : Int → H → Prop) (s3 : Int) =>
 mJoin (fun (s10 : Bool) =>
 mIf s10 (
 rec4 (iAdd .i64 s3 1)
 ) (
 mIf (decide (s3 = a2)) (
 K true
 ) (
 mIf (decide ((iSub .i64 a2 a1) < 50)) (
 K false
 ) (
 mIdx a0 (iSub .i64 s3 1) 1 fun ad12 =>
 mIdx a0 s3 1 fun ad13 =>
 mLoad (cInt .i64) ad12 fun x14 =>
 mLoad (cInt .i64) ad13 fun x15 =>
 mIdx a0 s3 1 fun ad16 =>
 mStore ad16 [(Value.int .i64 x14)] <|
 mIdx a0 (iSub .i64 s3 1) 1 fun ad17 =>
 mStore ad17 [(Value.int .i64 x15)] <|
 mJoin (fun (_s18 : Unit) =>
 mIf (decide (2 ≤ (iSub .i64 a2 s3))) (
 mLoop (fun (rec21 : Int → H → Prop) (s20 : Int) =>
 mIf (decide (s20 < a2)) (
 mIdx a0 s20 1 fun ad22 =>
 mIdx a0 (iSub .i64 s20 1) 1 fun ad23 =>
 mLoad (cInt .i64) ad22 fun x24 =>
 mLoad (cInt .i64) ad23 fun x25 =>
 mPure (m_cmp_Less_int x24 x25) fun r26 =>
 mIf (!r26) (
 rec2 (s3, (iAdd .i64 s1.2 1))
 ) (
 mIdx a0 (iSub .i64 s20 1) 1 fun ad27 =>
 mIdx a0 s20 1 fun ad28 =>
 mLoad (cInt .i64) ad27 fun x29 =>
 mLoad (cInt .i64) ad28 fun x30 =>
 mIdx a0 s20 1 fun ad31 =>
 mStore ad31 [(Value.int .i64 x29)] <|
 mIdx a0 (iSub .i64 s20 1) 1 fun ad32 =>
 mStore ad32 [(Value.int .i64 x30)] <|
 rec21 (iAdd .i64 s20 1)
 )
 ) (
 rec2 (s3, (iAdd .i64 s1.2 1))
 )
 ) (iAdd .i64 s3 1)
 ) (
 rec2 (s3, (iAdd .i64 s1.2 1))
 )
 ) (fun j19 =>
 mIf (decide (2 ≤ (iSub .i64 s3 a1))) (
 mLoop (fun (rec34 : Int → H → Prop) (s33 : Int) =>
 mIf (decide (1 ≤ s33)) (
 mIdx a0 s33 1 fun ad35 =>
 mIdx a0 (iSub .i64 s33 1) 1 fun ad36 =>
 mLoad (cInt .i64) ad35 fun x37 =>
 mLoad (cInt .i64) ad36 fun x38 =>
 mPure (m_cmp_Less_int x37 x38) fun r39 =>
 mIf (!r39) (
 j19 ()
 ) (
 mIdx a0 (iSub .i64 s33 1) 1 fun ad40 =>
 mIdx a0 s33 1 fun ad41 =>
 mLoad (cInt .i64) ad40 fun x42 =>
 mLoad (cInt .i64) ad41 fun x43 =>
 mIdx a0 s33 1 fun ad44 =>
 mStore ad44 [(Value.int .i64 x42)] <|
 mIdx a0 (iSub .i64 s33 1) 1 fun ad45 =>
 mStore ad45 [(Value.int .i64 x43)] <|
 rec34 (iSub .i64 s33 1)
 )
 ) (
 j19 ()
 )
 ) (iSub .i64 s3 1)
 ) (
 j19 ()
 )
 )
 )
 )
 )
 ) (fun j11 =>
 mIf (decide (s3 < a2)) (
 mIdx a0 s3 1 fun ad46 =>
 mIdx a0 (iSub .i64 s3 1) 1 fun ad47 =>
 mLoad (cInt .i64) ad46 fun x48 =>
 mLoad (cInt .i64) ad47 fun x49 =>
 mPure (m_cmp_Less_int x48 x49) fun r50 =>
 j11 (!r50)
 ) (
 j11 false
 ))
 ) s1.1
 ) (
 K false
 )
 ) ((iAdd .i64 a1 1), 0)
def x_slices_partialInsertionSortOrdered_int : Cx Tryz.prog := ⟨tys, [s_cmp_Less_int], [], [], mixed⟩
def h_slices_partialInsertionSortOrdered_int : Hint := (.seq .d (.seq .d (.seq (.seq .d (.blk (.loop [.slot 7 (tInt .i64), .slot 8 (tInt .i64)] 10889035741470030830827987437816582760384 [] (.seq .d (.seq (.blk (.seq (.blk (.loop [.slot 7 (tInt .i64)] 34359607424 [] (.seq (.seq (.reg (.run [0, 4, 8, 12] (.join [.slot 32 tBool] 8587837440 [] (.split 20 (.run [16, 20, 24, 32, 36, 40, 44, 30, 50, 52, 56, 60] .nil) (.run [16, 20, 24, 28, 32, 36, 40, 44, 48, 52, 56, 60] .nil)) .nil))) .d) .d))) (.seq .d (.seq .d (.seq (.reg (.run [0, 4, 8, 12, 16, 20, 24, 28, 32, 40, 44, 48, 38, 54, 56, 63, 64, 71] .nil)) (.join [] 39614081256843938420620263936 [] (.seq .d (.cond (.seq .d (.blk (.loop [.slot 9 (tInt .i64)] 39614081238685424723062424064 [] (.seq .d (.seq (.blk (.seq (.seq (.reg (.run [0, 4, 8, 16, 20, 24, 28, 14, 34, 36, 40] .nil)) .d) (.reg (.run [0, 4, 8, 12, 16, 20, 24, 28, 32, 40, 44, 48, 38, 54, 56, 63, 64, 71] .nil)))) .d))))) .d)) (.seq .d (.cond (.seq .d (.blk (.loop [.slot 10 (tInt .i64)] 10889035738934729630371528634823176356864 [] (.seq .d (.seq (.blk (.seq (.seq (.reg (.run [0, 4, 8, 16, 20, 24, 28, 14, 34, 36, 40] .nil)) .d) (.reg (.run [0, 4, 8, 12, 16, 20, 24, 28, 32, 40, 44, 48, 38, 54, 56, 63, 64, 71] .nil)))) .d))))) .d)))))))) .d))))) .d)))
def s_slices_partialInsertionSortOrdered_int : Spec Tryz.prog := mkSpec x_slices_partialInsertionSortOrdered_int 204 Tryz.f204 [tSl, (tInt .i64), (tInt .i64)] [tBool] false h_slices_partialInsertionSortOrdered_int (fun a => m_slices_partialInsertionSortOrdered_int a.1 a.2.1 a.2.2) (fun a K h => by kernel_rfl) callee204 rfl
def m_slices_partitionEqualOrdered_int (a0 : Sl) (a1 : Int) (a2 : Int) (a3 : Int) (K : (Int) → H → Prop) : H → Prop :=
 mIdx a0 a3 1 fun ad1 =>
 mIdx a0 a1 1 fun ad2 =>
 mLoad (cInt .i64) ad1 fun x3 =>
 mLoad (cInt .i64) ad2 fun x4 =>
 mIdx a0 a1 1 fun ad5 =>
 mStore ad5 [(Value.int .i64 x3)] <|
 mIdx a0 a3 1 fun ad6 =>
 mStore ad6 [(Value.int .i64 x4)] <|
 mLoop (fun (rec8 : (Int × Int) → H → Prop) (s7 : Int × Int) =>
 mLoop (fun (rec10 : Int → H → Prop) (s9 : Int) =>
 mJoin (fun (s16 : Bool) =>
 mIf s16 (
 rec10 (iAdd .i64 s9 1)
 ) (
 mLoop (fun (rec19 : Int → H → Prop) (s18 : Int) =>
 mJoin (fun (s25 : Bool) =>
 mIf s25 (
 rec19 (iSub .i64 s18 1)
 ) (
 mIf (decide (s18 < s9)) (
 K s9
 ) (
 mIdx a0 s18 1 fun ad27 =>
 mIdx a0 s9 1 fun ad28 =>
 mLoad (cInt .i64) ad27 fun x29 =>
 mLoad (cInt .i64) ad28 fun x30 =>
 mIdx a0 s9 1 fun ad31 =>
 mStore ad31 [(Value.int .i64 x29)] <|
 mIdx a0 s18 1 fun ad32 =>
 mStore ad32 [(Value.int .i64 x30)] <|
 rec8 ((iAdd .i64 s9 1), (iSub .i64 s18 1))
 )
 )
 ) (fun j26 =>
 mIf (decide (s9 ≤ s18)) (
 mIdx a0 a1 1 fun ad33 =>
 mIdx a0 s18 1 fun ad34 =>
 mLoad (cInt .i64) ad33 fun x35 =>
 mLoad (cInt .i64) ad34 fun x36 =>
 mPure (m_cmp_Less_int x35 x36) fun r37 =>
 j26 r37
 ) (
 j26 false
 ))
 ) s7.2
 )
 ) (fun j17 =>
 mIf (decide (s9 ≤ s7.2)) (
 mIdx a0 a1 1 fun ad38 =>
 mIdx a0 s9 1 fun ad39 =>
 mLoad (cInt .i64) ad38 fun x40 =>
 mLoad (cInt .i64) ad39 fun x41 =>
 mPure (m_cmp_Less_int x40 x41) fun r42 =>
 j17 (!r42)
 ) (
 j17 false
 ))
 ) s7.1
 ) ((iAdd .i64 a1 1), (iSub .i64 a2 1))
def x_slices_partitionEqualOrdered_int : Cx Tryz.prog := ⟨tys, [s_cmp_Less_int], [], [], mixed⟩
def h_slices_partitionEqualOrdered_int : Hint := (.seq .d (.seq (.reg (.run [0, 4, 8, 12, 16, 20, 24, 32, 36, 40, 30, 46, 48, 55, 56, 63] .nil)) (.seq .d (.seq (.blk (.loop [.slot 9 (tInt .i64), .slot 10 (tInt .i64)] 9671406556917032860780032 [] (.blk (.seq (.blk (.loop [.slot 9 (tInt .i64)] 70368207307264 [] (.seq (.seq (.reg (.run [0, 4, 8, 12] (.join [.slot 43 tBool] 17583596109824 [] (.split 32 (.run [16, 20, 24, 32, 36, 40, 30, 46, 48, 52, 56] .nil) (.run [16, 20, 24, 28, 32, 36, 40, 44, 48, 52, 56] .nil)) .nil))) .d) .d))) (.seq (.blk (.loop [.slot 10 (tInt .i64)] 4611615649683211264 [] (.seq (.seq (.reg (.run [0, 4, 8, 12] (.join [.slot 59 tBool] 1151795604700004352 [] (.split 49 (.run [16, 20, 24, 32, 36, 40, 30, 46, 48, 52] .nil) (.run [16, 20, 24, 28, 32, 36, 40, 44, 48, 52] .nil)) .nil))) .d) .d))) (.seq .d (.seq (.reg (.run [0, 4, 8, 12, 16, 20, 24, 32, 36, 40, 30, 46, 48, 55, 56, 63] .nil)) .d))))))) .d))))
def s_slices_partitionEqualOrdered_int : Spec Tryz.prog := mkSpec x_slices_partitionEqualOrdered_int 206 Tryz.f206 [tSl, (tInt .i64), (tInt .i64), (tInt .i64)] [(tInt .i64)] false h_slices_partitionEqualOrdered_int (fun a => m_slices_partitionEqualOrdered_int a.1 a.2.1 a.2.2.1 a.2.2.2) (fun a K h => by kernel_rfl) callee206 rfl
def m_slices_partitionOrdered_int (a0 : Sl) (a1 : Int) (a2 : Int) (a3 : Int) (K : (Int × Bool) → H → Prop) : H → Prop :=
 mIdx a0 a3 1 fun ad1 =>
 mIdx a0 a1 1 fun ad2 =>
 mLoad (cInt .i64) ad1 fun x3 =>
 mLoad (cInt .i64) ad2 fun x4 =>
 mIdx a0 a1 1 fun ad5 =>
 mStore ad5 [(Value.int .i64 x3)] <|
 mIdx a0 a3 1 fun ad6 =>
 mStore ad6 [(Value.int .i64 x4)] <|
 mLoop (fun (rec8 : Int → H → Prop) (s7 : Int) =>
 mJoin (fun (s14 : Bool) =>
 mIf s14 (
 rec8 (iAdd .i64 s7 1)
 ) (
 mLoop (fun (rec17 : Int → H → Prop) (s16 : Int) =>
 mJoin (fun (s23 : Bool) =>
 mIf s23 (
 rec17 (iSub .i64 s16 1)
 ) (
 mIf (decide (s16 < s7)) (
 mIdx a0 a1 1 fun ad25 =>
 mIdx a0 s16 1 fun ad26 =>
 mLoad (cInt .i64) ad25 fun x27 =>
 mLoad (cInt .i64) ad26 fun x28 =>
 mIdx a0 s16 1 fun ad29 =>
 mStore ad29 [(Value.int .i64 x27)] <|
 mIdx a0 a1 1 fun ad30 =>
 mStore ad30 [(Value.int .i64 x28)] <|
 K (s16, true)
 ) (
 mIdx a0 s16 1 fun ad31 =>
 mIdx a0 s7 1 fun ad32 =>
 mLoad (cInt .i64) ad31 fun x33 =>
 mLoad (cInt .i64) ad32 fun x34 =>
 mIdx a0 s7 1 fun ad35 =>
 mStore ad35 [(Value.int .i64 x33)] <|
 mIdx a0 s16 1 fun ad36 =>
 mStore ad36 [(Value.int .i64 x34)] <|
 mLoop (fun (rec38 : (Int × Int) → H → Prop) (s37 : Int × Int) =>
 mLoop (fun (rec40 : Int → H → Prop) (s39 : Int) =>
 mJoin (fun (s46 : Bool) =>
 mIf s46 (
 rec40 (iAdd .i64 s39 1)
 ) (
 mLoop (fun (rec49 : Int → H → Prop) (s48 : Int) =>
 mJoin (fun (s55 : Bool) =>
 mIf s55 (
 rec49 (iSub .i64 s48 1)
 ) (
 mIf (decide (s48 < s39)) (
 mIdx a0 a1 1 fun ad57 =>
 mIdx a0 s48 1 fun ad58 =>
 mLoad (cInt .i64) ad57 fun x59 =>
 mLoad (cInt .i64) ad58 fun x60 =>
 mIdx a0 s48 1 fun ad61 =>
 mStore ad61 [(Value.int .i64 x59)] <|
 mIdx a0 a1 1 fun ad62 =>
 mStore ad62 [(Value.int .i64 x60)] <|
 K (s48, false)
 ) (
 mIdx a0 s48 1 fun ad63 =>
 mIdx a0 s39 1 fun ad64 =>
 mLoad (cInt .i64) ad63 fun x65 =>
 mLoad (cInt .i64) ad64 fun x66 =>
 mIdx a0 s39 1 fun ad67 =>
 mStore ad67 [(Value.int .i64 x65)] <|
 mIdx a0 s48 1 fun ad68 =>
 mStore ad68 [(Value.int .i64 x66)] <|
 rec38 ((iAdd .i64 s39 1), (iSub .i64 s48 1))
 )
 )
 ) (fun j56 =>
 mIf (decide (s39 ≤ s48)) (
 mIdx a0 s48 1 fun ad69 =>
 mIdx a0 a1 1 fun ad70 =>
 mLoad (cInt .i64) ad69 fun x71 =>
 mLoad (cInt .i64) ad70 fun x72 =>
 mPure (m_cmp_Less_int x71 x72) fun r73 =>
 j56 (!r73)
 ) (
 j56 false
 ))
 ) s37.2
 )
 ) (fun j47 =>
 mIf (decide (s39 ≤ s37.2)) (
 mIdx a0 s39 1 fun ad74 =>
 mIdx a0 a1 1 fun ad75 =>
 mLoad (cInt .i64) ad74 fun x76 =>
 mLoad (cInt .i64) ad75 fun x77 =>
 mPure (m_cmp_Less_int x76 x77) fun r78 =>
 j47 r78
 ) (
 j47 false
 ))
 ) s37.1
 ) ((iAdd .i64 s7 1), (iSub .i64 s16 1))
 )
 )
 ) (fun j24 =>
 mIf (decide (s7 ≤ s16)) (
 mIdx a0 s16 1 fun ad79 =>
 mIdx a0 a1 1 fun ad80 =>
 mLoad (cInt .i64) ad79 fun x81 =>
 mLoad (cInt .i64) ad80 fun x82 =>
 mPure (m_cmp_Less_int x81 x82) fun r83 =>
 j24 (!r83)
 ) (
 j24 false
 ))
 ) (iSub .i64 a2 1)
 )
 ) (fun j15 =>
 mIf (decide (s7 ≤ (iSub .i64 a2 1))) (
 mIdx a0 s7 1 fun ad84 =>
 mIdx a0 a1 1 fun ad85 =>
 mLoad (cInt .i64) ad84 fun x86 =>
 mLoad (cInt .i64) ad85 fun x87 =>
 mPure (m_cmp_Less_int x86 x87) fun r88 =>
 j15 r88
 ) (
 j15 false
 ))
 ) (iAdd .i64 a1 1)
def x_slices_partitionOrdered_int : Cx Tryz.prog := ⟨tys, [s_cmp_Less_int], [], [], mixed⟩
def h_slices_partitionOrdered_int : Hint := (.seq .d (.seq (.reg (.run [0, 4, 8, 12, 16, 20, 24, 32, 36, 40, 30, 46, 48, 55, 56, 63] .nil)) (.seq .d (.seq (.blk (.loop [.slot 10 (tInt .i64)] 70367670436864 [] (.seq (.seq (.reg (.run [0, 4, 8, 12] (.join [.slot 43 tBool] 17575006175232 [] (.split 33 (.run [16, 20, 24, 32, 36, 40, 30, 46, 48, 52] .nil) (.run [16, 20, 24, 28, 32, 36, 40, 44, 48, 52] .nil)) .nil))) .d) .d))) (.seq (.blk (.loop [.slot 11 (tInt .i64)] 9223301668110600192 [] (.seq (.seq (.reg (.run [0, 4, 8, 12] (.join [.slot 60 tBool] 2304717109306851328 [] (.split 49 (.run [16, 20, 24, 32, 36, 40, 30, 46, 48, 52, 56] .nil) (.run [16, 20, 24, 28, 32, 36, 40, 44, 48, 52, 56] .nil)) .nil))) .d) .d))) (.seq (.seq .d (.cond (.seq (.reg (.run [0, 4, 8, 12, 16, 20, 24, 32, 36, 40, 30, 46, 48, 55, 56, 63] .nil)) .d) .d)) (.seq (.reg (.run [0, 4, 8, 12, 16, 20, 24, 32, 36, 40, 30, 46, 48, 55, 56, 63] .nil)) (.seq .d (.seq .d (.seq (.blk (.loop [.slot 10 (tInt .i64), .slot 11 (tInt .i64)] 11417981541647678414640987641481260342710373376 [] (.blk (.seq (.blk (.loop [.slot 10 (tInt .i64)] 41537741042978506913543222282159104 [] (.seq (.seq (.reg (.run [0, 4, 8, 12] (.join [.slot 112 tBool] 10374452512267829421849019032797184 [] (.split 102 (.run [16, 20, 24, 32, 36, 40, 30, 46, 48, 52] .nil) (.run [16, 20, 24, 28, 32, 36, 40, 44, 48, 52] .nil)) .nil))) .d) .d))) (.seq (.blk (.loop [.slot 11 (tInt .i64)] 5444476332360147136792965474937657624576 [] (.seq (.seq (.reg (.run [0, 4, 8, 12] (.join [.slot 129 tBool] 1360464853685861395917046526196932673536 [] (.split 118 (.run [16, 20, 24, 32, 36, 40, 30, 46, 48, 52, 56] .nil) (.run [16, 20, 24, 28, 32, 36, 40, 44, 48, 52, 56] .nil)) .nil))) .d) .d))) (.seq .d (.seq (.reg (.run [0, 4, 8, 12, 16, 20, 24, 32, 36, 40, 30, 46, 48, 55, 56, 63] .nil)) .d))))))) (.seq (.reg (.run [0, 4, 8, 12, 16, 20, 24, 32, 36, 40, 30, 46, 48, 55, 56, 63] .nil)) .d)))))))))))
def s_slices_partitionOrdered_int : Spec Tryz.prog := mkSpec x_slices_partitionOrdered_int 207 Tryz.f207 [tSl, (tInt .i64), (tInt .i64), (tInt .i64)] [(tInt .i64), tBool] false h_slices_partitionOrdered_int (fun a => m_slices_partitionOrdered_int a.1 a.2.1 a.2.2.1 a.2.2.2) (fun a K h => by kernel_rfl) callee207 rfl
def m_slices_pdqsortOrdered_int_s (self : (Sl) → (Int) → (Int) → (Int) → ((Unit) → H → Prop) → H → Prop) (a0 : Sl) (a1 : Int) (a2 : Int) (a3 : Int) (K : (Unit) → H → Prop) : H → Prop :=
 mLoop (fun (rec2 : (Int × Int × Int × Bool × Bool) → H → Prop) (s1 : Int × Int × Int × Bool × Bool) =>
 mIf (decide ((iSub .i64 s1.2.1 s1.1) ≤ 12)) (
 m_slices_insertionSortOrdered_int a0 s1.1 s1.2.1 fun _ =>
 K ()
 ) (
 mIf (decide (s1.2.2.1 = 0)) (
 m_slices_heapSortOrdered_int a0 s1.1 s1.2.1 fun _ =>
 K ()
 ) (
 mJoin (fun (s5 : Int) =>
 m_slices_choosePivotOrdered_int a0 s1.1 s1.2.1 fun r7 =>
 mJoin (fun (s8 : Int × Int) =>
 mJoin (fun (_s10 : Unit) =>
 mJoin (fun (s17 : Bool) =>
 mIf s17 (
 m_slices_partitionEqualOrdered_int a0 s1.1 s1.2.1 s8.1 fun r19 =>
 rec2 (r19, s1.2.1, s5, s1.2.2.2.1, s1.2.2.2.2)
 ) (
 m_slices_partitionOrdered_int a0 s1.1 s1.2.1 s8.1 fun r20 =>
 mIf (decide ((iSub .i64 r20.1 s1.1) < (iSub .i64 s1.2.1 r20.1))) (
 self a0 s1.1 r20.1 s5 fun _ =>
 rec2 ((iAdd .i64 r20.1 1), s1.2.1, s5, (decide ((iQuo .i64 (iSub .i64 s1.2.1 s1.1) 8) ≤ (iSub .i64 r20.1 s1.1))), r20.2)
 ) (
 self a0 (iAdd .i64 r20.1 1) s1.2.1 s5 fun _ =>
 rec2 (s1.1, r20.1, s5, (decide ((iQuo .i64 (iSub .i64 s1.2.1 s1.1) 8) ≤ (iSub .i64 s1.2.1 r20.1))), r20.2)
 )
 )
 ) (fun j18 =>
 mIf (decide (0 < s1.1)) (
 mIdx a0 (iSub .i64 s1.1 1) 1 fun ad23 =>
 mIdx a0 s8.1 1 fun ad24 =>
 mLoad (cInt .i64) ad23 fun x25 =>
 mLoad (cInt .i64) ad24 fun x26 =>
 mPure (m_cmp_Less_int x25 x26) fun r27 =>
 j18 (!r27)
 ) (
 j18 false
 ))
 ) (fun j11 =>
 mIf ((s1.2.2.2.1 && s1.2.2.2.2) && (decide (s8.2 = 1))) (
 m_slices_partialInsertionSortOrdered_int a0 s1.1 s1.2.1 fun r28 =>
 mIf r28 (
 K ()
 ) (
 j11 ()
 )
 ) (
 j11 ()
 )
 )
 ) (fun j9 =>
 mIf (decide (r7.2 = 2)) (
 m_slices_reverseRangeOrdered_int a0 s1.1 s1.2.1 fun _ =>
 j9 ((iSub .i64 (iSub .i64 s1.2.1 1) (iSub .i64 r7.1 s1.1)), 1)
 ) (
 j9 (r7.1, r7.2)
 )
 )
 ) (fun j6 =>
 mIf (!s1.2.2.2.1) (
 m_slices_breakPatternsOrdered_int a0 s1.1 s1.2.1 fun _ =>
 j6 (iSub .i64 s1.2.2.1 1)
 ) (
 j6 s1.2.2.1
 )
 )
 )
 )
 ) (a1, a2, a3, true, true)
def m_slices_pdqsortOrdered_int_n : Nat → (Sl) → (Int) → (Int) → (Int) → ((Unit) → H → Prop) → H → Prop
 | 0 => fun _ _ _ _ _ _ => False
 | n + 1 => m_slices_pdqsortOrdered_int_s (m_slices_pdqsortOrdered_int_n n)
def m_slices_pdqsortOrdered_int (a0 : Sl) (a1 : Int) (a2 : Int) (a3 : Int) (K : (Unit) → H → Prop) : H → Prop := fun h => ∃ n, m_slices_pdqsortOrdered_int_n n a0 a1 a2 a3 K h
def r_slices_pdqsortOrdered_int (m : (Sl) → (Int) → (Int) → (Int) → ((Unit) → H → Prop) → H → Prop) (ok : ∀ (a : Den [tSl, (tInt .i64), (tInt .i64), (tInt .i64)]) (K : Den [] → HP) (h : H), m a.1 a.2.1 a.2.2.1 a.2.2.2 K h → ACall Tryz.prog 174 (valsD [tSl, (tInt .i64), (tInt .i64), (tInt .i64)] a).toArray h (fun v h' => ∃ r, v = outV (valsD [] r) ∧ K r h') noP) : Spec Tryz.prog := ⟨174, [tSl, (tInt .i64), (tInt .i64), (tInt .i64)], [], false, fun a => m a.1 a.2.1 a.2.2.1 a.2.2.2, ok, ⟨Tryz.f174, callee174⟩⟩
def x_slices_pdqsortOrdered_int (r : Spec Tryz.prog) : Cx Tryz.prog := ⟨tys, [r, s_slices_insertionSortOrdered_int, s_slices_heapSortOrdered_int, s_slices_breakPatternsOrdered_int, s_slices_choosePivotOrdered_int, s_slices_reverseRangeOrdered_int, s_slices_partialInsertionSortOrdered_int, s_cmp_Less_int, s_slices_partitionEqualOrdered_int, s_slices_partitionOrdered_int], [], [], mixed⟩
def h_slices_pdqsortOrdered_int : Hint := (.seq .d (.seq .d (.blk (.loop [.slot 1 (tInt .i64), .slot 2 (tInt .i64), .slot 3 (tInt .i64), .slot 8 tBool, .slot 9 tBool] 21778071482940061661655974875633165532942 [] (.blk (.seq .d (.seq .d (.seq .d (.join [.slot 3 (tInt .i64)] 4380866641928 [] .d (.seq .d (.join [.slot 11 (tInt .i64), .slot 12 (tInt .i64)] 2305280059260278784 [] .d (.join [] 9442427122730076733440 [] (.seq (.reg (.run [3, 7] (.sel 62 64 27670116110564327424 (.run [11, 15] .nil) (.run [11, 15] .nil) (.run [19] (.sel 65 68 516508834063867445248 (.run [23, 27, 31] .nil) (.run [23, 27, 31] .nil) .nil))))) .d) (.seq (.seq (.reg (.run [0, 4, 8] (.join [.slot 87 tBool] 309409451957619154401361920 [] (.split 75 (.run [12, 16, 20, 24, 32, 36, 40, 30, 46, 48, 52, 56] .nil) (.run [12, 16, 20, 24, 28, 32, 36, 40, 44, 48, 52, 56] .nil)) .nil))) .d) .d)))))))))))))
theorem w_slices_pdqsortOrdered_int (m : (Sl) → (Int) → (Int) → (Int) → ((Unit) → H → Prop) → H → Prop) (ok : ∀ (a : Den [tSl, (tInt .i64), (tInt .i64), (tInt .i64)]) (K : Den [] → HP) (h : H), m a.1 a.2.1 a.2.2.1 a.2.2.2 K h → ACall Tryz.prog 174 (valsD [tSl, (tInt .i64), (tInt .i64), (tInt .i64)] a).toArray h (fun v h' => ∃ r, v = outV (valsD [] r) ∧ K r h') noP) : ∀ (a : Den [tSl, (tInt .i64), (tInt .i64), (tInt .i64)]) (K : Den [] → HP) (h : H), m_slices_pdqsortOrdered_int_s m a.1 a.2.1 a.2.2.1 a.2.2.2 K h = wpF (x_slices_pdqsortOrdered_int (r_slices_pdqsortOrdered_int m ok)) Tryz.f174 [tSl, (tInt .i64), (tInt .i64), (tInt .i64)] [] h_slices_pdqsortOrdered_int a K h := fun a K h => by kernel_rfl
theorem k_slices_pdqsortOrdered_int : ∀ n : Nat, ∀ (a : Den [tSl, (tInt .i64), (tInt .i64), (tInt .i64)]) (K : Den [] → HP) (h : H), m_slices_pdqsortOrdered_int_n n a.1 a.2.1 a.2.2.1 a.2.2.2 K h → ACall Tryz.prog 174 (valsD [tSl, (tInt .i64), (tInt .i64), (tInt .i64)] a).toArray h (fun v h' => ∃ r, v = outV (valsD [] r) ∧ K r h') noP
  | 0 => fun _ _ _ x => x.elim
  | n + 1 => (mkSpec (x_slices_pdqsortOrdered_int (r_slices_pdqsortOrdered_int (m_slices_pdqsortOrdered_int_n n) (k_slices_pdqsortOrdered_int n))) 174 Tryz.f174 [tSl, (tInt .i64), (tInt .i64), (tInt .i64)] [] false h_slices_pdqsortOrdered_int (fun a => m_slices_pdqsortOrdered_int_s (m_slices_pdqsortOrdered_int_n n) a.1 a.2.1 a.2.2.1 a.2.2.2) (w_slices_pdqsortOrdered_int (m_slices_pdqsortOrdered_int_n n) (k_slices_pdqsortOrdered_int n)) callee174 rfl).ok
def s_slices_pdqsortOrdered_int : Spec Tryz.prog := ⟨174, [tSl, (tInt .i64), (tInt .i64), (tInt .i64)], [], false, fun a => m_slices_pdqsortOrdered_int a.1 a.2.1 a.2.2.1 a.2.2.2, fun a K h ⟨n, x⟩ => k_slices_pdqsortOrdered_int n a K h x, ⟨Tryz.f174, callee174⟩⟩
def m_slices_Sort_int_int (a0 : Sl) (K : (Unit) → H → Prop) : H → Prop :=
 mPure (m_math_bits_Len (IntKind.wrap .u64 (a0.len : Int))) fun r1 =>
 m_slices_pdqsortOrdered_int a0 0 (a0.len : Int) r1 fun _ =>
 K ()
def x_slices_Sort_int_int : Cx Tryz.prog := ⟨tys, [s_slices_pdqsortOrdered_int, s_math_bits_Len], [], [], mixed⟩
def h_slices_Sort_int_int : Hint := .d
def s_slices_Sort_int_int : Spec Tryz.prog := mkSpec x_slices_Sort_int_int 106 Tryz.f106 [tSl] [] false h_slices_Sort_int_int (fun a => m_slices_Sort_int_int a) (fun a K h => by kernel_rfl) callee106 rfl
def m_slices_Clone_int_int (a0 : Sl) (K : (Sl) → H → Prop) : H → Prop :=
 mIf (a0.a.isNone) (
 K Sl.nil
 ) (
 mNew 3 #[] fun ad1 =>
 mAppend 3 1 8 #[(Value.int .i64 0)] (⟨some ad1, 0, 0⟩ : Sl) a0 fun s2 =>
 K s2
 )
def x_slices_Clone_int_int : Cx Tryz.prog := ⟨tys, [], [], [], mixed⟩
def h_slices_Clone_int_int : Hint := .d
def s_slices_Clone_int_int : Spec Tryz.prog := mkSpec x_slices_Clone_int_int 226 Tryz.f226 [tSl] [tSl] false h_slices_Clone_int_int (fun a => m_slices_Clone_int_int a) (fun a K h => by kernel_rfl) callee226 rfl
def m_slices_Reverse_int_int (a0 : Sl) (K : (Unit) → H → Prop) : H → Prop :=
 mLoop (fun (rec2 : (Int × Int) → H → Prop) (s1 : Int × Int) =>
 mIf (decide (s1.1 < s1.2)) (
 mIdx a0 s1.2 1 fun ad3 =>
 mIdx a0 s1.1 1 fun ad4 =>
 mLoad (cInt .i64) ad3 fun x5 =>
 mLoad (cInt .i64) ad4 fun x6 =>
 mIdx a0 s1.1 1 fun ad7 =>
 mStore ad7 [(Value.int .i64 x5)] <|
 mIdx a0 s1.2 1 fun ad8 =>
 mStore ad8 [(Value.int .i64 x6)] <|
 rec2 ((iAdd .i64 s1.1 1), (iSub .i64 s1.2 1))
 ) (
 K ()
 )
 ) (0, (iSub .i64 (a0.len : Int) 1))
def x_slices_Reverse_int_int : Cx Tryz.prog := ⟨tys, [], [], [], mixed⟩
def h_slices_Reverse_int_int : Hint := (.seq .d (.blk (.loop [.slot 2 (tInt .i64), .slot 3 (tInt .i64)] 268435340 [] (.seq .d (.seq (.blk (.reg (.run [0, 4, 8, 12, 16, 20, 24, 32, 36, 40, 30, 46, 48, 55, 56, 63] .nil))) .d)))))
def s_slices_Reverse_int_int : Spec Tryz.prog := mkSpec x_slices_Reverse_int_int 212 Tryz.f212 [tSl] [] false h_slices_Reverse_int_int (fun a => m_slices_Reverse_int_int a) (fun a K h => by kernel_rfl) callee212 rfl
def m_slices_Delete_int_int (a0 : Sl) (a1 : Int) (a2 : Int) (K : (Sl) → H → Prop) : H → Prop :=
 mCut3 a0 a1 a2 (a0.len : Int) 1 fun _ =>
 mIf (decide (a1 = a2)) (
 K a0
 ) (
 mCut a0 0 a1 1 fun s2 =>
 mCut a0 a2 (a0.len : Int) 1 fun s3 =>
 mAppend 3 1 8 #[(Value.int .i64 0)] s2 s3 fun s4 =>
 mCut s4 (s4.len : Int) (a0.len : Int) 1 fun s5 =>
 mClear #[(Value.int .i64 0)] s5 <|
 K s4
 )
def x_slices_Delete_int_int : Cx Tryz.prog := ⟨tys, [], [], [], mixed⟩
def h_slices_Delete_int_int : Hint := (.seq .d (.seq .d (.seq .d (.seq .d (.seq (.reg (.run [0, 4, 8, 12, 16, 20, 27, 28] .nil)) .d)))))
def s_slices_Delete_int_int : Spec Tryz.prog := mkSpec x_slices_Delete_int_int 217 Tryz.f217 [tSl, (tInt .i64), (tInt .i64)] [tSl] false h_slices_Delete_int_int (fun a => m_slices_Delete_int_int a.1 a.2.1 a.2.2) (fun a K h => by kernel_rfl) callee217 rfl
def m_kin_New (a0 : Int) (K : (Option Addr × Int) → H → Prop) : H → Prop :=
 mIf ((decide (a0 < 0)) || (decide (1024 < a0))) (
 K (none, 16)
 ) (
 mMake 280 40 #[(Value.bool false), (Value.int .i64 0), (Sl.val Sl.nil)] a0 a0 fun s1 =>
 mNew 255 #[(Sl.val s1)] fun ad2 =>
 K ((some ad2), 0)
 )
def x_kin_New : Cx Tryz.prog := ⟨tys, [], [], [], mixed⟩
def h_kin_New : Hint := (.seq .d (.seq (.seq (.reg (.run [3, 7, 11] (.sel 6 9 896 (.run [15, 19, 23] .nil) (.run [15, 19, 23] .nil) .nil))) .d) .d))
def s_kin_New : Spec Tryz.prog := mkSpec x_kin_New 142 Tryz.f142 [(tInt .i64)] [tPtr, (tInt .i64)] false h_kin_New (fun a => m_kin_New a) (fun a K h => by kernel_rfl) callee142 rfl
def m_kin_Tree_number (a0 : Option Addr) (a1 : Int) (K : (Bool) → H → Prop) : H → Prop :=
 mIf (decide (0 ≤ a1)) (
 mDeref a0 fun ad3 =>
 mLoad cSl (ad3.add 0) fun x4 =>
 K (decide (a1 < (x4.len : Int)))
 ) (
 K false
 )
def x_kin_Tree_number : Cx Tryz.prog := ⟨tys, [], [], [], mixed⟩
def h_kin_Tree_number : Hint := (.seq .d (.seq (.reg (.run [3, 7, 11] (.split 7 (.run [15, 19, 23, 27, 31, 35, 39, 43, 47] .nil) (.run [15, 19, 23, 27, 31, 35, 39, 43, 47] .nil)))) .d))
def s_kin_Tree_number : Spec Tryz.prog := mkSpec x_kin_Tree_number 194 Tryz.f194 [tPtr, (tInt .i64)] [tBool] false h_kin_Tree_number (fun a => m_kin_Tree_number a.1 a.2) (fun a K h => by kernel_rfl) callee194 rfl
def m_kin_Tree_Has (a0 : Option Addr) (a1 : Int) (K : (Bool) → H → Prop) : H → Prop :=
 m_kin_Tree_number a0 a1 fun r1 =>
 mIf r1 (
 mDeref a0 fun ad6 =>
 mLoad cSl (ad6.add 0) fun x7 =>
 mIdx x7 a1 3 fun ad8 =>
 mLoad cBool (ad8.add 0) fun x9 =>
 K x9
 ) (
 K false
 )
def x_kin_Tree_Has : Cx Tryz.prog := ⟨tys, [s_kin_Tree_number], [], [], mixed⟩
def h_kin_Tree_Has : Hint := (.seq .d (.seq (.reg (.run [3, 7, 11, 15] (.split 8 (.run [19, 23, 27, 31, 35, 39, 43, 47, 51, 55] .nil) (.run [19, 23, 27, 31, 35, 39, 43, 47, 51, 55] .nil)))) .d))
def s_kin_Tree_Has : Spec Tryz.prog := mkSpec x_kin_Tree_Has 197 Tryz.f197 [tPtr, (tInt .i64)] [tBool] false h_kin_Tree_Has (fun a => m_kin_Tree_Has a.1 a.2) (fun a K h => by kernel_rfl) callee197 rfl
def m_kin_Tree_at (a0 : Option Addr) (a1 : Int) (K : (Option Addr) → H → Prop) : H → Prop :=
 mDeref a0 fun ad1 =>
 mLoad cSl (ad1.add 0) fun x2 =>
 mIdx x2 a1 3 fun ad3 =>
 K (some ad3)
def x_kin_Tree_at : Cx Tryz.prog := ⟨tys, [], [], [], mixed⟩
def h_kin_Tree_at : Hint := .d
def s_kin_Tree_at : Spec Tryz.prog := mkSpec x_kin_Tree_at 216 Tryz.f216 [tPtr, (tInt .i64)] [tPtr] false h_kin_Tree_at (fun a => m_kin_Tree_at a.1 a.2) (fun a K h => by kernel_rfl) callee216 rfl
def m_kin_Tree_Children (a0 : Option Addr) (a1 : Int) (K : (Sl) → H → Prop) : H → Prop :=
 m_kin_Tree_Has a0 a1 fun r1 =>
 mIf (!r1) (
 K Sl.nil
 ) (
 m_kin_Tree_at a0 a1 fun r2 =>
 mDeref r2 fun ad3 =>
 mLoad cSl (ad3.add 2) fun x4 =>
 m_slices_Clone_int_int x4 fun r5 =>
 K r5
 )
def x_kin_Tree_Children : Cx Tryz.prog := ⟨tys, [s_kin_Tree_Has, s_kin_Tree_at, s_slices_Clone_int_int], [], [], mixed⟩
def h_kin_Tree_Children : Hint := .d
def s_kin_Tree_Children : Spec Tryz.prog := mkSpec x_kin_Tree_Children 211 Tryz.f211 [tPtr, (tInt .i64)] [tSl] false h_kin_Tree_Children (fun a => m_kin_Tree_Children a.1 a.2) (fun a K h => by kernel_rfl) callee211 rfl
def m_kin_Tree_Cut (a0 : Option Addr) (a1 : Int) (K : (Int) → H → Prop) : H → Prop :=
 m_kin_Tree_Has a0 a1 fun r1 =>
 mIf (!r1) (
 K 20
 ) (
 mCallV (T := Option Addr) Tryz.prog (fun r => (Value.pointer r)) (⟨Value.func (.func 216) #[(Value.pointer a0)] #[], rfl, rfl⟩ : PV).1 [(Value.int .i64 a1)] fun r2 =>
 mDeref r2 fun ad3 =>
 mLoad cSl (ad3.add 2) fun x4 =>
 mIf (decide (0 < (x4.len : Int))) (
 K 19
 ) (
 mJoin (fun (_s5 : Unit) =>
 mCallV (T := Option Addr) Tryz.prog (fun r => (Value.pointer r)) (⟨Value.func (.func 216) #[(Value.pointer a0)] #[], rfl, rfl⟩ : PV).1 [(Value.int .i64 a1)] fun r7 =>
 mDeref r7 fun ad8 =>
 mStore ad8 [(Value.bool false), (Value.int .i64 0), (Sl.val Sl.nil)] <|
 K 0
 ) (fun j6 =>
 mCallV (T := Option Addr) Tryz.prog (fun r => (Value.pointer r)) (⟨Value.func (.func 216) #[(Value.pointer a0)] #[], rfl, rfl⟩ : PV).1 [(Value.int .i64 a1)] fun r9 =>
 mDeref r9 fun ad10 =>
 mLoad (cInt .i64) (ad10.add 1) fun x11 =>
 mIf (decide (0 ≤ x11)) (
 mCallV (T := Option Addr) Tryz.prog (fun r => (Value.pointer r)) (⟨Value.func (.func 216) #[(Value.pointer a0)] #[], rfl, rfl⟩ : PV).1 [(Value.int .i64 x11)] fun r12 =>
 mDeref r12 fun ad13 =>
 mLoad cSl (ad13.add 2) fun x14 =>
 m_slices_Index_int_int x14 a1 fun r15 =>
 mDeref r12 fun ad16 =>
 mLoad cSl (ad16.add 2) fun x17 =>
 m_slices_Delete_int_int x17 r15 (iAdd .i64 r15 1) fun r18 =>
 mDeref r12 fun ad19 =>
 mStore (ad19.add 2) [(Sl.val r18)] <|
 j6 ()
 ) (
 j6 ()
 )
 )
 )
 )
def x_kin_Tree_Cut : Cx Tryz.prog := ⟨tys, [s_slices_Index_int_int, s_kin_Tree_Has, s_slices_Delete_int_int], [], [], mixed⟩
def h_kin_Tree_Cut : Hint := (.seq .d (.seq .d (.seq .d (.join [] 9007199221187008 [] .d .d))))
def s_kin_Tree_Cut : Spec Tryz.prog := mkSpec x_kin_Tree_Cut 191 Tryz.f191 [tPtr, (tInt .i64)] [(tInt .i64)] false h_kin_Tree_Cut (fun a => m_kin_Tree_Cut a.1 a.2) (fun a K h => by kernel_rfl) callee191 rfl
def m_kin_Tree_add (a0 : Option Addr) (a1 : Int) (a2 : Int) (K : (Int) → H → Prop) : H → Prop :=
 m_kin_Tree_Has a0 a1 fun r1 =>
 mIf r1 (
 K 19
 ) (
 mCallV (T := Option Addr) Tryz.prog (fun r => (Value.pointer r)) (⟨Value.func (.func 216) #[(Value.pointer a0)] #[], rfl, rfl⟩ : PV).1 [(Value.int .i64 a1)] fun r2 =>
 mDeref r2 fun ad3 =>
 mStore ad3 [(Value.bool true), (Value.int .i64 a2), (Sl.val Sl.nil)] <|
 mIf (decide (0 ≤ a2)) (
 mCallV (T := Option Addr) Tryz.prog (fun r => (Value.pointer r)) (⟨Value.func (.func 216) #[(Value.pointer a0)] #[], rfl, rfl⟩ : PV).1 [(Value.int .i64 a2)] fun r4 =>
 mDeref r4 fun ad5 =>
 mLoad cSl (ad5.add 2) fun x6 =>
 mApp 3 1 8 #[(Value.int .i64 0)] 1 [(Value.int .i64 a1)] x6 fun s7 =>
 mDeref r4 fun ad8 =>
 mStore (ad8.add 2) [(Sl.val s7)] <|
 K 0
 ) (
 K 0
 )
 )
def x_kin_Tree_add : Cx Tryz.prog := ⟨tys, [s_kin_Tree_Has], [31], [], mixed⟩
def h_kin_Tree_add : Hint := .d
def s_kin_Tree_add : Spec Tryz.prog := mkSpec x_kin_Tree_add 195 Tryz.f195 [tPtr, (tInt .i64), (tInt .i64)] [(tInt .i64)] false h_kin_Tree_add (fun a => m_kin_Tree_add a.1 a.2.1 a.2.2) (fun a K h => by kernel_rfl) callee195 rfl
def m_kin_Tree_Root (a0 : Option Addr) (a1 : Int) (K : (Int) → H → Prop) : H → Prop :=
 m_kin_Tree_number a0 a1 fun r1 =>
 mIf (!r1) (
 K 20
 ) (
 m_kin_Tree_add a0 a1 (-1) fun r2 =>
 K r2
 )
def x_kin_Tree_Root : Cx Tryz.prog := ⟨tys, [s_kin_Tree_number, s_kin_Tree_add], [], [], mixed⟩
def h_kin_Tree_Root : Hint := .d
def s_kin_Tree_Root : Spec Tryz.prog := mkSpec x_kin_Tree_Root 162 Tryz.f162 [tPtr, (tInt .i64)] [(tInt .i64)] false h_kin_Tree_Root (fun a => m_kin_Tree_Root a.1 a.2) (fun a K h => by kernel_rfl) callee162 rfl
def m_kin_Tree_Child (a0 : Option Addr) (a1 : Int) (a2 : Int) (K : (Int) → H → Prop) : H → Prop :=
 m_kin_Tree_number a0 a2 fun r1 =>
 mJoin (fun (s3 : Bool) =>
 mIf s3 (
 K 20
 ) (
 m_kin_Tree_add a0 a2 a1 fun r5 =>
 K r5
 )
 ) (fun j4 =>
 mIf (!r1) (
 j4 true
 ) (
 m_kin_Tree_Has a0 a1 fun r6 =>
 j4 (!r6)
 ))
def x_kin_Tree_Child : Cx Tryz.prog := ⟨tys, [s_kin_Tree_number, s_kin_Tree_add, s_kin_Tree_Has], [], [], mixed⟩
def h_kin_Tree_Child : Hint := (.seq .d (.seq (.seq (.reg (.run [3, 7, 11, 15, 19] (.join [.slot 16 tBool] 126976 [] (.split 11 (.run [23, 27, 31, 35, 39] .nil) (.run [23, 27, 31, 35, 39] .nil)) .nil))) .d) .d))
def s_kin_Tree_Child : Spec Tryz.prog := mkSpec x_kin_Tree_Child 168 Tryz.f168 [tPtr, (tInt .i64), (tInt .i64)] [(tInt .i64)] false h_kin_Tree_Child (fun a => m_kin_Tree_Child a.1 a.2.1 a.2.2) (fun a K h => by kernel_rfl) callee168 rfl
def m_walk_told_1 (a0 : PV) (a1 : Addr) (K : (Unit) → H → Prop) : H → Prop :=
 mLoad cPV a1 fun x1 =>
 mCallV (T := Sl) Tryz.prog (fun r => (Sl.val r)) x1.1 [] fun r2 =>
 mLoop (fun (rec4 : Int → H → Prop) (s3 : Int) =>
 mIf (decide (s3 < (r2.len : Int))) (
 mIdx r2 s3 1 fun ad5 =>
 mLoad (cInt .i64) ad5 fun x6 =>
 mCallV (T := Bool) Tryz.prog (fun r => (Value.bool r)) a0.1 [(Value.int .i64 x6)] fun r7 =>
 mIf (!r7) (
 K ()
 ) (
 rec4 (iAdd .i64 s3 1)
 )
 ) (
 K ()
 )
 ) 0
def x_walk_told_1 : Cx Tryz.prog := ⟨tys, [], [], [], mixed⟩
def h_walk_told_1 : Hint := (.seq .d (.blk (.loop [.slot 8 (tInt .i64)] 130832 [] .d)))
def s_walk_told_1 : Spec Tryz.prog := mkSpec x_walk_told_1 210 Tryz.f210 [tPV, tAdr] [] false h_walk_told_1 (fun a => m_walk_told_1 a.1 a.2) (fun a K h => by kernel_rfl) callee210 rfl
def m_walk_told (a0 : PV) (K : (PV) → H → Prop) : H → Prop :=
 mNew 78 #[a0.1] fun ad1 =>
 K (⟨Value.func (.func 210) #[] #[(Value.pointer (some ad1))], rfl, rfl⟩ : PV)
def x_walk_told : Cx Tryz.prog := ⟨tys, [], [], [], mixed⟩
def h_walk_told : Hint := .d
def s_walk_told : Spec Tryz.prog := mkSpec x_walk_told 176 Tryz.f176 [tPV] [tPV] false h_walk_told (fun a => m_walk_told a) (fun a K h => by kernel_rfl) callee176 rfl
def m_walk_down (a0 : Option Addr) (a1 : Int) (a2 : Bool) (K : (Sl) → H → Prop) : H → Prop :=
 m_kin_Tree_Has a0 a1 fun r1 =>
 mIf (!r1) (
 K Sl.nil
 ) (
 mNew 3 #[(Value.int .i64 a1)] fun ad2 =>
 mLoop (fun (rec4 : (Sl × Sl) → H → Prop) (s3 : Sl × Sl) =>
 mIf (decide (0 < (s3.2.len : Int))) (
 mIdx s3.2 (iSub .i64 (s3.2.len : Int) 1) 1 fun ad5 =>
 mLoad (cInt .i64) ad5 fun x6 =>
 mCut s3.2 0 (iSub .i64 (s3.2.len : Int) 1) 1 fun s7 =>
 mApp 3 1 8 #[(Value.int .i64 0)] 1 [(Value.int .i64 x6)] s3.1 fun s8 =>
 m_kin_Tree_Children a0 x6 fun r9 =>
 mJoin (fun (_s10 : Unit) =>
 mAppend 3 1 8 #[(Value.int .i64 0)] s7 r9 fun s12 =>
 rec4 (s8, s12)
 ) (fun j11 =>
 mIf (!a2) (
 m_slices_Reverse_int_int r9 fun _ =>
 j11 ()
 ) (
 j11 ()
 )
 )
 ) (
 K s3.1
 )
 ) (Sl.nil, (⟨some ad2, 1, 1⟩ : Sl))
 )
def x_walk_down : Cx Tryz.prog := ⟨tys, [s_kin_Tree_Has, s_kin_Tree_Children, s_slices_Reverse_int_int], [33], [], mixed⟩
def h_walk_down : Hint := (.seq .d (.seq .d (.seq .d (.seq .d (.seq (.blk (.loop [.slot 7 tSl, .slot 8 tSl] 35184371830656 [] (.seq .d (.blk (.seq .d (.seq .d (.seq .d (.seq .d (.seq .d (.join [] 4123168604160 [] .d .d)))))))))) .d)))))
def s_walk_down : Spec Tryz.prog := mkSpec x_walk_down 178 Tryz.f178 [tPtr, (tInt .i64), tBool] [tSl] false h_walk_down (fun a => m_walk_down a.1 a.2.1 a.2.2) (fun a K h => by kernel_rfl) callee178 rfl
def m_walk_Down_1 (a0 : Addr) (a1 : Addr) (K : (Sl) → H → Prop) : H → Prop :=
 mLoad cPtr a0 fun x1 =>
 mLoad (cInt .i64) a1 fun x2 =>
 m_walk_down x1 x2 false fun r3 =>
 K r3
def x_walk_Down_1 : Cx Tryz.prog := ⟨tys, [s_walk_down], [], [], mixed⟩
def h_walk_Down_1 : Hint := .d
def s_walk_Down_1 : Spec Tryz.prog := mkSpec x_walk_Down_1 177 Tryz.f177 [tAdr, tAdr] [tSl] false h_walk_Down_1 (fun a => m_walk_Down_1 a.1 a.2) (fun a K h => by kernel_rfl) callee177 rfl
def m_walk_Down (a0 : Option Addr) (a1 : Int) (K : (PV) → H → Prop) : H → Prop :=
 mNew 176 #[(Value.pointer a0)] fun ad1 =>
 mNew 3 #[(Value.int .i64 a1)] fun ad2 =>
 m_walk_told (⟨Value.func (.func 177) #[] #[(Value.pointer (some ad1)), (Value.pointer (some ad2))], rfl, rfl⟩ : PV) fun r3 =>
 K r3
def x_walk_Down : Cx Tryz.prog := ⟨tys, [s_walk_told], [], [], mixed⟩
def h_walk_Down : Hint := .d
def s_walk_Down : Spec Tryz.prog := mkSpec x_walk_Down 107 Tryz.f107 [tPtr, (tInt .i64)] [tPV] false h_walk_Down (fun a => m_walk_Down a.1 a.2) (fun a K h => by kernel_rfl) callee107 rfl
def m_walk_Fall (a0 : Option Addr) (a1 : Int) (K : (Sl) → H → Prop) : H → Prop :=
 m_walk_down a0 a1 true fun r1 =>
 m_slices_Reverse_int_int r1 fun _ =>
 K r1
def x_walk_Fall : Cx Tryz.prog := ⟨tys, [s_walk_down, s_slices_Reverse_int_int], [], [], mixed⟩
def h_walk_Fall : Hint := .d
def s_walk_Fall : Spec Tryz.prog := mkSpec x_walk_Fall 190 Tryz.f190 [tPtr, (tInt .i64)] [tSl] false h_walk_Fall (fun a => m_walk_Fall a.1 a.2) (fun a K h => by kernel_rfl) callee190 rfl
end Go.Proofs.YtcclfjhnpeappaaGreat.K
namespace Go.Proofs.YtcclfjhnpeappaaGreat.K
theorem nodup_rev {l : List Int} (h : l.Nodup) : l.reverse.Nodup := (List.Perm.nodup_iff (List.reverse_perm l)).2 h
inductive PreL (ch : Int → List Int) : List Int → List Int → Prop
  | nil : PreL ch [] []
  | cons {x : Int} {ys l L : List Int} : PreL ch (ch x) l → PreL ch ys L → PreL ch (x :: ys) (x :: (l ++ L))
inductive PostL (ch : Int → List Int) : List Int → List Int → Prop
  | nil : PostL ch [] []
  | cons {x : Int} {ys l L : List Int} : PostL ch (ch x) l → PostL ch ys L → PostL ch (x :: ys) (l ++ x :: L)
inductive Desc (ch : Int → List Int) (x : Int) : Int → Prop
  | refl : Desc ch x x
  | snoc {y z : Int} : Desc ch x y → z ∈ ch y → Desc ch x z
section
variable {ch : Int → List Int}
theorem PreL.append {a la b lb : List Int} (x : PreL ch a la) (y : PreL ch b lb) : PreL ch (a ++ b) (la ++ lb) := by
  induction x with
  | nil => exact y
  | cons p q ih1 ih2 => rw [List.cons_append, List.cons_append, List.append_assoc]; exact .cons p ih2
theorem PostL.append {a la b lb : List Int} (x : PostL ch a la) (y : PostL ch b lb) : PostL ch (a ++ b) (la ++ lb) := by
  induction x with
  | nil => exact y
  | cons p q ih1 ih2 => rw [List.cons_append, List.append_assoc, List.cons_append]; exact .cons p ih2
theorem PreL.inj {a l : List Int} (x : PreL ch a l) : ∀ {m : List Int}, PreL ch a m → l = m := by
  induction x with
  | nil => intro m y; cases y; rfl
  | cons p q ih1 ih2 =>
    intro m y
    cases y with
    | cons p' q' => rw [ih1 p', ih2 q']
theorem PreL.le {a l : List Int} (x : PreL ch a l) : a.length ≤ l.length := by
  induction x with
  | nil => exact Nat.le_refl _
  | cons p q ih1 ih2 => simp only [List.length_cons, List.length_append]; omega
theorem PreL.mirror {a l : List Int} (x : PreL (fun z => (ch z).reverse) a l) : PostL ch a.reverse l.reverse := by
  induction x with
  | nil => exact .nil
  | @cons z ys l L p q ih1 ih2 =>
    rw [List.reverse_cons, List.reverse_cons, List.reverse_append, List.append_assoc]
    refine ih2.append ?_
    rw [List.reverse_reverse] at ih1
    exact .cons ih1 .nil
theorem Desc.cons {x y z : Int} (hy : y ∈ ch x) (d : Desc ch y z) : Desc ch x z := by
  induction d with
  | refl => exact .snoc .refl hy
  | snoc _ h ih => exact .snoc ih h
theorem Desc.head {x z : Int} (d : Desc ch x z) : z = x ∨ ∃ y, y ∈ ch x ∧ Desc ch y z := by
  induction d with
  | refl => exact .inl rfl
  | snoc d h ih =>
    rcases ih with rfl | ⟨y, hy, e⟩
    · exact .inr ⟨_, h, .refl⟩
    · exact .inr ⟨y, hy, .snoc e h⟩
theorem Desc.trans {x y z : Int} (a : Desc ch x y) (b : Desc ch y z) : Desc ch x z := by
  induction b with
  | refl => exact a
  | snoc _ h ih => exact .snoc ih h
theorem PreL.mem {a l : List Int} (x : PreL ch a l) {z : Int} : z ∈ l ↔ ∃ r, r ∈ a ∧ Desc ch r z := by
  induction x with
  | nil => simp
  | @cons y ys l L p q ih1 ih2 =>
    rw [List.mem_cons, List.mem_append, ih1, ih2]
    constructor
    · rintro (rfl | ⟨r, hr, d⟩ | ⟨r, hr, d⟩)
      · exact ⟨z, List.mem_cons_self .., .refl⟩
      · exact ⟨y, List.mem_cons_self .., d.cons hr⟩
      · exact ⟨r, List.mem_cons_of_mem _ hr, d⟩
    · rintro ⟨r, hr, d⟩
      rcases List.mem_cons.1 hr with rfl | hr
      · rcases d.head with e | ⟨w, hw, e⟩
        · exact .inl e
        · exact .inr (.inl ⟨w, hw, e⟩)
      · exact .inr (.inr ⟨r, hr, d⟩)
theorem PostL.mem {a l : List Int} (x : PostL ch a l) {z : Int} : z ∈ l ↔ ∃ r, r ∈ a ∧ Desc ch r z := by
  induction x with
  | nil => simp
  | @cons y ys l L p q ih1 ih2 =>
    rw [List.mem_append, List.mem_cons, ih1, ih2]
    constructor
    · rintro (⟨r, hr, d⟩ | rfl | ⟨r, hr, d⟩)
      · exact ⟨y, List.mem_cons_self .., d.cons hr⟩
      · exact ⟨z, List.mem_cons_self .., .refl⟩
      · exact ⟨r, List.mem_cons_of_mem _ hr, d⟩
    · rintro ⟨r, hr, d⟩
      rcases List.mem_cons.1 hr with rfl | hr
      · rcases d.head with e | ⟨w, hw, e⟩
        · exact .inr (.inl e)
        · exact .inl ⟨w, hw, e⟩
      · exact .inr (.inr ⟨r, hr, d⟩)
theorem PreL.behind {a l : List Int} (x : PreL ch a l) : ∀ {i : Nat} {z : Int}, l[i]? = some z → z ∈ a ∨ ∃ y, y ∈ l.take i ∧ z ∈ ch y := by
  induction x with
  | nil => intro i z e; simp at e
  | @cons y ys l L p q ih1 ih2 =>
    intro i z e
    cases i with
    | zero => simp at e; subst e; exact .inl (List.mem_cons_self ..)
    | succ i =>
      rw [List.getElem?_cons_succ, List.getElem?_append] at e
      rw [List.take_succ_cons]
      split at e
      · rename_i hi
        rcases ih1 e with r | ⟨w, hw, hz⟩
        · exact .inr ⟨y, List.mem_cons_self .., r⟩
        · refine .inr ⟨w, List.mem_cons_of_mem _ ?_, hz⟩
          rw [List.take_append]
          exact List.mem_append_left _ hw
      · rename_i hi
        rcases ih2 e with r | ⟨w, hw, hz⟩
        · exact .inl (List.mem_cons_of_mem _ r)
        · refine .inr ⟨w, List.mem_cons_of_mem _ ?_, hz⟩
          rw [List.take_append]
          exact List.mem_append_right _ hw
theorem PostL.behind {a l : List Int} (x : PostL ch a l) : ∀ {i : Nat} {z : Int}, l[i]? = some z → ∀ y, y ∈ ch z → y ∈ l.take i := by
  induction x with
  | nil => intro i z e; simp at e
  | @cons w ys l L p q ih1 ih2 =>
    intro i z e y hy
    rw [List.getElem?_append] at e
    rw [List.take_append]
    split at e
    · exact List.mem_append_left _ (ih1 e y hy)
    · rename_i hi
      have hl : l.length ≤ i := by omega
      cases hk : i - l.length with
      | zero =>
        rw [hk] at e; simp at e; subst e
        rw [List.take_of_length_le hl]
        exact List.mem_append_left _ (p.mem.2 ⟨y, hy, .refl⟩)
      | succ k =>
        rw [hk, List.getElem?_cons_succ] at e
        rw [List.take_succ_cons]
        exact List.mem_append_right _ (List.mem_cons_of_mem _ (ih2 e y hy))
structure Forest (ch : Int → List Int) : Prop where
  uniq : ∀ x y z, z ∈ ch x → z ∈ ch y → x = y
  nd : ∀ x, (ch x).Nodup
  rank : ∃ (w : Int → Nat) (B : Nat), ∀ x y, y ∈ ch x → w x < w y ∧ w y ≤ B
theorem Forest.mirror (f : Forest ch) : Forest (fun z => (ch z).reverse) :=
  ⟨fun x y z a b => f.uniq x y z (List.mem_reverse.1 a) (List.mem_reverse.1 b), fun x => nodup_rev (f.nd x), by obtain ⟨w, B, h⟩ := f.rank; exact ⟨w, B, fun x y e => h x y (List.mem_reverse.1 e)⟩⟩
theorem Forest.comp (f : Forest ch) {a z : Int} (x : Desc ch a z) : ∀ {b : Int}, Desc ch b z → Desc ch a b ∨ Desc ch b a := by
  induction x with
  | refl => exact fun y => .inr y
  | @snoc y z d h ih =>
    intro b e
    cases e with
    | refl => exact .inl (.snoc d h)
    | snoc d' h' =>
      obtain rfl := f.uniq _ _ _ h h'
      exact ih d'
theorem Forest.acyc (f : Forest ch) {x y : Int} (hy : y ∈ ch x) (d : Desc ch y x) : False := by
  obtain ⟨w, B, hw⟩ := f.rank
  have le : ∀ {a b}, Desc ch a b → w a ≤ w b := fun d => by
    induction d with
    | refl => exact Nat.le_refl _
    | snoc _ h ih => have := (hw _ _ h).1; omega
  have := le d
  have := (hw _ _ hy).1
  omega
theorem Forest.kids (f : Forest ch) {x a b : Int} (ha : a ∈ ch x) (hb : b ∈ ch x) (d : Desc ch a b) : a = b := by
  cases d with
  | refl => rfl
  | snoc d h =>
    obtain rfl := f.uniq _ _ _ h hb
    exact (f.acyc ha d).elim
theorem PreL.nodup (f : Forest ch) {a l : List Int} (x : PreL ch a l) (hn : a.Nodup) (ha : ∀ p q, p ∈ a → q ∈ a → Desc ch p q → p = q) : l.Nodup := by
  induction x with
  | nil => exact List.nodup_nil
  | @cons y ys l L p q ih1 ih2 =>
    rw [List.nodup_cons] at hn
    have h1 := ih1 (f.nd y) fun a b ha hb d => f.kids ha hb d
    have h2 := ih2 hn.2 fun a b pa pb d => ha a b (List.mem_cons_of_mem _ pa) (List.mem_cons_of_mem _ pb) d
    rw [List.nodup_cons, List.mem_append, List.nodup_append]
    refine ⟨fun e => ?_, h1, h2, fun z hz z' hz' e => ?_⟩
    · rcases e with e | e
      · obtain ⟨r, hr, d⟩ := p.mem.1 e
        exact f.acyc hr d
      · obtain ⟨r, hr, d⟩ := q.mem.1 e
        have := ha r y (List.mem_cons_of_mem _ hr) (List.mem_cons_self ..) d
        exact hn.1 (this ▸ hr)
    · subst e
      obtain ⟨r, hr, d⟩ := p.mem.1 hz
      obtain ⟨r', hr', d'⟩ := q.mem.1 hz'
      have dy : Desc ch y z := d.cons hr
      rcases f.comp (b := r') dy d' with c | c
      · have := ha y r' (List.mem_cons_self ..) (List.mem_cons_of_mem _ hr') c
        exact hn.1 (this ▸ hr')
      · have := ha r' y (List.mem_cons_of_mem _ hr') (List.mem_cons_self ..) c
        exact hn.1 (this ▸ hr')
theorem PreL.nodup1 (f : Forest ch) {n : Int} {l : List Int} (x : PreL ch [n] l) : l.Nodup := x.nodup f (by simp) fun p q hp hq _ => (List.mem_singleton.1 hp).trans (List.mem_singleton.1 hq).symm
theorem PreL.ex (f : Forest ch) : ∀ a, ∃ l, PreL ch a l := by
  obtain ⟨w, B, hw⟩ := f.rank
  have main : ∀ k, ∀ a : List Int, (∀ x ∈ a, B + 1 - w x < k) → ∃ l, PreL ch a l := by
    intro k
    induction k with
    | zero =>
      intro a ha
      cases a with
      | nil => exact ⟨[], .nil⟩
      | cons x r => exact absurd (ha x (List.mem_cons_self ..)) (Nat.not_lt_zero _)
    | succ k ih =>
      intro a
      induction a with
      | nil => exact fun _ => ⟨[], .nil⟩
      | cons x r ihr =>
        intro ha
        obtain ⟨L, hL⟩ := ihr fun y hy => ha y (List.mem_cons_of_mem _ hy)
        obtain ⟨l, hl⟩ := ih (ch x) fun y hy => by
          obtain ⟨h1, h2⟩ := hw x y hy
          have := ha x (List.mem_cons_self ..)
          omega
        exact ⟨_, .cons hl hL⟩
  exact fun a => main (B + 2) a fun x _ => by omega
theorem PreL.post (f : Forest ch) {n : Int} {l : List Int} (x : PreL ch [n] l) : ∃ m, PreL (fun z => (ch z).reverse) [n] m ∧ PostL ch [n] m.reverse ∧ m.reverse.Perm l := by
  obtain ⟨m, hm⟩ := PreL.ex f.mirror [n]
  refine ⟨m, hm, hm.mirror, ?_⟩
  refine (List.perm_ext_iff_of_nodup (nodup_rev (hm.nodup1 f.mirror)) (x.nodup1 f)).2 fun z => ?_
  rw [hm.mirror.mem, x.mem]
  exact Iff.rfl
end
end Go.Proofs.YtcclfjhnpeappaaGreat.K
namespace Go.Proofs.YtcclfjhnpeappaaGreat.K
open Go
structure Nd where
  there : Bool
  parent : Int
  kids : List Int
def nd0 : Nd := ⟨false, 0, []⟩
theorem kn_len : ∀ x, (S_kin_node.cells x).length = 3 := fun _ => rfl
structure TreeAt (h : H) (p : Nat) (s : Sl) (vs : List S_kin_node) (ns : List Nd) : Prop where
  cell : h p = some (.cells (S_kin_Tree.cells ⟨s⟩).toArray N_kin_Tree (0, 0))
  buf : Buf S_kin_node.cells 3 N_kin_node h s vs
  len : vs.length = ns.length
  big : ns.length ≤ 256
  nd : ∀ (i : Nat) v n, vs[i]? = some v → ns[i]? = some n → v.xthere = n.there ∧ v.xparent = n.parent ∧ Buf (cInt .i64) 1 N_int h v.xchildren n.kids
  apart : ∀ (i j : Nat) v w, vs[i]? = some v → vs[j]? = some w → i ≠ j → ∀ c, v.xchildren.foot c → ¬ w.xchildren.foot c
def TFoot (p : Nat) (s : Sl) (vs : List S_kin_node) (c : Nat) : Prop := c = p ∨ s.foot c ∨ ∃ v ∈ vs, v.xchildren.foot c
structure Tree (h : H) (p : Nat) (s : Sl) (F : Nat → Prop) (ns : List Nd) : Prop where
  ex : ∃ vs, TreeAt h p s vs ns ∧ ∀ c, F c ↔ TFoot p s vs c
def hasN (ns : List Nd) (i : Int) : Bool := decide (0 ≤ i) && ((ns[i.toNat]?.map Nd.there).getD false)
theorem hasN_iff {ns : List Nd} {i : Nat} : hasN ns (i : Int) = true ↔ ∃ n, ns[i]? = some n ∧ n.there = true := by
  unfold hasN
  rw [decide_eq_true (by omega : (0 : Int) ≤ (i : Int)), Bool.true_and, Int.toNat_natCast]
  cases ns[i]? with
  | none => simp
  | some n => simp
section
variable {h : H} {p : Nat} {s : Sl} {F : Nat → Prop} {vs : List S_kin_node} {ns : List Nd}
theorem TreeAt.apartP (x : TreeAt h p s vs ns) : ¬ s.foot p := fun f => (x.buf.typed f).ne (Typed.of x.cell) (by decide) rfl
theorem TreeAt.kidT (x : TreeAt h p s vs ns) {i : Nat} {v : S_kin_node} (e : vs[i]? = some v) {c : Nat} (f : v.xchildren.foot c) : Typed h N_int c := by
  obtain ⟨n, hn⟩ : ∃ n, ns[i]? = some n := ⟨_, List.getElem?_eq_getElem (by have := lt_of_get e; have := x.len; omega)⟩
  exact (x.nd i v n e hn).2.2.typed f
theorem TreeAt.keep {h' : H} (x : TreeAt h p s vs ns) (k : Keeps h h') : TreeAt h' p s vs ns :=
  ⟨k _ _ x.cell, x.buf.keep k, x.len, x.big, fun i v n e e' => by obtain ⟨a, b, c⟩ := x.nd i v n e e'; exact ⟨a, b, c.keep k⟩, x.apart⟩
theorem Tree.keep {h' : H} (x : Tree h p s F ns) (k : Keeps h h') : Tree h' p s F ns := by
  obtain ⟨vs, a, b⟩ := x.ex
  exact ⟨vs, a.keep k, b⟩
theorem TreeAt.typed (x : TreeAt h p s vs ns) {c : Nat} (f : TFoot p s vs c) : Typed h N_kin_Tree c ∨ Typed h N_kin_node c ∨ Typed h N_int c := by
  rcases f with rfl | f | ⟨v, hv, f⟩
  · exact .inl (Typed.of x.cell)
  · exact .inr (.inl (x.buf.typed f))
  · obtain ⟨i, hi⟩ := List.mem_iff_getElem?.1 hv
    exact .inr (.inr (x.kidT hi f))
theorem Tree.typed (x : Tree h p s F ns) {c : Nat} (f : F c) : Typed h N_kin_Tree c ∨ Typed h N_kin_node c ∨ Typed h N_int c := by
  obtain ⟨vs, a, b⟩ := x.ex
  exact a.typed ((b c).1 f)
theorem Tree.but {h' : H} {G : Nat → Prop} (x : Tree h p s F ns) (k : But G h h') (f : ∀ c, G c → ¬ F c) : Tree h' p s F ns := by
  obtain ⟨vs, a, b⟩ := x.ex
  refine ⟨vs, ⟨k _ _ a.cell fun q => f _ q ((b _).2 (.inl rfl)), a.buf.but k fun z hz q => f _ q ((b _).2 (.inr (.inl ⟨z, hz, rfl⟩))), a.len, a.big, fun i v n e e' => ?_, a.apart⟩, b⟩
  obtain ⟨p1, p2, p3⟩ := a.nd i v n e e'
  exact ⟨p1, p2, p3.but k fun z hz q => f _ q ((b _).2 (.inr (.inr ⟨v, List.mem_of_getElem? e, z, hz, rfl⟩)))⟩
theorem TreeAt.f0 (x : TreeAt h p s vs ns) : At h ((⟨p, 0, none⟩ : Addr).add 0) (cSl s) := At.own (l1 := []) (l3 := []) x.cell rfl
theorem t_number (x : TreeAt h p s vs ns) {i : Int} {K : Bool → H → Prop} (y : K (decide (0 ≤ i ∧ i < (ns.length : Int))) h) : m_kin_Tree_number (some ⟨p, 0, none⟩) i K h := by
  unfold m_kin_Tree_number
  have hl := x.buf.len
  have := x.len
  refine w_if' (fun c => w_deref (w_load x.f0 ?_)) fun c => ?_
  · have e : decide (i < (s.len : Int)) = decide (0 ≤ i ∧ i < (ns.length : Int)) := by rw [Bool.eq_iff_iff, decide_eq_true_eq, decide_eq_true_eq]; omega
    rw [e]; exact y
  · rw [decide_eq_false (by omega)] at y; exact y
theorem t_HasA (x : TreeAt h p s vs ns) {i : Int} {K : Bool → H → Prop} (y : K (hasN ns i) h) : m_kin_Tree_Has (some ⟨p, 0, none⟩) i K h := by
  unfold m_kin_Tree_Has
  refine t_number x (w_if' (fun c => w_deref (w_load x.f0 ?_)) fun c => ?_)
  · obtain ⟨k, rfl⟩ : ∃ k : Nat, i = k := ⟨i.toNat, by omega⟩
    have hk : k < ns.length := by omega
    obtain ⟨v, hv⟩ : ∃ v, vs[k]? = some v := ⟨_, List.getElem?_eq_getElem (by have := x.len; omega)⟩
    have hn := List.getElem?_eq_getElem hk
    refine w_field kn_len x.buf.arr hv rfl (v' := v.xthere) (cells' := cBool) (l1 := []) (l3 := (S_kin_node.cells v).drop 1) rfl rfl ?_
    have e : hasN ns (k : Int) = ns[k].there := by unfold hasN; rw [Int.toNat_natCast, hn]; simp
    rw [(x.nd k _ _ hv hn).1, ← e]; exact y
  · have e : hasN ns i = false := by
      unfold hasN
      by_cases q : 0 ≤ i
      · rw [List.getElem?_eq_none (by omega)]; simp
      · rw [decide_eq_false q]; rfl
    rw [e] at y; exact y
theorem t_Has (x : Tree h p s F ns) {i : Int} {K : Bool → H → Prop} (y : K (hasN ns i) h) : m_kin_Tree_Has (some ⟨p, 0, none⟩) i K h := by
  obtain ⟨vs, a, _⟩ := x.ex
  exact t_HasA a y
theorem t_at (x : TreeAt h p s vs ns) {i : Nat} {v : S_kin_node} (e : vs[i]? = some v) {K : Option Addr → H → Prop} (y : ∀ a, isIdx s (i : Int) 3 a → At h a (S_kin_node.cells v) → K (some a) h) : m_kin_Tree_at (some ⟨p, 0, none⟩) (i : Int) K h := by
  unfold m_kin_Tree_at
  exact w_deref (w_load x.f0 (w_idx kn_len x.buf.arr e rfl fun a ia ha => y a ia ha))
theorem cv_at (x : TreeAt h p s vs ns) {i : Nat} {v : S_kin_node} (e : vs[i]? = some v) {k : Option Addr → H → Prop} (y : ∀ a, isIdx s (i : Int) 3 a → At h a (S_kin_node.cells v) → k (some a) h) :
    mCallV (T := Option Addr) Tryz.prog (fun r => Value.pointer r) (.func (.func s_kin_Tree_at.f) #[.pointer (some ⟨p, 0, none⟩)] #[]) [.int .i64 (i : Int)] k h :=
  callV_of s_kin_Tree_at (first := #[.pointer (some ⟨p, 0, none⟩)]) (cap := #[]) (args := [.int .i64 (i : Int)]) (some ⟨p, 0, none⟩, (i : Int)) rfl (t_at x e y)
theorem TreeAt.node (x : TreeAt h p s vs ns) {i : Nat} {v v' : S_kin_node} {n' : Nd} (e : vs[i]? = some v) {h' : H} (bu : Buf S_kin_node.cells 3 N_kin_node h' s (vs.set i v')) (k : But s.foot h h') (b' : Buf (cInt .i64) 1 N_int h v'.xchildren n'.kids) (q : v'.xthere = n'.there ∧ v'.xparent = n'.parent)
    (fr : ∀ c, v'.xchildren.foot c → v.xchildren.foot c ∨ ∀ (j : Nat) (w : S_kin_node), vs[j]? = some w → ¬ w.xchildren.foot c) (ns' : List Nd) (hns : ns' = ns.set i n') : TreeAt h' p s (vs.set i v') ns' := by
  subst hns
  have hi := lt_of_get e
  have noS : ∀ {b : Sl} {l : List Int}, Buf (cInt .i64) 1 N_int h b l → ∀ a, b.a = some a → ¬ s.foot a.block := fun bb a ha f => (x.buf.typed f).ne (bb.typed ⟨a, ha, rfl⟩) (by decide) rfl
  refine ⟨k _ _ x.cell x.apartP, bu, by rw [List.length_set, List.length_set]; exact x.len, by rw [List.length_set]; exact x.big, fun j w m ew em => ?_, fun a b w u ew eu hne c fw fu => ?_⟩
  · rw [List.getElem?_set] at ew em
    by_cases z : i = j
    · rw [if_pos z] at ew em
      rw [if_pos hi] at ew
      rw [if_pos (by have := x.len; omega)] at em
      cases ew; cases em
      exact ⟨q.1, q.2, b'.but k (noS b')⟩
    · rw [if_neg z] at ew em
      obtain ⟨p1, p2, p3⟩ := x.nd j w m ew em
      exact ⟨p1, p2, p3.but k (noS p3)⟩
  · rw [List.getElem?_set] at ew eu
    by_cases z1 : i = a
    · rw [if_pos z1, if_pos hi] at ew
      have z2 : i ≠ b := fun q => hne (z1.symm.trans q)
      rw [if_neg z2] at eu
      cases ew
      rcases fr c fw with g | g
      · exact x.apart i b v u e eu z2 c g fu
      · exact g b u eu fu
    · rw [if_neg z1] at ew
      by_cases z2 : i = b
      · rw [if_pos z2, if_pos hi] at eu
        cases eu
        rcases fr c fu with g | g
        · exact x.apart i a v w e ew z1 c g fw
        · exact g a w ew fw
      · rw [if_neg z2] at eu
        exact x.apart a b w u ew eu hne c fw fu
structure KChg (F F' : Nat → Prop) (h h' : H) : Prop where
  but : But F h h'
  foot : ∀ c, F' c → F c ∨ h c = none
  dom : ∀ c, h' c = none → h c = none
theorem KChg.refl (F : Nat → Prop) (h : H) : KChg F F h h := ⟨.refl _ _, fun _ f => .inl f, fun _ e => e⟩
theorem KChg.trans {F1 F2 F3 : Nat → Prop} {h1 h2 h3 : H} (x : KChg F1 F2 h1 h2) (y : KChg F2 F3 h2 h3) : KChg F1 F3 h1 h3 :=
  ⟨x.but.trans y.but fun n f => x.foot n f, fun c f => (y.foot c f).elim (x.foot c) fun e => .inr (x.dom c e), fun c e => x.dom c (y.dom c e)⟩
end
def rootN (ns : List Nd) (n : Nat) : List Nd := ns.set n ⟨true, -1, []⟩
def childN (ns : List Nd) (q n : Nat) : List Nd := match ns[q]? with
  | some d => (ns.set n ⟨true, (q : Int), []⟩).set q { d with kids := d.kids ++ [(n : Int)] }
  | none => ns
section
variable {h : H} {p : Nat} {s : Sl} {F : Nat → Prop} {vs : List S_kin_node} {ns : List Nd}
theorem foot_at {s : Sl} {i : Int} {sz : Nat} {a : Addr} (x : isIdx s i sz a) : s.foot a.block := by
  obtain ⟨a0, h0, _, _, rfl⟩ := x
  exact ⟨a0, h0, (add_block _ _).symm⟩
theorem t_KRoot (x : Tree h p s F ns) {n : Nat} (hn : n < ns.length) (no : hasN ns (n : Int) = false) {K : Int → H → Prop} (y : ∀ h' F', Tree h' p s F' (rootN ns n) → KChg F F' h h' → K 0 h') : m_kin_Tree_Root (some ⟨p, 0, none⟩) (n : Int) K h := by
  obtain ⟨vs, a, b⟩ := x.ex
  unfold m_kin_Tree_Root m_kin_Tree_add
  refine t_number a ?_
  rw [show decide (0 ≤ (n : Int) ∧ (n : Int) < (ns.length : Int)) = true from decide_eq_true (by omega)]
  refine w_ifF rfl (t_HasA a ?_)
  rw [no]
  refine w_ifF rfl ?_
  obtain ⟨v, hv⟩ : ∃ v, vs[n]? = some v := ⟨_, List.getElem?_eq_getElem (by have := a.len; omega)⟩
  refine cv_at a hv fun ad ia ha => w_deref ?_
  refine w_set kn_len a.buf hv ia (v' := ⟨true, -1, Sl.nil⟩) (c1 := []) (c2 := S_kin_node.cells v) (c3 := []) (by simp) (by rfl) (by rfl) (add_zero ad).symm fun h2 b2 k2 d2 => w_ifF rfl ?_
  have x2 := a.node (n' := ⟨true, -1, []⟩) hv b2 k2 Buf.nil ⟨rfl, rfl⟩ (fun c ⟨z, hz, _⟩ => by cases hz) _ rfl
  refine y h2 _ ⟨_, x2, fun c => Iff.rfl⟩ ⟨k2.mono fun c f => (b c).2 (.inr (.inl f)), fun c f => .inl ((b c).2 ?_), d2⟩
  rcases f with f | f | ⟨w, hw, f⟩
  · exact .inl f
  · exact .inr (.inl f)
  · rcases List.mem_or_eq_of_mem_set hw with q | q
    · exact .inr (.inr ⟨w, q, f⟩)
    · subst q; obtain ⟨z, hz, _⟩ := f; cases hz
theorem t_KChild (x : Tree h p s F ns) {q n : Nat} (hn : n < ns.length) (no : hasN ns (n : Int) = false) (hq : hasN ns (q : Int) = true) (hk : ∀ d, ns[q]? = some d → d.kids.length ≤ 256) {K : Int → H → Prop} (y : ∀ h' F', Tree h' p s F' (childN ns q n) → KChg F F' h h' → K 0 h') : m_kin_Tree_Child (some ⟨p, 0, none⟩) (q : Int) (n : Int) K h := by
  obtain ⟨vs, a, b⟩ := x.ex
  obtain ⟨d, hd, dt⟩ := hasN_iff.1 hq
  have hne : n ≠ q := fun e => by subst e; rw [hq] at no; cases no
  unfold m_kin_Tree_Child m_kin_Tree_add
  refine t_number a ?_
  rw [show decide (0 ≤ (n : Int) ∧ (n : Int) < (ns.length : Int)) = true from decide_eq_true (by omega)]
  refine w_join (w_ifF rfl (t_HasA a ?_))
  rw [hq]
  refine w_ifF rfl (t_HasA a ?_)
  rw [no]
  refine w_ifF rfl ?_
  obtain ⟨v, hv⟩ : ∃ v, vs[n]? = some v := ⟨_, List.getElem?_eq_getElem (by have := a.len; omega)⟩
  refine cv_at a hv fun ad ia ha => w_deref ?_
  refine w_set kn_len a.buf hv ia (v' := ⟨true, (q : Int), Sl.nil⟩) (c1 := []) (c2 := S_kin_node.cells v) (c3 := []) (by simp) (by rfl) (by rfl) (add_zero ad).symm fun h2 b2 k2 d2 => w_ifT (by simp) ?_
  have x2 := a.node (n' := ⟨true, (q : Int), []⟩) hv b2 k2 Buf.nil ⟨rfl, rfl⟩ (fun c ⟨z, hz, _⟩ => by cases hz) _ rfl
  have hql := lt_of_get hd
  obtain ⟨vq, hvq⟩ : ∃ vq, (vs.set n ⟨true, (q : Int), Sl.nil⟩)[q]? = some vq := ⟨_, List.getElem?_eq_getElem (by rw [List.length_set, a.len]; exact hql)⟩
  have hvq0 : vs[q]? = some vq := by rw [List.getElem?_set, if_neg hne] at hvq; exact hvq
  have hnq : (ns.set n ⟨true, (q : Int), []⟩)[q]? = some d := by rw [List.getElem?_set, if_neg hne]; exact hd
  obtain ⟨e1, e2, bk⟩ := x2.nd q vq d hvq hnq
  refine cv_at x2 hvq fun aq iq haq => w_deref (w_load (v := vq.xchildren) (cells := cSl) (At.sub (l1 := (S_kin_node.cells vq).take 2) (l3 := []) haq rfl) ?_)
  have hkd := hk d hd
  refine w_app (by_ := 8) ci_len rfl bk [(n : Int)] rfl rfl (.inl (by simp only [List.length_singleton]; omega)) fun s3 h3 bu3 b3 f3 d3 => w_deref ?_
  have nS : ∀ c, vq.xchildren.foot c → ¬ s.foot c := fun c f g => (x2.buf.typed g).ne (x2.kidT hvq f) (by decide) rfl
  have buS : Buf S_kin_node.cells 3 N_kin_node h3 s (vs.set n ⟨true, (q : Int), Sl.nil⟩) := x2.buf.but b3 fun z hz f => nS _ f ⟨z, hz, rfl⟩
  have haq3 : At h3 aq (S_kin_node.cells vq) := haq.but b3 fun f => nS _ f (foot_at iq)
  refine w_set kn_len buS hvq iq (v' := ⟨vq.xthere, vq.xparent, s3⟩) (c1 := (S_kin_node.cells vq).take 2) (c2 := [Sl.val vq.xchildren]) (c3 := []) (by rfl) (by rfl) (by rfl) (by rfl) fun h4 b4 k4 d4 => ?_
  have k24 : But (fun c => vq.xchildren.foot c ∨ s.foot c) h2 h4 := (b3.mono fun _ f => .inl f).trans (k4.mono fun _ f => .inr f) fun _ f => .inl f
  have bu4 : Buf (cInt .i64) 1 N_int h4 s3 (d.kids ++ [(n : Int)]) := bu3.but k4 fun z hz f => (bu3.typed ⟨z, hz, rfl⟩).ne (buS.typed f) (by decide) rfl
  have hs3 : ∀ c, s3.foot c → vq.xchildren.foot c ∨ h2 c = none := f3
  have e0 : childN ns q n = (ns.set n ⟨true, (q : Int), []⟩).set q { d with kids := d.kids ++ [(n : Int)] } := by unfold childN; rw [hd]
  have x4 : TreeAt h4 p s ((vs.set n ⟨true, (q : Int), Sl.nil⟩).set q ⟨vq.xthere, vq.xparent, s3⟩) (childN ns q n) := by
    rw [e0]
    have lq : q < (vs.set n ⟨true, (q : Int), Sl.nil⟩).length := lt_of_get hvq
    refine ⟨k24 _ _ x2.cell fun f => f.elim (fun f => (x2.kidT hvq f).ne (Typed.of x2.cell) (by decide) rfl) x2.apartP, b4, by simp only [List.length_set]; exact a.len, by rw [List.length_set]; exact x2.big, fun j w m ew em => ?_, fun i j w u ew eu hij c fw fu => ?_⟩
    · rw [List.getElem?_set] at ew em
      by_cases z : q = j
      · rw [if_pos z, if_pos lq] at ew
        rw [if_pos z, if_pos (lt_of_get hnq)] at em
        cases ew; cases em
        exact ⟨e1, e2, bu4⟩
      · rw [if_neg z] at ew em
        obtain ⟨p1, p2, p3⟩ := x2.nd j w m ew em
        exact ⟨p1, p2, p3.but k24 fun z' hz f => f.elim (fun f => x2.apart q j vq w hvq ew z _ f ⟨z', hz, rfl⟩) fun f => (p3.typed ⟨z', hz, rfl⟩).ne (x2.buf.typed f) (by decide) rfl⟩
    · rw [List.getElem?_set] at ew eu
      have old : ∀ {i : Nat} {w : S_kin_node}, (vs.set n ⟨true, (q : Int), Sl.nil⟩)[i]? = some w → q ≠ i → ∀ c, s3.foot c → ¬ w.xchildren.foot c := fun {i w} ew z c f g => by
        rcases hs3 c f with r | r
        · exact x2.apart q i vq w hvq ew z c r g
        · exact (x2.kidT ew g).has r
      by_cases z1 : q = i
      · rw [if_pos z1, if_pos lq] at ew
        cases ew
        have z2 : q ≠ j := fun r => hij (z1.symm.trans r)
        rw [if_neg z2] at eu
        exact old eu z2 c fw fu
      · rw [if_neg z1] at ew
        by_cases z2 : q = j
        · rw [if_pos z2, if_pos lq] at eu
          cases eu
          exact old ew z1 c fu fw
        · rw [if_neg z2] at eu
          exact x2.apart i j w u ew eu hij c fw fu
  have kF : But F h h4 := (k2.mono fun c f => (b c).2 (.inr (.inl f))).trans k24 fun c f => .inl ((b c).2 (f.elim (fun f => .inr (.inr ⟨vq, List.mem_of_getElem? hvq0, f⟩)) fun f => .inr (.inl f)))
  have d24 : ∀ c, h4 c = none → h2 c = none := fun c e => d3 c (d4 c e)
  refine y h4 _ ⟨_, x4, fun c => Iff.rfl⟩ ⟨kF, fun c f => ?_, fun c e => d2 c (d24 c e)⟩
  rcases f with f | f | ⟨w, hw, f⟩
  · exact .inl ((b c).2 (.inl f))
  · exact .inl ((b c).2 (.inr (.inl f)))
  · rcases List.mem_or_eq_of_mem_set hw with r | r
    · rcases List.mem_or_eq_of_mem_set r with r | r
      · exact .inl ((b c).2 (.inr (.inr ⟨w, r, f⟩)))
      · subst r; obtain ⟨z, hz, _⟩ := f; cases hz
    · subst r
      rcases hs3 c f with g | g
      · exact .inl ((b c).2 (.inr (.inr ⟨vq, List.mem_of_getElem? hvq0, g⟩)))
      · exact .inr (d2 c g)
end
section
variable {h : H} {p : Nat} {s : Sl} {F : Nat → Prop} {vs : List S_kin_node} {ns : List Nd}
theorem TreeAt.setKids (x : TreeAt h p s vs ns) {q : Nat} {v : S_kin_node} {d : Nd} (hv : vs[q]? = some v) (hd : ns[q]? = some d) {h3 : H} {s3 : Sl} {ks : List Int} (b3 : But v.xchildren.foot h h3) (d3 : ∀ c, h3 c = none → h c = none) (bu3 : Buf (cInt .i64) 1 N_int h3 s3 ks) (f3 : ∀ c, s3.foot c → v.xchildren.foot c ∨ h c = none)
    {a : Addr} (ia : isIdx s (q : Int) 3 a) {k : H → Prop} (y : ∀ h4, TreeAt h4 p s (vs.set q ⟨v.xthere, v.xparent, s3⟩) (ns.set q ⟨d.there, d.parent, ks⟩) → But (fun c => v.xchildren.foot c ∨ s.foot c) h h4 → (∀ c, h4 c = none → h c = none) → k h4) : mStore (a.add 2) [Sl.val s3] k h3 := by
  obtain ⟨e1, e2, bk⟩ := x.nd q v d hv hd
  have nS : ∀ c, v.xchildren.foot c → ¬ s.foot c := fun c f g => (x.buf.typed g).ne (x.kidT hv f) (by decide) rfl
  have buS : Buf S_kin_node.cells 3 N_kin_node h3 s vs := x.buf.but b3 fun z hz f => nS _ f ⟨z, hz, rfl⟩
  refine w_set kn_len buS hv ia (v' := ⟨v.xthere, v.xparent, s3⟩) (c1 := (S_kin_node.cells v).take 2) (c2 := [Sl.val v.xchildren]) (c3 := []) (by rfl) (by rfl) (by rfl) (by rfl) fun h4 b4 k4 d4 => ?_
  have k24 : But (fun c => v.xchildren.foot c ∨ s.foot c) h h4 := (b3.mono fun _ f => .inl f).trans (k4.mono fun _ f => .inr f) fun _ f => .inl f
  have bu4 : Buf (cInt .i64) 1 N_int h4 s3 ks := bu3.but k4 fun z hz f => (bu3.typed ⟨z, hz, rfl⟩).ne (buS.typed f) (by decide) rfl
  have lq : q < vs.length := lt_of_get hv
  refine y h4 ⟨k24 _ _ x.cell fun f => f.elim (fun f => (x.kidT hv f).ne (Typed.of x.cell) (by decide) rfl) x.apartP, b4, by simp only [List.length_set]; exact x.len, by rw [List.length_set]; exact x.big, fun j w m ew em => ?_, fun i j w u ew eu hij c fw fu => ?_⟩ k24 fun c e => d3 c (d4 c e)
  · rw [List.getElem?_set] at ew em
    by_cases z : q = j
    · rw [if_pos z, if_pos lq] at ew
      rw [if_pos z, if_pos (lt_of_get hd)] at em
      cases ew; cases em
      exact ⟨e1, e2, bu4⟩
    · rw [if_neg z] at ew em
      obtain ⟨p1, p2, p3⟩ := x.nd j w m ew em
      exact ⟨p1, p2, p3.but k24 fun z' hz f => f.elim (fun f => x.apart q j v w hv ew z _ f ⟨z', hz, rfl⟩) fun f => (p3.typed ⟨z', hz, rfl⟩).ne (x.buf.typed f) (by decide) rfl⟩
  · rw [List.getElem?_set] at ew eu
    have old : ∀ {i : Nat} {w : S_kin_node}, vs[i]? = some w → q ≠ i → ∀ c, s3.foot c → ¬ w.xchildren.foot c := fun {i w} ew z c f g => by
      rcases f3 c f with r | r
      · exact x.apart q i v w hv ew z c r g
      · exact (x.kidT ew g).has r
    by_cases z1 : q = i
    · rw [if_pos z1, if_pos lq] at ew
      cases ew
      have z2 : q ≠ j := fun r => hij (z1.symm.trans r)
      rw [if_neg z2] at eu
      exact old eu z2 c fw fu
    · rw [if_neg z1] at ew
      by_cases z2 : q = j
      · rw [if_pos z2, if_pos lq] at eu
        cases eu
        exact old ew z1 c fu fw
      · rw [if_neg z2] at eu
        exact x.apart i j w u ew eu hij c fw fu
theorem t_KNew {n : Nat} (hn : n ≤ 256) {K : Option Addr × Int → H → Prop} (y : ∀ p s F h', Tree h' p s F (List.replicate n nd0) → Keeps h h' → (∀ c, F c → h c = none) → K (some ⟨p, 0, none⟩, 0) h') : m_kin_New (n : Int) K h := by
  unfold m_kin_New
  refine w_ifF (by simp; omega) (w_make kn_len ⟨false, 0, Sl.nil⟩ rfl rfl rfl (by omega) (by omega) fun s h1 bu k1 f1 _ => w_new fun p fp => ?_)
  refine y p s _ _ ⟨List.replicate n ⟨false, 0, Sl.nil⟩, ⟨upd_same _ _ _, bu.keep (.new fp), by simp, by rw [List.length_replicate]; exact hn, fun i v m e1 e2 => ?_, fun i j v w e1 _ _ c f => ?_⟩, fun c => Iff.rfl⟩ (k1.trans (.new fp)) fun c f => ?_
  · obtain rfl := List.eq_of_mem_replicate (List.mem_of_getElem? e1)
    obtain rfl := List.eq_of_mem_replicate (List.mem_of_getElem? e2)
    exact ⟨rfl, rfl, Buf.nil⟩
  · obtain rfl := List.eq_of_mem_replicate (List.mem_of_getElem? e1)
    obtain ⟨a, ha, _⟩ := f; cases ha
  · rcases f with rfl | f | ⟨v, hv, f⟩
    · exact k1.fresh fp
    · exact f1 c f
    · obtain rfl := List.eq_of_mem_replicate hv
      obtain ⟨a, ha, _⟩ := f; cases ha
theorem t_Kids (x : Tree h p s F ns) {i : Nat} {d : Nd} (hd : ns[i]? = some d) (ht : d.there = true) (hk : d.kids.length ≤ 2 ^ 40) {K : Sl → H → Prop} (y : ∀ s' h', Buf (cInt .i64) 1 N_int h' s' d.kids → Keeps h h' → (∀ c, s'.foot c → h c = none) → K s' h') : m_kin_Tree_Children (some ⟨p, 0, none⟩) (i : Int) K h := by
  obtain ⟨vs, a, b⟩ := x.ex
  unfold m_kin_Tree_Children
  refine t_HasA a ?_
  rw [show hasN ns (i : Int) = true from hasN_iff.2 ⟨d, hd, ht⟩]
  obtain ⟨v, hv⟩ : ∃ v, vs[i]? = some v := ⟨_, List.getElem?_eq_getElem (by have := a.len; have := lt_of_get hd; omega)⟩
  obtain ⟨e1, e2, bk⟩ := a.nd i v d hv hd
  refine w_ifF rfl (t_at a hv fun ad ia ha => w_deref (w_load (v := v.xchildren) (cells := cSl) (At.sub (l1 := (S_kin_node.cells v).take 2) (l3 := []) ha rfl) ?_))
  exact w_clone ci_len ci_plain rfl bk.arr (by omega) y
end
theorem erase_idx (m : Int) : ∀ l : List Int, l.eraseIdx (l.idxOf m) = l.erase m := by
  intro l
  induction l with
  | nil => rfl
  | cons a r ih =>
    rw [List.idxOf_cons, List.erase_cons]
    by_cases e : a = m
    · subst e; simp
    · have : (a == m) = false := by simpa using e
      simp [this, ih]
def cutN (ns : List Nd) (m : Nat) : List Nd := match ns[m]? with
  | none => ns
  | some d => if d.parent < 0 then ns.set m nd0 else match ns[d.parent.toNat]? with
    | none => ns
    | some dq => (ns.set d.parent.toNat ⟨dq.there, dq.parent, dq.kids.erase (m : Int)⟩).set m nd0
section
variable {h : H} {p : Nat} {s : Sl} {F : Nat → Prop} {vs : List S_kin_node} {ns : List Nd}
theorem t_KCut (x : Tree h p s F ns) {m : Nat} {d : Nd} (hd : ns[m]? = some d) (ht : d.there = true) (h0 : d.kids = []) (hq : 0 ≤ d.parent → d.parent.toNat ≠ m ∧ ∃ dq, ns[d.parent.toNat]? = some dq ∧ (m : Int) ∈ dq.kids ∧ dq.kids.length ≤ 256)
    {K : Int → H → Prop} (y : ∀ h' F', Tree h' p s F' (cutN ns m) → KChg F F' h h' → K 0 h') : m_kin_Tree_Cut (some ⟨p, 0, none⟩) (m : Int) K h := by
  obtain ⟨vs, a, b⟩ := x.ex
  unfold m_kin_Tree_Cut
  refine t_HasA a ?_
  rw [show hasN ns (m : Int) = true from hasN_iff.2 ⟨d, hd, ht⟩]
  obtain ⟨v, hv⟩ : ∃ v, vs[m]? = some v := ⟨_, List.getElem?_eq_getElem (by have := a.len; have := lt_of_get hd; omega)⟩
  obtain ⟨e1, e2, bk⟩ := a.nd m v d hv hd
  refine w_ifF rfl (cv_at a hv fun ad ia ha => w_deref (w_load (v := v.xchildren) (cells := cSl) (At.sub (l1 := (S_kin_node.cells v).take 2) (l3 := []) ha rfl) ?_))
  have hl0 : v.xchildren.len = 0 := by have := bk.len; rw [h0] at this; exact this
  refine w_ifF (by rw [hl0]; rfl) ?_
  refine w_joinP (fun _ h1 => ∃ vs1 ns1, TreeAt h1 p s vs1 ns1 ∧ vs1[m]? = some v ∧ ns1.set m nd0 = cutN ns m ∧ But F h h1 ∧ (∀ c, TFoot p s vs1 c → F c) ∧ ∀ c, h1 c = none → h c = none) (fun j hj => ?_) ?_
  · refine cv_at a hv fun ad1 ia1' ha1 => w_deref (w_load (v := v.xparent) (cells := cInt .i64) (At.sub (l1 := (S_kin_node.cells v).take 1) (l3 := (S_kin_node.cells v).drop 2) ha1 rfl) (w_if' (fun c => ?_) fun c => ?_))
    · have c : 0 ≤ d.parent := by rw [← e2]; exact c
      obtain ⟨hne, dq, hdq, hmem, hlen⟩ := hq c
      clear hq
      generalize hqd : d.parent.toNat = q at *
      have ep : v.xparent = (q : Int) := by rw [e2]; omega
      rw [ep]
      obtain ⟨vq, hvq⟩ : ∃ vq, vs[q]? = some vq := ⟨_, List.getElem?_eq_getElem (by have := a.len; have := lt_of_get hdq; omega)⟩
      obtain ⟨g1, g2, bq⟩ := a.nd q vq dq hvq hdq
      refine cv_at a hvq fun aq iq haq => w_deref ?_
      have lkid : At h (aq.add 2) (cSl vq.xchildren) := At.sub (l1 := (S_kin_node.cells vq).take 2) (l3 := []) haq rfl
      refine w_load lkid ?_
      unfold m_slices_Index_int_int
      refine w_index bq.arr (by omega) hmem (w_deref (w_load lkid ?_))
      unfold m_slices_Delete_int_int
      have hix := List.idxOf_lt_length_of_mem hmem
      refine w_delete (by_ := 8) (k := fun r18 => mDeref (some aq) fun ad19 => mStore (ad19.add 2) [Sl.val r18] (j ())) ci_len ci_plain 0 rfl bq hix (by omega) rfl ?_ ?_
      · rw [iAdd_eq (by omega) (by omega)]; omega
      intro s3 h3 bu3 f3 b3 d3
      refine w_deref ?_
      rw [erase_idx] at bu3
      refine a.setKids hvq hdq b3 d3 bu3 (fun c f => .inl (f3 c f)) iq fun h4 x4 b4 d4 => ?_
      refine hj _ _ ⟨_, _, x4, by rw [List.getElem?_set, if_neg hne]; exact hv, ?_, b4.mono fun c f => (b c).2 (f.elim (fun f => .inr (.inr ⟨vq, List.mem_of_getElem? hvq, f⟩)) fun f => .inr (.inl f)), fun c f => (b c).2 ?_, d4⟩
      · unfold cutN
        rw [hd]
        simp only
        rw [if_neg (by omega), hqd, hdq]
      · rcases f with f | f | ⟨w, hw, f⟩
        · exact .inl f
        · exact .inr (.inl f)
        · rcases List.mem_or_eq_of_mem_set hw with r | r
          · exact .inr (.inr ⟨w, r, f⟩)
          · subst r; exact .inr (.inr ⟨vq, List.mem_of_getElem? hvq, f3 c f⟩)
    · have c : ¬ 0 ≤ d.parent := by rw [← e2]; exact c
      refine hj _ _ ⟨vs, ns, a, hv, ?_, .refl _ _, fun c f => (b c).2 f, fun _ e => e⟩
      unfold cutN
      rw [hd]
      simp only
      rw [if_pos (by omega)]
  · rintro _ h1 ⟨vs1, ns1, x1, hv1, en, bt1, fo1, dm1⟩
    refine cv_at x1 hv1 fun ad1 ia1' ha1 => w_deref ?_
    refine w_set kn_len x1.buf hv1 ia1' (v' := ⟨false, 0, Sl.nil⟩) (c1 := []) (c2 := S_kin_node.cells v) (c3 := []) (by simp) (by rfl) (by rfl) (add_zero ad1).symm fun h2 b2 k2 d2 => ?_
    have x2 := x1.node (n' := nd0) hv1 b2 k2 Buf.nil ⟨rfl, rfl⟩ (fun c ⟨z, hz, _⟩ => by cases hz) _ rfl
    rw [en] at x2
    refine y h2 _ ⟨_, x2, fun c => Iff.rfl⟩ ⟨bt1.trans k2 fun c f => .inl (fo1 c (.inr (.inl f))), fun c f => .inl (fo1 c ?_), fun c e => dm1 c (d2 c e)⟩
    rcases f with f | f | ⟨w, hw, f⟩
    · exact .inl f
    · exact .inr (.inl f)
    · rcases List.mem_or_eq_of_mem_set hw with r | r
      · exact .inr (.inr ⟨w, r, f⟩)
      · subst r; obtain ⟨z, hz, _⟩ := f; cases hz
end
def chN (ns : List Nd) (i : Int) : List Int := if 0 ≤ i then ((ns[i.toNat]?).map Nd.kids).getD [] else []
theorem chN_nat (ns : List Nd) (i : Nat) : chN ns (i : Int) = ((ns[i]?).map Nd.kids).getD [] := by
  unfold chN
  rw [if_pos (by omega), Int.toNat_natCast]
def LiveL (ns : List Nd) (l : List Int) : Prop := ∀ z, z ∈ l → hasN ns z = true
theorem hasN_nat {ns : List Nd} {z : Int} (x : hasN ns z = true) : ∃ (i : Nat) (d : Nd), z = i ∧ ns[i]? = some d ∧ d.there = true ∧ chN ns z = d.kids := by
  have h0 : 0 ≤ z := by
    unfold hasN at x
    rw [Bool.and_eq_true] at x
    exact of_decide_eq_true x.1
  obtain ⟨i, rfl⟩ : ∃ i : Nat, z = i := ⟨z.toNat, by omega⟩
  obtain ⟨d, h1, h2⟩ := hasN_iff.1 x
  exact ⟨i, d, rfl, h1, h2, by rw [chN_nat, h1]; rfl⟩
theorem concat_of {T : Type} {l : List T} {n : Nat} (h : l.length = n + 1) : ∃ a x, l = a ++ [x] ∧ a.length = n := by
  rcases List.eq_nil_or_concat l with q | ⟨a, x, q⟩
  · subst q; simp at h
  · rw [List.concat_eq_append] at q; subst q; exact ⟨a, x, rfl, by simp at h; exact h⟩
theorem cut_front {s : Sl} {n : Nat} {i j : Int} {h : H} (hi : i = 0) (hj : j = n) (hn : n ≤ s.cap) {k : Sl → H → Prop} {size : Nat} (y : k ⟨s.a, n, s.cap⟩ h) : mCut s i j size k h := by
  refine w_cut (lo := 0) (hi := n) hi hj (Nat.zero_le _) hn ?_
  have hcut : (if s.cap = 0 then s.a else s.a.map (·.add (0 * size))) = s.a := by
    split
    · rfl
    · cases s.a <;> simp [add_zero]
  rw [hcut, Nat.sub_zero, Nat.sub_zero]
  exact y
section
variable {h : H} {p : Nat} {s : Sl} {F : Nat → Prop} {ns : List Nd}
theorem t_down (x : Tree h p s F ns) {n : Nat} {turn : Bool} {c' : Int → List Int} (hc' : ∀ z, c' z = if turn then (chN ns z).reverse else chN ns z) {l : List Int} (hl : PreL c' [(n : Int)] l) (live : LiveL ns l) (len : l.length ≤ 4096) {K : Sl → H → Prop}
    (y : ∀ s' h', Buf (cInt .i64) 1 N_int h' s' l → Keeps h h' → (∀ c, s'.foot c → h c = none) → K s' h') : m_walk_down (some ⟨p, 0, none⟩) (n : Int) turn K h := by
  unfold m_walk_down
  refine t_Has x ?_
  have hn : (n : Int) ∈ l := by cases hl; exact List.mem_cons_self ..
  rw [live _ hn]
  refine w_ifF rfl (w_new fun b hb => ?_)
  refine w_for l.length (fun i (z : Sl × Sl) h' => ∃ st, Buf (cInt .i64) 1 N_int h' z.1 (l.take i) ∧ Buf (cInt .i64) 1 N_int h' z.2 st ∧ PreL c' st.reverse (l.drop i) ∧ Keeps h h' ∧ (∀ c, z.1.foot c → h c = none) ∧ (∀ c, z.2.foot c → h c = none) ∧ ∀ c, z.1.foot c → ¬ z.2.foot c) ?_ ?_
  rotate_left
  · exact ⟨[(n : Int)], Buf.nil, ⟨rfl, Nat.le_refl _, .inr ⟨b, [], (0, 0), rfl, upd_same _ _ _, rfl, thawed0 _⟩⟩, hl, .new hb, fun c ⟨a, q, _⟩ => by (cases q), fun c ⟨a, q, r⟩ => by (cases q; subst r; exact hb), fun c ⟨a, q, _⟩ => by cases q⟩
  rintro rec i ⟨out, sk⟩ h1 hi ⟨st, bo, bs, hp, kp, fo, fs, ap⟩ more
  have bo : Buf (cInt .i64) 1 N_int h1 out (l.take i) := bo
  have bs : Buf (cInt .i64) 1 N_int h1 sk st := bs
  have ls := bs.len
  refine w_if' (fun c => ?_) fun c => ?_
  · have c : 0 < (sk.len : Int) := c
    obtain ⟨m, hm⟩ : ∃ m, st.length = m + 1 := ⟨st.length - 1, by omega⟩
    obtain ⟨st', z, rfl, hst⟩ := concat_of hm
    have hle := hp.le
    rw [List.length_reverse, List.length_drop] at hle
    rw [List.reverse_append] at hp
    have hp : PreL c' (z :: st'.reverse) (l.drop i) := hp
    have hil : i < l.length := by omega
    obtain ⟨l1, L1, e, p1, p2⟩ : ∃ l1 L1, l.drop i = z :: (l1 ++ L1) ∧ PreL c' (c' z) l1 ∧ PreL c' st'.reverse L1 := by
      generalize hd : l.drop i = d at hp
      cases hp with
      | cons a b => exact ⟨_, _, rfl, a, b⟩
    have hz : l[i]? = some z := by
      have := congrArg (fun q : List Int => q[0]?) e
      simpa [List.getElem?_drop] using this
    obtain ⟨j, d, rfl, hd, hth, hch⟩ := hasN_nat (live z (List.mem_of_getElem? hz))
    have hkl : d.kids.length ≤ 4096 := by
      have q1 := p1.le
      have q2 := congrArg List.length e
      rw [List.length_drop, List.length_cons, List.length_append] at q2
      rw [hc', hch] at q1
      have : d.kids.length ≤ l1.length := by
        cases turn with
        | true => simpa using q1
        | false => simpa using q1
      omega
    have hcap := bs.cap
    show mIdx sk (iSub .i64 (sk.len : Int) 1) 1 _ h1
    rw [ls, hm, is1 (m + 1) (by omega) (by omega)]
    refine w_idx (i := m) (v := (j : Int)) ci_len bs.arr (by rw [← hst]; simp) (by omega) fun a _ ha => w_load ha ?_
    refine cut_front (s := sk) rfl (n := m) (by omega) (by omega) ?_
    have bs2 : Buf (cInt .i64) 1 N_int h1 ⟨sk.a, m, sk.cap⟩ st' := by
      have := bs.front (n := m) (by omega)
      rwa [← hst, List.take_left, hst] at this
    refine w_app (by_ := 8) ci_len rfl bo [(j : Int)] rfl rfl (.inl (by rw [List.length_take]; simp only [List.length_singleton]; omega)) fun o2 h2 bo2 b2 f2 d2 => ?_
    have bs3 := bs2.but b2 fun a ha f => ap _ f ⟨a, ha, rfl⟩
    have k2 : Keeps h h2 := kp.but b2 fo
    refine t_Kids (x.keep k2) hd hth (by omega) fun s3 h3 bu3 k3 f3 => ?_
    refine w_joinP (fun _ h4 => Buf (cInt .i64) 1 N_int h4 s3 (c' (j : Int)).reverse ∧ But s3.foot h3 h4 ∧ ∀ c, h4 c = none → h3 c = none) (fun J hJ => ?_) ?_
    · refine w_if (fun e0 => ?_) fun e0 => ?_
      · unfold m_slices_Reverse_int_int
        refine w_reverse bu3 (by omega) fun h4 bu4 b4 d4 => hJ _ _ ⟨?_, b4, d4⟩
        rw [hc', hch]
        cases turn with
        | true => cases e0
        | false => exact bu4
      · refine hJ _ _ ⟨?_, .refl _ _, fun _ q => q⟩
        rw [hc', hch]
        cases turn with
        | true => rw [if_pos rfl, List.reverse_reverse]; exact bu3
        | false => cases e0
    · rintro _ h4 ⟨bu4, b4, d4⟩
      have bs4 : Buf (cInt .i64) 1 N_int h4 ⟨sk.a, m, sk.cap⟩ st' := (bs3.keep k3).but b4 fun a ha f => bs3.has ⟨a, ha, rfl⟩ (f3 _ f)
      have bo4 : Buf (cInt .i64) 1 N_int h4 o2 (l.take i ++ [(j : Int)]) := (bo2.keep k3).but b4 fun a ha f => bo2.has ⟨a, ha, rfl⟩ (f3 _ f)
      have hkl' : (c' (j : Int)).reverse.length = d.kids.length := by
        rw [hc', hch]; cases turn <;> simp
      refine w_append (by_ := 8) ci_len ci_plain rfl bs4 bu4.arr (.inl (by rw [hkl']; omega)) fun s5 h5 bu5 b5 f5 d5 => ?_
      have dsj : ∀ c, o2.foot c → ¬ (⟨sk.a, m, sk.cap⟩ : Sl).foot c := fun c f g => by
        rcases f2 c f with q | q
        · exact ap c q g
        · exact bs2.has g q
      refine more _ _ hil ⟨st' ++ (c' (j : Int)).reverse, ?_, bu5, ?_, ?_, fun c f => ?_, fun c f => ?_, fun c f g => ?_⟩
      · have := bo4.but b5 fun a ha f => dsj _ ⟨a, ha, rfl⟩ f
        have e1 : l.take (i + 1) = l.take i ++ [(j : Int)] := by rw [List.take_add_one, hz]; rfl
        rw [e1]; exact this
      · rw [List.reverse_append, List.reverse_reverse]
        have e2 : l.drop (i + 1) = l1 ++ L1 := by
          have := congrArg List.tail e
          simpa [List.tail_drop] using this
        rw [e2]
        exact p1.append p2
      · refine ((k2.trans k3).but b4 fun c f => k2.fresh (f3 c f)).but b5 fun c f => fs c f
      · rcases f2 c f with q | q
        · exact fo c q
        · exact kp.fresh q
      · rcases f5 c f with q | q
        · exact fs c q
        · exact k2.fresh (k3.fresh (d4 c q))
      · rcases f5 c g with q | q
        · exact dsj c f q
        · exact bo2.has f (k3.fresh (d4 c q))
  · have c : ¬ 0 < (sk.len : Int) := c
    obtain rfl : st = [] := List.length_eq_zero_iff.1 (by omega)
    have hp : PreL c' [] (l.drop i) := hp
    generalize hd : l.drop i = d at hp
    cases hp
    have : l.take i = l := by rw [List.take_of_length_le]; have := congrArg List.length hd; rw [List.length_drop] at this; simp at this; omega
    rw [this] at bo
    exact y _ _ bo kp fo
theorem t_Fall (x : Tree h p s F ns) {n : Nat} {m : List Int} (hm : PreL (fun z => (chN ns z).reverse) [(n : Int)] m) (live : LiveL ns m) (len : m.length ≤ 4096) {K : Sl → H → Prop}
    (y : ∀ s' h', Buf (cInt .i64) 1 N_int h' s' m.reverse → Keeps h h' → (∀ c, s'.foot c → h c = none) → K s' h') : m_walk_Fall (some ⟨p, 0, none⟩) (n : Int) K h := by
  unfold m_walk_Fall
  refine t_down x (turn := true) (fun _ => rfl) hm live len fun s1 h1 bu1 k1 f1 => ?_
  unfold m_slices_Reverse_int_int
  exact w_reverse (K := fun _ => K s1) bu1 (by omega) fun h2 bu2 b2 d2 => y _ _ bu2 (k1.but b2 f1) f1
theorem w_Down (x : Tree h p s F ns) {n : Nat} {l : List Int} (hl : PreL (chN ns) [(n : Int)] l) (live : LiveL ns l) (len : l.length ≤ 4096)
    {body : Int → ((H → Prop) → H → Prop) → (Nat → H → Prop) → H → Prop} {k : Nat → H → Prop} (b : Int → (Nat → H → Prop) → H → Prop) (hb : ∀ x mid kj, body x mid kj = mid (b x kj))
    (J : (Nat → Prop) → Nat → H → Prop) (has : ∀ G i h, J G i h → ∀ c, G c → h c ≠ none) (stab : ∀ G i h h' E, J G i h → But E h h' → (∀ c, E c → ¬ G c) → J G i h') {G0 : Nat → Prop} (j0 : J G0 0 h)
    (step : ∀ (i : Nat) (z : Nat), l[i]? = some (z : Int) → ∀ G h' kj, J G i h' → (∀ G' h'', J G' (i + 1) h'' → KChg G G' h' h'' → kj 0 h'') → b (z : Int) kj h')
    (y : ∀ G h', J G l.length h' → KChg G0 G h h' → k 0 h') :
    m_walk_Down (some ⟨p, 0, none⟩) (n : Int) (fun r => mRangeF (A := Int) Tryz.prog (fun x => [(Value.int .i64 x)]) r.1 body k) h := by
  unfold m_walk_Down m_walk_told
  refine w_new fun b1 hb1 => w_new fun b2 hb2 => w_new fun b3 hb3 => ?_
  generalize eh1 : upd h b1 (.cells #[Value.pointer (some ⟨p, 0, none⟩)] N_P_kin_Tree (0, 0)) = h1 at *
  generalize eh2 : upd h1 b2 (.cells #[Value.int .i64 (n : Int)] 3 (0, 0)) = h2 at *
  generalize eh3 : upd h2 b3 _ = h3
  have k1 : Keeps h h1 := eh1 ▸ .new hb1
  have k2 : Keeps h1 h2 := eh2 ▸ .new hb2
  have k3 : Keeps h2 h3 := eh3 ▸ .new hb3
  have c1 : h1 b1 = some (.cells #[Value.pointer (some ⟨p, 0, none⟩)] N_P_kin_Tree (0, 0)) := by rw [← eh1]; exact upd_same _ _ _
  have c2 : h2 b2 = some (.cells #[Value.int .i64 (n : Int)] 3 (0, 0)) := by rw [← eh2]; exact upd_same _ _ _
  have c3 : h3 b3 = some (.cells #[Value.func (.func 177) #[] #[(Value.pointer (some ⟨b1, 0, none⟩)), (Value.pointer (some ⟨b2, 0, none⟩))]] 78 (0, 0)) := by rw [← eh3]; exact upd_same _ _ _
  have k03 : Keeps h h3 := (k1.trans k2).trans k3
  refine ⟨210, Tryz.f210, #[], #[.pointer (some ⟨b3, 0, none⟩)], rfl, callee210, fun w ob bz hw law => ?_⟩
  have kw : Keeps h3 (upd h3 w (ob 0)) := .new hw
  suffices hm : m_walk_told_1 (⟨.func (.yield w) #[] #[], rfl, rfl⟩ : PV) ⟨b3, 0, none⟩ (fun _ h'' => ∃ j, h'' w = some (ob j) ∧ ∀ o, k j (upd h'' w o)) (upd h3 w (ob 0)) from
    (s_walk_told_1.ok ((⟨.func (.yield w) #[] #[], rfl, rfl⟩ : PV), (⟨b3, 0, none⟩ : Addr)) (fun _ h'' => ∃ j, h'' w = some (ob j) ∧ ∀ o, k j (upd h'' w o)) _ hm).mono (fun v h'' ⟨_, _, q⟩ => q) fun _ _ q => q
  unfold m_walk_told_1
  have a3 := kw _ _ c3
  refine w_load (v := (⟨Value.func (.func 177) #[] #[(Value.pointer (some ⟨b1, 0, none⟩)), (Value.pointer (some ⟨b2, 0, none⟩))], rfl, rfl⟩ : PV)) (At.own (l1 := []) (l3 := []) a3 rfl) ?_
  have use : ∀ {K : Sl → H → Prop} {h' : H}, m_walk_Down_1 (⟨b1, 0, none⟩ : Addr) (⟨b2, 0, none⟩ : Addr) K h' → mCallV (T := Sl) Tryz.prog (fun r => Sl.val r) (.func (.func 177) #[] #[(Value.pointer (some ⟨b1, 0, none⟩)), (Value.pointer (some ⟨b2, 0, none⟩))]) [] K h' := fun hm =>
    callV_of s_walk_Down_1 (first := #[]) (cap := #[(Value.pointer (some ⟨b1, 0, none⟩)), (Value.pointer (some ⟨b2, 0, none⟩))]) (args := []) ((⟨b1, 0, none⟩ : Addr), (⟨b2, 0, none⟩ : Addr)) rfl hm
  refine use ?_
  unfold m_walk_Down_1
  refine w_load (v := some ⟨p, 0, none⟩) (cells := cPtr) (At.own (l1 := []) (l3 := []) (kw _ _ (k3 _ _ (k2 _ _ c1))) rfl) (w_load (v := (n : Int)) (cells := cInt .i64) (At.own (l1 := []) (l3 := []) (kw _ _ (k3 _ _ c2)) rfl) ?_)
  refine t_down ((x.keep k03).keep kw) (turn := false) (fun _ => rfl) hl live len fun s4 h4 bu4 k4 f4 => ?_
  have hw0 : h w = none := k03.fresh hw
  have hw4 : h4 w = some (ob 0) := k4 _ _ (upd_same _ _ _)
  have nG : ∀ c, G0 c → c ≠ w := fun c g e => has _ _ _ j0 c g (e ▸ hw0)
  refine w_for l.length (fun i z h' => z = (i : Int) ∧ i ≤ l.length ∧ ∃ G, J G i h' ∧ KChg G0 G h h' ∧ h' w = some (ob 0) ∧ ¬ G w ∧ Buf (cInt .i64) 1 N_int h' s4 l ∧ ∀ c, s4.foot c → ¬ G c) ?_ ?_
  rotate_left
  · refine ⟨rfl, Nat.zero_le _, G0, stab _ _ _ _ (fun _ => False) j0 (.of ((k03.trans kw).trans k4)) (fun _ q => q.elim), ⟨.of ((k03.trans kw).trans k4), fun c g => .inl g, fun c q => ((k03.trans kw).trans k4).fresh q⟩, hw4, fun g => nG _ g rfl, bu4, fun c f g => ?_⟩
    exact has _ _ _ j0 c g (k03.fresh (kw.fresh (f4 c f)))
  rintro rec i z h' hi ⟨rfl, _, G, jg, kg, hw', gw, bu, fg⟩ more
  have hl4 := bu.len
  have fw : ¬ s4.foot w := fun f => by have := f4 w f; rw [upd_same] at this; cases this
  refine w_if' (fun c => ?_) fun c => ?_
  · have c : (i : Int) < (s4.len : Int) := c
    have hil : i < l.length := by omega
    have hz := List.getElem?_eq_getElem hil
    refine w_idx ci_len bu.arr hz rfl fun a _ ha => w_load ha ?_
    obtain ⟨zn, hzn⟩ : ∃ zn : Nat, l[i] = (zn : Int) := by
      obtain ⟨j, _, e, _⟩ := hasN_nat (live _ (List.getElem_mem hil))
      exact ⟨j, e⟩
    rw [hzn] at hz ⊢
    refine .inr ⟨w, rfl, law (zn : Int) _ h' hw' ?_⟩
    rw [hb]
    refine ⟨hw', ?_⟩
    have bE : But (fun c => c = w) h' (upd h' w bz) := .upd rfl
    refine step i zn hz G _ _ (stab _ _ _ _ _ jg bE fun c q g => gw (q ▸ g)) fun G' h'' jg' kg' => ?_
    have gw' : ¬ G' w := fun g => (kg'.foot w g).elim gw fun q => by rw [upd_same] at q; cases q
    have hwz : h'' w = some bz := kg'.but w bz (upd_same _ _ _) gw
    refine ⟨hwz, ?_⟩
    have bE2 : But (fun c => c = w) h'' (upd h'' w (ob 0)) := .upd rfl
    have dm : ∀ c, upd h'' w (ob 0) c = none → h' c = none := fun c q => (upd_none.1 (kg'.dom c (upd_none.1 q).2)).2
    have kgg : KChg G G' h' (upd h'' w (ob 0)) := ⟨fun b o' e ng => ?_, fun c g => (kg'.foot c g).imp id fun q => (upd_none.1 q).2, dm⟩
    · refine w_ifF rfl (more _ _ hil ⟨ia1 i (by omega), by omega, G', stab _ _ _ _ _ jg' bE2 (fun c q g => gw' (q ▸ g)), kg.trans kgg, upd_same _ _ _, gw', bu.but kgg.but fun a ha f => fg _ ⟨a, ha, rfl⟩ f, fun c f g => ?_⟩)
      rcases kgg.foot c g with q | q
      · exact fg c f q
      · exact bu.has f q
    · by_cases q : b = w
      · subst q; rw [hw'] at e; cases e; exact upd_same _ _ _
      · rw [upd_ne _ _ q]
        exact kg'.but b o' (by rw [upd_ne _ _ q]; exact e) ng
  · have c : ¬ (i : Int) < (s4.len : Int) := c
    obtain rfl : i = l.length := by omega
    refine ⟨0, hw', fun o => y G _ (stab _ _ _ _ (· = w) jg (.upd rfl) fun c q g => gw (q ▸ g)) ⟨fun b o' e ng => ?_, kg.foot, fun c q => kg.dom c (upd_none.1 q).2⟩⟩
    have hbw : b ≠ w := fun q => by rw [q, hw0] at e; cases e
    rw [upd_ne _ _ hbw]; exact kg.but b o' e ng
end
end Go.Proofs.YtcclfjhnpeappaaGreat.K
namespace Go.Proofs.YtcclfjhnpeappaaGreat.K
open Go Go.Proofs
def m_catalogue_New (a0 : Int) (a1 : Int) (K : (Option Addr × Int) → H → Prop) : H → Prop :=
 mIf ((((decide (a0 < 1)) || (decide (256 < a0))) || (decide (a1 < 0))) || (decide (64 < a1))) (
 K (none, 16)
 ) (
 m_slots_New_int a0 a1 fun r1 =>
 mIf (!decide (r1.2 = 0)) (
 K (none, r1.2)
 ) (
 m_kin_New a0 fun r2 =>
 mIf (!decide (r2.2 = 0)) (
 K (none, r2.2)
 ) (
 mJoin (fun (s3 : Sl × Sl × Option Nat × Option Nat) =>
 mNew 182 #[(Value.pointer r1.1), (Value.pointer r2.1), (Sl.val s3.1), (Sl.val s3.2.1), (Value.map s3.2.2.1), (Value.map s3.2.2.2)] fun ad65 =>
 K ((some ad65), 0)
 ) (fun j4 =>
 mBoth (
 mMake 82 40 #[(Value.int .i64 0), (Value.int .u64 0), (Value.int .u64 0), (Value.int .i64 0), (Value.int .i64 0)] a0 a0 fun s5 =>
 mBoth (
 mMake 4 1 #[(Value.bool false)] a0 a0 fun s6 =>
 mMakeMap fun m7 =>
 mMakeMap fun m8 =>
 j4 (s5, s6, m7, m8)
 ) (
 mBoth (
 mMakeMap fun m9 =>
 mBoth (
 mMake 4 1 #[(Value.bool false)] a0 a0 fun s10 =>
 mMakeMap fun m11 =>
 j4 (s5, s10, m9, m11)
 ) (
 mMakeMap fun m12 =>
 mMake 4 1 #[(Value.bool false)] a0 a0 fun s13 =>
 j4 (s5, s13, m9, m12)
 )
 ) (
 mMakeMap fun m14 =>
 mBoth (
 mMake 4 1 #[(Value.bool false)] a0 a0 fun s15 =>
 mMakeMap fun m16 =>
 j4 (s5, s15, m16, m14)
 ) (
 mMakeMap fun m17 =>
 mMake 4 1 #[(Value.bool false)] a0 a0 fun s18 =>
 j4 (s5, s18, m17, m14)
 )
 )
 )
 ) (
 mBoth (
 mMake 4 1 #[(Value.bool false)] a0 a0 fun s19 =>
 mBoth (
 mMake 82 40 #[(Value.int .i64 0), (Value.int .u64 0), (Value.int .u64 0), (Value.int .i64 0), (Value.int .i64 0)] a0 a0 fun s20 =>
 mMakeMap fun m21 =>
 mMakeMap fun m22 =>
 j4 (s20, s19, m21, m22)
 ) (
 mBoth (
 mMakeMap fun m23 =>
 mBoth (
 mMake 82 40 #[(Value.int .i64 0), (Value.int .u64 0), (Value.int .u64 0), (Value.int .i64 0), (Value.int .i64 0)] a0 a0 fun s24 =>
 mMakeMap fun m25 =>
 j4 (s24, s19, m23, m25)
 ) (
 mMakeMap fun m26 =>
 mMake 82 40 #[(Value.int .i64 0), (Value.int .u64 0), (Value.int .u64 0), (Value.int .i64 0), (Value.int .i64 0)] a0 a0 fun s27 =>
 j4 (s27, s19, m23, m26)
 )
 ) (
 mMakeMap fun m28 =>
 mBoth (
 mMake 82 40 #[(Value.int .i64 0), (Value.int .u64 0), (Value.int .u64 0), (Value.int .i64 0), (Value.int .i64 0)] a0 a0 fun s29 =>
 mMakeMap fun m30 =>
 j4 (s29, s19, m30, m28)
 ) (
 mMakeMap fun m31 =>
 mMake 82 40 #[(Value.int .i64 0), (Value.int .u64 0), (Value.int .u64 0), (Value.int .i64 0), (Value.int .i64 0)] a0 a0 fun s32 =>
 j4 (s32, s19, m31, m28)
 )
 )
 )
 ) (
 mBoth (
 mMakeMap fun m33 =>
 mBoth (
 mMake 82 40 #[(Value.int .i64 0), (Value.int .u64 0), (Value.int .u64 0), (Value.int .i64 0), (Value.int .i64 0)] a0 a0 fun s34 =>
 mBoth (
 mMake 4 1 #[(Value.bool false)] a0 a0 fun s35 =>
 mMakeMap fun m36 =>
 j4 (s34, s35, m33, m36)
 ) (
 mMakeMap fun m37 =>
 mMake 4 1 #[(Value.bool false)] a0 a0 fun s38 =>
 j4 (s34, s38, m33, m37)
 )
 ) (
 mBoth (
 mMake 4 1 #[(Value.bool false)] a0 a0 fun s39 =>
 mBoth (
 mMake 82 40 #[(Value.int .i64 0), (Value.int .u64 0), (Value.int .u64 0), (Value.int .i64 0), (Value.int .i64 0)] a0 a0 fun s40 =>
 mMakeMap fun m41 =>
 j4 (s40, s39, m33, m41)
 ) (
 mMakeMap fun m42 =>
 mMake 82 40 #[(Value.int .i64 0), (Value.int .u64 0), (Value.int .u64 0), (Value.int .i64 0), (Value.int .i64 0)] a0 a0 fun s43 =>
 j4 (s43, s39, m33, m42)
 )
 ) (
 mMakeMap fun m44 =>
 mBoth (
 mMake 82 40 #[(Value.int .i64 0), (Value.int .u64 0), (Value.int .u64 0), (Value.int .i64 0), (Value.int .i64 0)] a0 a0 fun s45 =>
 mMake 4 1 #[(Value.bool false)] a0 a0 fun s46 =>
 j4 (s45, s46, m33, m44)
 ) (
 mMake 4 1 #[(Value.bool false)] a0 a0 fun s47 =>
 mMake 82 40 #[(Value.int .i64 0), (Value.int .u64 0), (Value.int .u64 0), (Value.int .i64 0), (Value.int .i64 0)] a0 a0 fun s48 =>
 j4 (s48, s47, m33, m44)
 )
 )
 )
 ) (
 mMakeMap fun m49 =>
 mBoth (
 mMake 82 40 #[(Value.int .i64 0), (Value.int .u64 0), (Value.int .u64 0), (Value.int .i64 0), (Value.int .i64 0)] a0 a0 fun s50 =>
 mBoth (
 mMake 4 1 #[(Value.bool false)] a0 a0 fun s51 =>
 mMakeMap fun m52 =>
 j4 (s50, s51, m52, m49)
 ) (
 mMakeMap fun m53 =>
 mMake 4 1 #[(Value.bool false)] a0 a0 fun s54 =>
 j4 (s50, s54, m53, m49)
 )
 ) (
 mBoth (
 mMake 4 1 #[(Value.bool false)] a0 a0 fun s55 =>
 mBoth (
 mMake 82 40 #[(Value.int .i64 0), (Value.int .u64 0), (Value.int .u64 0), (Value.int .i64 0), (Value.int .i64 0)] a0 a0 fun s56 =>
 mMakeMap fun m57 =>
 j4 (s56, s55, m57, m49)
 ) (
 mMakeMap fun m58 =>
 mMake 82 40 #[(Value.int .i64 0), (Value.int .u64 0), (Value.int .u64 0), (Value.int .i64 0), (Value.int .i64 0)] a0 a0 fun s59 =>
 j4 (s59, s55, m58, m49)
 )
 ) (
 mMakeMap fun m60 =>
 mBoth (
 mMake 82 40 #[(Value.int .i64 0), (Value.int .u64 0), (Value.int .u64 0), (Value.int .i64 0), (Value.int .i64 0)] a0 a0 fun s61 =>
 mMake 4 1 #[(Value.bool false)] a0 a0 fun s62 =>
 j4 (s61, s62, m60, m49)
 ) (
 mMake 4 1 #[(Value.bool false)] a0 a0 fun s63 =>
 mMake 82 40 #[(Value.int .i64 0), (Value.int .u64 0), (Value.int .u64 0), (Value.int .i64 0), (Value.int .i64 0)] a0 a0 fun s64 =>
 j4 (s64, s63, m60, m49)
 )
 )
 )
 )
 )
 ))
 )
 )
 )
def x_catalogue_New : Cx Tryz.prog := ⟨tys, [s_slots_New_int, s_kin_New], [], [], mixed⟩
def h_catalogue_New : Hint := (.seq .d (.seq (.seq (.reg (.run [3, 7, 11] (.sel 11 14 28672 (.run [15, 19, 23] .nil) (.run [15, 19, 23] .nil) (.run [27] (.sel 15 18 458752 (.run [31, 35, 39] .nil) (.run [31, 35, 39] .nil) (.run [43] (.sel 19 22 7340032 (.run [47, 51, 55] .nil) (.run [47, 51, 55] .nil) .nil))))))) .d) (.seq .d (.seq .d (.seq .d (.seq .d (.seq (.reg (.run [0, 4, 8, 12, 20] (.join [.slot 44 tSl, .slot 46 tSl, .slot 47 tMap, .slot 48 tMap] 510173395288064 [] (.alt 4 (.alt 6 (.run [30, 34] .nil) (.both 7 8 (.both 6 8 (.run [34] .nil) (.run [27] .nil)) (.both 6 7 (.run [30] .nil) (.run [27] .nil)))) (.alt 6 (.alt 4 (.run [30, 34] .nil) (.both 7 8 (.both 4 8 (.run [34] .nil) (.run [19] .nil)) (.both 4 7 (.run [30] .nil) (.run [19] .nil)))) (.both 7 8 (.alt 4 (.both 6 8 (.run [34] .nil) (.run [27] .nil)) (.both 6 8 (.both 4 8 (.run [34] .nil) (.run [19] .nil)) (.both 4 6 (.run [27] .nil) (.run [19] .nil)))) (.alt 4 (.both 6 7 (.run [30] .nil) (.run [27] .nil)) (.both 6 7 (.both 4 7 (.run [30] .nil) (.run [19] .nil)) (.both 4 6 (.run [27] .nil) (.run [19] .nil))))))) (.run [36, 42, 44, 48] .nil)))) .d)))))))
def s_catalogue_New : Spec Tryz.prog := mkSpec x_catalogue_New 72 Tryz.f72 [(tInt .i64), (tInt .i64)] [tPtr, (tInt .i64)] false h_catalogue_New (fun a => m_catalogue_New a.1 a.2) (fun a K h => by kernel_rfl) callee72 rfl
def m_catalogue_Catalogue_Find (a0 : Option Addr) (a1 : S_api_Cap) (K : (Int × Bool) → H → Prop) : H → Prop :=
 mDeref a0 fun ad1 =>
 mLoad cPtr ((ad1.add 0).add 0) fun x2 =>
 m_slots_Table_int_Get x2 a1 fun r3 =>
 K (r3.1, r3.2)
def x_catalogue_Catalogue_Find : Cx Tryz.prog := ⟨tys, [s_slots_Table_int_Get], [3], [], mixed⟩
def h_catalogue_Catalogue_Find : Hint := (.seq .d (.seq (.reg (.run [0, 4, 8, 12, 21, 18, 27, 28, 32, 36, 40] .nil)) .d))
def s_catalogue_Catalogue_Find : Spec Tryz.prog := mkSpec x_catalogue_Catalogue_Find 33 Tryz.f33 [tPtr, S_api_Cap.ty] [(tInt .i64), tBool] false h_catalogue_Catalogue_Find (fun a => m_catalogue_Catalogue_Find a.1 a.2) (fun a K h => by kernel_rfl) callee33 rfl
def m_catalogue_Catalogue_At (a0 : Option Addr) (a1 : Int) (K : (S_api_Token × Bool) → H → Prop) : H → Prop :=
 mJoin (fun (s3 : Bool) =>
 mJoin (fun (s9 : Bool) =>
 mIf s9 (
 K ((⟨⟨0, ⟨0, 0⟩⟩, 0, 0⟩ : S_api_Token), false)
 ) (
 mDeref a0 fun ad11 =>
 mLoad cSl (ad11.add 2) fun x12 =>
 mIdx x12 a1 5 fun ad13 =>
 mLoad S_api_Token.cells ad13 fun x14 =>
 K (x14, true)
 )
 ) (fun j10 =>
 mIf s3 (
 j10 true
 ) (
 mDeref a0 fun ad15 =>
 mLoad cSl (ad15.add 3) fun x16 =>
 mIdx x16 a1 1 fun ad17 =>
 mLoad cBool ad17 fun x18 =>
 j10 (!x18)
 ))
 ) (fun j4 =>
 mIf (decide (a1 < 0)) (
 j4 true
 ) (
 mDeref a0 fun ad19 =>
 mLoad cSl (ad19.add 3) fun x20 =>
 j4 (decide ((x20.len : Int) ≤ a1))
 ))
def x_catalogue_Catalogue_At : Cx Tryz.prog := ⟨tys, [], [4], [], mixed⟩
def h_catalogue_Catalogue_At : Hint := (.seq .d (.seq (.seq (.reg (.run [3, 7, 11] (.join [.slot 16 tBool] 130560 [] (.split 8 (.run [15, 19, 23, 27, 31, 35, 39, 43] .nil) (.run [15, 19, 23, 27, 31, 35, 39, 43] .nil)) (.run [47] (.join [.slot 26 tBool] 133955584 [] (.split 17 (.run [51, 55, 59, 63, 67, 71, 75, 79, 83] .nil) (.run [51, 55, 59, 63, 67, 71, 75, 79, 83] .nil)) .nil))))) .d) .d))
def s_catalogue_Catalogue_At : Spec Tryz.prog := mkSpec x_catalogue_Catalogue_At 85 Tryz.f85 [tPtr, (tInt .i64)] [S_api_Token.ty, tBool] false h_catalogue_Catalogue_At (fun a => m_catalogue_Catalogue_At a.1 a.2) (fun a K h => by kernel_rfl) callee85 rfl
def m_catalogue_Catalogue_Drop (a0 : Option Addr) (a1 : Int) (K : (Sl × Int) → H → Prop) : H → Prop :=
 mNew 67 #[(Value.pointer a0)] fun ad1 =>
 mLoad cPtr ad1 fun x2 =>
 m_catalogue_Catalogue_At x2 a1 fun r3 =>
 mNew 82 #[(Value.int .i64 0), (Value.int .u64 0), (Value.int .u64 0), (Value.int .i64 0), (Value.int .i64 0)] fun ad4 =>
 mStore ad4 [(Value.int .i64 r3.1.Cap.Obj), (Value.int .u64 r3.1.Cap.Pass.Hi), (Value.int .u64 r3.1.Cap.Pass.Lo), (Value.int .i64 r3.1.Rights), (Value.int .i64 r3.1.Parent)] <|
 mIf (!r3.2) (
 K (Sl.nil, 20)
 ) (
 mNew 64 #[(Sl.val Sl.nil)] fun ad5 =>
 mLoad cPtr ad1 fun x6 =>
 mDeref x6 fun ad7 =>
 mLoad cPtr ((ad7.add 0).add 1) fun x8 =>
 m_walk_Down x8 a1 fun r9 =>
 mRangeF (A := Int) Tryz.prog (fun x => [(Value.int .i64 x)]) r9.1 (fun x10 mid11 kj12 =>
 mid11 (
 mLoad cSl ad5 fun x14 =>
 mLoad cPtr ad1 fun x15 =>
 mDeref x15 fun ad16 =>
 mLoad cSl (ad16.add 2) fun x17 =>
 mIdx x17 x10 5 fun ad18 =>
 mLoad S_api_Cap.cells (ad18.add 0) fun x19 =>
 mNew 38 #[(Value.int .i64 x19.Obj), (Value.int .u64 x19.Pass.Hi), (Value.int .u64 x19.Pass.Lo)] fun ad20 =>
 mAppend 38 3 24 #[(Value.int .i64 0), (Value.int .u64 0), (Value.int .u64 0)] x14 (⟨some ad20, 1, 1⟩ : Sl) fun s21 =>
 mStore ad5 [(Sl.val s21)] <|
 kj12 0
 )
 ) (fun j13 =>
 mIf (Nat.beq j13 0) (
 mLoad cPtr ad1 fun x22 =>
 mDeref x22 fun ad23 =>
 mLoad cPtr ((ad23.add 0).add 1) fun x24 =>
 m_walk_Fall x24 a1 fun r25 =>
 mLoop (fun (rec27 : Int → H → Prop) (s26 : Int) =>
 mIf (decide (s26 < (r25.len : Int))) (
 mIdx r25 s26 1 fun ad28 =>
 mLoad (cInt .i64) ad28 fun x29 =>
 mLoad cPtr ad1 fun x30 =>
 mDeref x30 fun ad31 =>
 mLoad cPtr ((ad31.add 0).add 1) fun x32 =>
 m_kin_Tree_Cut x32 x29 fun _ =>
 mLoad cPtr ad1 fun x34 =>
 mDeref x34 fun ad35 =>
 mLoad cPtr ((ad35.add 0).add 0) fun x36 =>
 mLoad cPtr ad1 fun x37 =>
 mDeref x37 fun ad38 =>
 mLoad cSl (ad38.add 2) fun x39 =>
 mIdx x39 x29 5 fun ad40 =>
 mLoad S_api_Cap.cells (ad40.add 0) fun x41 =>
 m_slots_Table_int_Drop x36 x41 fun _ =>
 mLoad cPtr ad1 fun x43 =>
 mDeref x43 fun ad44 =>
 mLoad cSl (ad44.add 3) fun x45 =>
 mIdx x45 x29 1 fun ad46 =>
 mStore ad46 [(Value.bool false)] <|
 rec27 (iAdd .i64 s26 1)
 ) (
 mJoin (fun (_s47 : Unit) =>
 mLoad cSl ad5 fun x49 =>
 K (x49, 0)
 ) (fun j48 =>
 mLoad cPtr ad1 fun x50 =>
 mDeref x50 fun ad51 =>
 mLoad cMap (ad51.add 5) fun x52 =>
 mLoad (cInt .i64) ((ad4.add 0).add 0) fun x53 =>
 mLookup (eqV Tryz.prog 40 3) (Value.int .i64) 0 x52 (Value.int .i64 x53) fun r54 =>
 mLoad cSl ad5 fun x55 =>
 mMapSet (eqV Tryz.prog 40 3) x52 (Value.int .i64 x53) (Value.int .i64 (iSub .i64 r54.1 (x55.len : Int))) <|
 mLoad cPtr ad1 fun x56 =>
 mDeref x56 fun ad57 =>
 mLoad cMap (ad57.add 5) fun x58 =>
 mLoad (cInt .i64) ((ad4.add 0).add 0) fun x59 =>
 mLookup (eqV Tryz.prog 40 3) (Value.int .i64) 0 x58 (Value.int .i64 x59) fun r60 =>
 mIf (decide (r60.1 = 0)) (
 mLoad cPtr ad1 fun x61 =>
 mDeref x61 fun ad62 =>
 mLoad cMap (ad62.add 5) fun x63 =>
 mLoad (cInt .i64) ((ad4.add 0).add 0) fun x64 =>
 mMapDel (eqV Tryz.prog 40 3) x63 (Value.int .i64 x64) <|
 mLoad cPtr ad1 fun x65 =>
 mDeref x65 fun ad66 =>
 mLoad cMap (ad66.add 4) fun x67 =>
 mLoad (cInt .i64) ((ad4.add 0).add 0) fun x68 =>
 mMapDel (eqV Tryz.prog 40 3) x67 (Value.int .i64 x68) <|
 j48 ()
 ) (
 j48 ()
 )
 )
 )
 ) 0
 ) (
 nope))
 )
def x_catalogue_Catalogue_Drop : Cx Tryz.prog := ⟨tys, [s_catalogue_Catalogue_At, s_walk_Down, s_walk_Fall, s_kin_Tree_Cut, s_slots_Table_int_Drop], [], [], mixed⟩
def h_catalogue_Catalogue_Drop : Hint := (.seq .d (.seq .d (.seq .d (.seq .d (.seq (.seq .d (.blk (.rng [(tInt .i64)] [] false .d (.blk (.reg (.run [20, 2, 6, 8, 12, 18, 24, 28, 34, 38, 43, 47] .nil)))))) (.seq (.seq .d (.blk (.loop [.slot 47 (tInt .i64)] 604462909666577098999808 [] (.seq .d (.seq .d (.seq (.blk (.seq .d (.seq .d (.seq (.reg (.run [36, 2, 4, 8, 12, 18, 22, 24, 28, 34, 40, 44, 50, 55] .nil)) .d)))) .d)))))) (.join [] 10384593716465192347253678071087104 [] (.seq (.reg (.run [16, 20, 2, 4, 8, 14, 26, 30, 34, 36, 40, 47] .nil)) (.seq (.reg (.run [16, 20, 2, 4, 8, 14, 26, 30, 32] .nil)) (.cond (.seq (.reg (.run [16, 20, 2, 4, 8, 14, 26, 31] .nil)) (.reg (.run [16, 20, 2, 4, 8, 14, 26, 31] .nil))) .d))) .d)))))))
def s_catalogue_Catalogue_Drop : Spec Tryz.prog := mkSpec x_catalogue_Catalogue_Drop 148 Tryz.f148 [tPtr, (tInt .i64)] [tSl, (tInt .i64)] false h_catalogue_Catalogue_Drop (fun a => m_catalogue_Catalogue_Drop a.1 a.2) (fun a K h => by kernel_rfl) callee148 rfl
def m_catalogue_Catalogue_free (a0 : Option Addr) (K : (Int) → H → Prop) : H → Prop :=
 mDeref a0 fun ad1 =>
 mLoad cSl (ad1.add 3) fun x2 =>
 mLoop (fun (rec4 : Int → H → Prop) (s3 : Int) =>
 mIf (decide (s3 < (x2.len : Int))) (
 mIdx x2 s3 1 fun ad5 =>
 mLoad cBool ad5 fun x6 =>
 mIf (!x6) (
 K s3
 ) (
 rec4 (iAdd .i64 s3 1)
 )
 ) (
 K (-1)
 )
 ) 0
def x_catalogue_Catalogue_free : Cx Tryz.prog := ⟨tys, [], [], [], mixed⟩
def h_catalogue_Catalogue_free : Hint := (.seq .d (.seq (.seq .d (.blk (.loop [.slot 10 (tInt .i64)] 523292 [] .d))) .d))
def s_catalogue_Catalogue_free : Spec Tryz.prog := mkSpec x_catalogue_Catalogue_free 160 Tryz.f160 [tPtr] [(tInt .i64)] false h_catalogue_Catalogue_free (fun a => m_catalogue_Catalogue_free a) (fun a K h => by kernel_rfl) callee160 rfl
def m_catalogue_Catalogue_put (a0 : Option Addr) (a1 : Int) (a2 : S_api_Token) (K : (Unit) → H → Prop) : H → Prop :=
 mDeref a0 fun ad1 =>
 mLoad cPtr ((ad1.add 0).add 0) fun x2 =>
 m_slots_Table_int_Put x2 a2.Cap a1 fun _ =>
 mDeref a0 fun ad4 =>
 mDeref a0 fun ad5 =>
 mLoad cSl (ad4.add 2) fun x6 =>
 mLoad cSl (ad5.add 3) fun x7 =>
 mIdx x6 a1 5 fun ad8 =>
 mStore ad8 [(Value.int .i64 a2.Cap.Obj), (Value.int .u64 a2.Cap.Pass.Hi), (Value.int .u64 a2.Cap.Pass.Lo), (Value.int .i64 a2.Rights), (Value.int .i64 a2.Parent)] <|
 mIdx x7 a1 1 fun ad9 =>
 mStore ad9 [(Value.bool true)] <|
 mDeref a0 fun ad10 =>
 mLoad cMap (ad10.add 5) fun x11 =>
 mLookup (eqV Tryz.prog 40 3) (Value.int .i64) 0 x11 (Value.int .i64 a2.Cap.Obj) fun r12 =>
 mMapSet (eqV Tryz.prog 40 3) x11 (Value.int .i64 a2.Cap.Obj) (Value.int .i64 (iAdd .i64 r12.1 1)) <|
 K ()
def x_catalogue_Catalogue_put : Cx Tryz.prog := ⟨tys, [s_slots_Table_int_Put], [5], [], mixed⟩
def h_catalogue_Catalogue_put : Hint := (.seq .d (.seq (.reg (.run [0, 4, 8, 12, 20, 28, 25, 18, 35] .nil)) (.seq (.reg (.run [0, 4, 8, 16, 20, 24, 28, 36, 41, 14, 34, 44, 51, 52, 59] .nil)) (.reg (.run [0, 4, 8, 16, 20, 25, 14, 30, 32, 39] .nil)))))
def s_catalogue_Catalogue_put : Spec Tryz.prog := mkSpec x_catalogue_Catalogue_put 163 Tryz.f163 [tPtr, (tInt .i64), S_api_Token.ty] [] false h_catalogue_Catalogue_put (fun a => m_catalogue_Catalogue_put a.1 a.2.1 a.2.2) (fun a K h => by kernel_rfl) callee163 rfl
def m_catalogue_Catalogue_Root (a0 : Option Addr) (a1 : S_api_Cap) (a2 : Int) (K : (Int × Int) → H → Prop) : H → Prop :=
 m_catalogue_Catalogue_free a0 fun r1 =>
 mPure (m_mask_Valid a2) fun r2 =>
 mIf (!r2) (
 K (0, 4)
 ) (
 mDeref a0 fun ad3 =>
 mLoad cMap (ad3.add 5) fun x4 =>
 mLookup (eqV Tryz.prog 40 3) (Value.int .i64) 0 x4 (Value.int .i64 a1.Obj) fun r5 =>
 mIf (decide (0 < r5.1)) (
 K (0, 19)
 ) (
 mIf (decide (r1 < 0)) (
 K (0, 10)
 ) (
 mDeref a0 fun ad6 =>
 mLoad cPtr ((ad6.add 0).add 1) fun x7 =>
 m_kin_Tree_Root x7 r1 fun _ =>
 m_catalogue_Catalogue_put a0 r1 (⟨⟨a1.Obj, ⟨a1.Pass.Hi, a1.Pass.Lo⟩⟩, a2, (-1)⟩ : S_api_Token) fun _ =>
 mDeref a0 fun ad10 =>
 mLoad cMap (ad10.add 4) fun x11 =>
 mMapSet (eqV Tryz.prog 40 3) x11 (Value.int .i64 a1.Obj) (Value.int .i64 r1) <|
 K (r1, 0)
 )
 )
 )
def x_catalogue_Catalogue_Root : Cx Tryz.prog := ⟨tys, [s_catalogue_Catalogue_free, s_mask_Valid, s_kin_Tree_Root, s_catalogue_Catalogue_put], [4], [], mixed⟩
def h_catalogue_Catalogue_Root : Hint := (.seq .d (.seq .d (.seq (.blk (.seq .d (.cond .d (.seq (.reg (.run [0, 4, 8, 16, 21, 14, 26, 28, 32] .nil)) .d)))) (.seq .d (.seq .d (.seq (.reg (.run [0, 4, 8, 16, 24, 21, 14, 31] .nil)) .d))))))
def s_catalogue_Catalogue_Root : Spec Tryz.prog := mkSpec x_catalogue_Catalogue_Root 90 Tryz.f90 [tPtr, S_api_Cap.ty, (tInt .i64)] [(tInt .i64), (tInt .i64)] false h_catalogue_Catalogue_Root (fun a => m_catalogue_Catalogue_Root a.1 a.2.1 a.2.2) (fun a K h => by kernel_rfl) callee90 rfl
def m_catalogue_Catalogue_Child (a0 : Option Addr) (a1 : Int) (a2 : S_api_Cap) (a3 : Int) (K : (Int × Int) → H → Prop) : H → Prop :=
 m_catalogue_Catalogue_At a0 a1 fun r1 =>
 mIf (!r1.2) (
 K (0, 20)
 ) (
 mDeref a0 fun ad2 =>
 mLoad cPtr ((ad2.add 0).add 0) fun x3 =>
 m_slots_Table_int_Get x3 a2 fun r4 =>
 m_catalogue_Catalogue_free a0 fun r5 =>
 mIf (!decide (r1.1.Cap.Obj = a2.Obj)) (
 K (0, 3)
 ) (
 mPure (m_mask_Part a3 r1.1.Rights) fun r6 =>
 mIf (!r6) (
 K (0, 4)
 ) (
 mIf r4.2 (
 K (0, 19)
 ) (
 mIf (decide (r5 < 0)) (
 K (0, 10)
 ) (
 mDeref a0 fun ad7 =>
 mLoad cPtr ((ad7.add 0).add 1) fun x8 =>
 m_kin_Tree_Child x8 a1 r5 fun _ =>
 m_catalogue_Catalogue_put a0 r5 (⟨⟨a2.Obj, ⟨a2.Pass.Hi, a2.Pass.Lo⟩⟩, a3, a1⟩ : S_api_Token) fun _ =>
 K (r5, 0)
 )
 )
 )
 )
 )
def x_catalogue_Catalogue_Child : Cx Tryz.prog := ⟨tys, [s_catalogue_Catalogue_At, s_slots_Table_int_Get, s_mask_Part, s_catalogue_Catalogue_free, s_catalogue_Catalogue_put, s_kin_Tree_Child], [6, 10], [], mixed⟩
def h_catalogue_Catalogue_Child : Hint := (.seq .d (.seq .d (.seq .d (.seq (.reg (.run [0, 4, 8, 12, 21, 18, 27, 28, 32, 36, 40, 44] .nil)) .d))))
def s_catalogue_Catalogue_Child : Spec Tryz.prog := mkSpec x_catalogue_Catalogue_Child 95 Tryz.f95 [tPtr, (tInt .i64), S_api_Cap.ty, (tInt .i64)] [(tInt .i64), (tInt .i64)] false h_catalogue_Catalogue_Child (fun a => m_catalogue_Catalogue_Child a.1 a.2.1 a.2.2.1 a.2.2.2) (fun a K h => by kernel_rfl) callee95 rfl
def m_catalogue_Catalogue_Of (a0 : Option Addr) (a1 : Int) (K : (Sl) → H → Prop) : H → Prop :=
 mNew 67 #[(Value.pointer a0)] fun ad1 =>
 mLoad cPtr ad1 fun x2 =>
 mDeref x2 fun ad3 =>
 mLoad cMap (ad3.add 4) fun x4 =>
 mLookup (eqV Tryz.prog 40 3) (Value.int .i64) 0 x4 (Value.int .i64 a1) fun r5 =>
 mIf (!r5.2) (
 K Sl.nil
 ) (
 mNew 50 #[(Sl.val Sl.nil)] fun ad6 =>
 mMakeMap fun m7 =>
 mMapSet (eqV Tryz.prog 40 3) m7 (Value.int .i64 (-1)) (Value.int .i64 (-1)) <|
 mNew 180 #[(Value.map none)] fun ad8 =>
 mStore ad8 [(Value.map m7)] <|
 mLoad cPtr ad1 fun x9 =>
 mDeref x9 fun ad10 =>
 mLoad cPtr ((ad10.add 0).add 1) fun x11 =>
 m_walk_Down x11 r5.1 fun r12 =>
 mRangeF (A := Int) Tryz.prog (fun x => [(Value.int .i64 x)]) r12.1 (fun x13 mid14 kj15 =>
 mid14 (
 mLoad cPtr ad1 fun x17 =>
 mDeref x17 fun ad18 =>
 mLoad cSl (ad18.add 2) fun x19 =>
 mIdx x19 x13 5 fun ad20 =>
 mLoad S_api_Token.cells ad20 fun x21 =>
 mNew 82 #[(Value.int .i64 0), (Value.int .u64 0), (Value.int .u64 0), (Value.int .i64 0), (Value.int .i64 0)] fun ad22 =>
 mStore ad22 [(Value.int .i64 x21.Cap.Obj), (Value.int .u64 x21.Cap.Pass.Hi), (Value.int .u64 x21.Cap.Pass.Lo), (Value.int .i64 x21.Rights), (Value.int .i64 x21.Parent)] <|
 mLoad cMap ad8 fun x23 =>
 mLoad cSl ad6 fun x24 =>
 mMapSet (eqV Tryz.prog 40 3) x23 (Value.int .i64 x13) (Value.int .i64 (x24.len : Int)) <|
 mLoad cMap ad8 fun x25 =>
 mLoad (cInt .i64) (ad22.add 4) fun x26 =>
 mLookup (eqV Tryz.prog 40 3) (Value.int .i64) 0 x25 (Value.int .i64 x26) fun r27 =>
 mStore (ad22.add 4) [(Value.int .i64 r27.1)] <|
 mLoad cSl ad6 fun x28 =>
 mLoad S_api_Token.cells ad22 fun x29 =>
 mNew 82 #[(Value.int .i64 x29.Cap.Obj), (Value.int .u64 x29.Cap.Pass.Hi), (Value.int .u64 x29.Cap.Pass.Lo), (Value.int .i64 x29.Rights), (Value.int .i64 x29.Parent)] fun ad30 =>
 mAppend 82 5 40 #[(Value.int .i64 0), (Value.int .u64 0), (Value.int .u64 0), (Value.int .i64 0), (Value.int .i64 0)] x28 (⟨some ad30, 1, 1⟩ : Sl) fun s31 =>
 mStore ad6 [(Sl.val s31)] <|
 kj15 0
 )
 ) (fun j16 =>
 mIf (Nat.beq j16 0) (
 mLoad cSl ad6 fun x32 =>
 K x32
 ) (
 nope))
 )
def x_catalogue_Catalogue_Of : Cx Tryz.prog := ⟨tys, [s_walk_Down], [], [], mixed⟩
def h_catalogue_Catalogue_Of : Hint := (.seq .d (.seq .d (.seq .d (.seq .d (.seq .d (.seq (.seq .d (.blk (.rng [(tInt .i64)] [] false .d .d))) .d))))))
def s_catalogue_Catalogue_Of : Spec Tryz.prog := mkSpec x_catalogue_Catalogue_Of 30 Tryz.f30 [tPtr, (tInt .i64)] [tSl] false h_catalogue_Catalogue_Of (fun a => m_catalogue_Catalogue_Of a.1 a.2) (fun a K h => by kernel_rfl) callee30 rfl
def m_catalogue_Catalogue_Count (a0 : Option Addr) (K : (Int) → H → Prop) : H → Prop :=
 mDeref a0 fun ad1 =>
 mLoad cPtr ((ad1.add 0).add 0) fun x2 =>
 m_slots_Table_int_Len x2 fun r3 =>
 K r3
def x_catalogue_Catalogue_Count : Cx Tryz.prog := ⟨tys, [s_slots_Table_int_Len], [], [], mixed⟩
def h_catalogue_Catalogue_Count : Hint := .d
def s_catalogue_Catalogue_Count : Spec Tryz.prog := mkSpec x_catalogue_Catalogue_Count 98 Tryz.f98 [tPtr] [(tInt .i64)] false h_catalogue_Catalogue_Count (fun a => m_catalogue_Catalogue_Count a) (fun a K h => by kernel_rfl) callee98 rfl
end Go.Proofs.YtcclfjhnpeappaaGreat.K
