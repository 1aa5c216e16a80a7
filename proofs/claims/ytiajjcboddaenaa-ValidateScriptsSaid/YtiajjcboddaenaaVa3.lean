/- Desks: a catalogue and a validator over a cache. -/
import Derived.Test.YtiajjcboddaenaaVa2
import Derived.Test.YtiajjcboddaenaaFlaw19
import Derived.Test.YtiajjcboddaenaaFlaw19x2
namespace Go.Proofs.Ytiajjcboddaenaa.K
open Go
structure Desk (h : H) (d v p k q : Nat) (D : Nat → Prop) (es ec : List En) : Prop where
  ex : ∃ knob G, h d = some (.cells [Value.pointer (some ⟨p, 0, none⟩), Value.pointer (some ⟨v, 0, none⟩), Value.pointer (some ⟨q, 0, none⟩)].toArray 122 (0, 0)) ∧ h v = some (.cells [Value.pointer (some ⟨p, 0, none⟩), Value.pointer (some ⟨k, 0, none⟩)].toArray 248 (0, 0)) ∧ Cat h p knob G es ∧ Cache h k ec ∧ (¬ G d ∧ ¬ G v ∧ ¬ G k ∧ d ≠ v ∧ d ≠ k ∧ v ≠ k) ∧ ∀ c, D c ↔ G c ∨ c = d ∨ c = v ∨ c = k
theorem rootOut_more (es : List En) (c : S_api_Cap) (r : Int) : ∀ n t ks, Has es n t ks → ∃ ks', Has (rootOut es c r).2 n t ks' := fun n t ks hh => by
  unfold rootOut
  split
  · split
    · exact ⟨_, hh⟩
    · split
      · exact ⟨_, hh⟩
      · rename_i m hm
        have hn := freeE_some hm
        refine ⟨ks, (has_set (lt_of_get hn)).2 (.inr ⟨fun e => ?_, hh⟩)⟩
        subst e; unfold Has at hh; rw [hn] at hh; cases hh
  · exact ⟨_, hh⟩
theorem childOut_more (es : List En) (qi : Int) (c : S_api_Cap) (r : Int) : ∀ n t ks, Has es n t ks → ∃ ks', Has (childOut es qi c r).2 n t ks' := fun n t ks hh => by
  unfold childOut
  split
  · exact ⟨_, hh⟩
  · rename_i u us hq
    obtain ⟨q, rfl, hq'⟩ := atE_has.1 hq
    split
    · split
      · split
        · exact ⟨_, hh⟩
        · split
          · exact ⟨_, hh⟩
          · rename_i m hm
            have hn := freeE_some hm
            rw [Int.toNat_natCast]
            have hne : n ≠ m := fun e => by subst e; unfold Has at hh; rw [hn] at hh; cases hh
            by_cases e : n = q
            · subst e
              obtain ⟨rfl, rfl⟩ := hq'.uniq hh
              exact ⟨_, (has_child hq' hn).2 (.inr (.inl ⟨rfl, rfl, rfl⟩))⟩
            · exact ⟨ks, (has_child hq' hn).2 (.inr (.inr ⟨hne, e, hh⟩))⟩
      · exact ⟨_, hh⟩
    · exact ⟨_, hh⟩
section
variable {h : H} {d v p k q : Nat} {D : Nat → Prop} {es ec : List En}
theorem Desk.keep {h' : H} (x : Desk h d v p k q D es ec) (kk : Keeps h h') : Desk h' d v p k q D es ec := by
  obtain ⟨knob, G, a, b, c, e, r⟩ := x.ex
  exact ⟨knob, G, kk _ _ a, kk _ _ b, c.keep kk, e.keep kk, r⟩
theorem Desk.but {h' : H} {E : Nat → Prop} (x : Desk h d v p k q D es ec) (kk : But E h h') (f : ∀ c, E c → ¬ D c) : Desk h' d v p k q D es ec := by
  obtain ⟨knob, G, a, b, c, e, g, dd⟩ := x.ex
  exact ⟨knob, G, kk _ _ a fun z => f _ z ((dd _).2 (.inr (.inl rfl))), kk _ _ b fun z => f _ z ((dd _).2 (.inr (.inr (.inl rfl)))), c.but kk fun z w g => f z w ((dd z).2 (.inl g)), e.but kk fun z => f _ z ((dd _).2 (.inr (.inr (.inr rfl)))), g, dd⟩
theorem Desk.has (x : Desk h d v p k q D es ec) {c : Nat} (f : D c) : h c ≠ none := by
  obtain ⟨knob, G, a, b, cc, e, g, dd⟩ := x.ex
  rcases (dd c).1 f with g | rfl | rfl | rfl
  · exact cc.has g
  · rw [a]; exact fun z => by cases z
  · rw [b]; exact fun z => by cases z
  · exact e.has
theorem Desk.wf (x : Desk h d v p k q D es ec) : CWF es := by obtain ⟨_, _, _, _, c, _⟩ := x.ex; exact c.wf
theorem Desk.c0 (x : Desk h d v p k q D es ec) : At h ((⟨d, 0, none⟩ : Addr).add 0) (cPtr (some ⟨p, 0, none⟩)) := by
  obtain ⟨_, _, a, _⟩ := x.ex
  rw [pt_add]; exact At.own (l1 := []) (l3 := [Value.pointer (some ⟨v, 0, none⟩), Value.pointer (some ⟨q, 0, none⟩)]) a rfl
theorem Desk.c1 (x : Desk h d v p k q D es ec) : At h ((⟨d, 0, none⟩ : Addr).add 1) (cPtr (some ⟨v, 0, none⟩)) := by
  obtain ⟨_, _, a, _⟩ := x.ex
  rw [pt_add]; exact At.own (l1 := [Value.pointer (some ⟨p, 0, none⟩)]) (l3 := [Value.pointer (some ⟨q, 0, none⟩)]) a rfl
theorem Desk.c2 (x : Desk h d v p k q D es ec) : At h ((⟨d, 0, none⟩ : Addr).add 2) (cPtr (some ⟨q, 0, none⟩)) := by
  obtain ⟨_, _, a, _⟩ := x.ex
  rw [pt_add]; exact At.own (l1 := [Value.pointer (some ⟨p, 0, none⟩), Value.pointer (some ⟨v, 0, none⟩)]) (l3 := []) a rfl
theorem Desk.inK (x : Desk h d v p k q D es ec) : D k := by obtain ⟨_, _, _, _, _, _, _, dd⟩ := x.ex; exact (dd k).2 (.inr (.inr (.inr rfl)))
/-- The catalogue has moved. -/
theorem Desk.moved {knob : Int} {G G1 : Nat → Prop} {es1 : List En} {h1 : H} (a : h d = some (.cells [Value.pointer (some ⟨p, 0, none⟩), Value.pointer (some ⟨v, 0, none⟩), Value.pointer (some ⟨q, 0, none⟩)].toArray 122 (0, 0))) (b : h v = some (.cells [Value.pointer (some ⟨p, 0, none⟩), Value.pointer (some ⟨k, 0, none⟩)].toArray 248 (0, 0))) (e : Cache h k ec) (g : ¬ G d ∧ ¬ G v ∧ ¬ G k ∧ d ≠ v ∧ d ≠ k ∧ v ≠ k) (dd : ∀ c, D c ↔ G c ∨ c = d ∨ c = v ∨ c = k) (c1 : Cat h1 p knob G1 es1) (k1 : KChg G G1 h h1) :
    Desk h1 d v p k q (fun c => G1 c ∨ c = d ∨ c = v ∨ c = k) es1 ec ∧ KChg D (fun c => G1 c ∨ c = d ∨ c = v ∨ c = k) h h1 := by
  have off : ∀ {z}, ¬ G z → h z ≠ none → ¬ G1 z := fun q1 q2 q3 => (k1.foot _ q3).elim q1 q2
  refine ⟨⟨knob, G1, k1.but _ _ a g.1, k1.but _ _ b g.2.1, c1, e.but k1.but g.2.2.1, ⟨off g.1 (by rw [a]; exact fun z => by cases z), off g.2.1 (by rw [b]; exact fun z => by cases z), off g.2.2.1 e.has, g.2.2.2⟩, fun _ => Iff.rfl⟩, k1.but.mono fun c z => (dd c).2 (.inl z), fun c z => ?_, k1.dom⟩
  rcases z with z | z
  · exact (k1.foot c z).imp (fun w => (dd c).2 (.inl w)) id
  · exact .inl ((dd c).2 (.inr z))
theorem t_dRoot (x : Desk h d v p k q D es es) {c : S_api_Cap} {r : Int} {K : Int × Int → H → Prop} (y : ∀ D' h', Desk h' d v p k q D' (rootOut es c r).2 (rootOut es c r).2 → KChg D D' h h' → K (rootOut es c r).1 h') : m_catalogue_Catalogue_Root (some ⟨p, 0, none⟩) c r K h := by
  obtain ⟨knob, G, a, b, ct, e, g, dd⟩ := x.ex
  refine t_CRoot ct fun G1 h1 c1 k1 => ?_
  obtain ⟨x1, k2⟩ := Desk.moved (q := q) (D := D) a b (e.more (rootOut_more es c r)) g dd c1 k1
  exact y _ h1 x1 k2
theorem t_dChild (x : Desk h d v p k q D es es) {qi : Int} {c : S_api_Cap} {r : Int} {K : Int × Int → H → Prop} (y : ∀ D' h', Desk h' d v p k q D' (childOut es qi c r).2 (childOut es qi c r).2 → KChg D D' h h' → K (childOut es qi c r).1 h') : m_catalogue_Catalogue_Child (some ⟨p, 0, none⟩) qi c r K h := by
  obtain ⟨knob, G, a, b, ct, e, g, dd⟩ := x.ex
  refine t_CChild ct fun G1 h1 c1 k1 => ?_
  obtain ⟨x1, k2⟩ := Desk.moved (q := q) (D := D) a b (e.more (childOut_more es qi c r)) g dd c1 k1
  exact y _ h1 x1 k2
theorem t_dDrop (x : Desk h d v p k q D es es) {i : Int} {K : Sl × Int → H → Prop} (no : atE es i = none → ∀ h', Desk h' d v p k q D es es → Keeps h h' → K (Sl.nil, 20) h')
    (y : ∀ n t ks l, i = ((n : Nat) : Int) → Has es n t ks → Below es n l → ∀ s' D' h', Desk h' d v p k q D' (cutE l es) es → KChg D D' h h' → Buf S_api_Cap.cells 3 N_api_Cap h' s' (l.map (capAt es)) → (∀ c, s'.foot c → h c = none) → (∀ c, s'.foot c → ¬ D' c) → K (s', 0) h') : m_catalogue_Catalogue_Drop (some ⟨p, 0, none⟩) i K h := by
  have x0 := x
  obtain ⟨knob, G, a, b, ct, e, g, dd⟩ := x.ex
  refine t_CDrop ct (fun hn h1 k1 => no hn h1 (x0.keep k1) k1) fun n t ks l en hn bl s' G1 h1 c1 k1 bu f ap => ?_
  obtain ⟨x1, k2⟩ := Desk.moved (q := q) (D := D) a b e g dd c1 k1
  refine y n t ks l en hn bl s' _ h1 x1 k2 bu f fun c fc z => ?_
  rcases z with z | rfl | rfl | rfl
  · exact ap c fc z
  · have := f _ fc; rw [a] at this; cases this
  · have := f _ fc; rw [b] at this; cases this
  · exact e.has (f _ fc)
theorem t_dGone (x : Desk h d v p k q D es ec) {K : Unit → H → Prop} (y : ∀ h', Desk h' d v p k q D es es → But (· = k) h h' → (∀ c, h' c = none → h c = none) → K () h') : m_validate_Validator_Gone (some ⟨v, 0, none⟩) K h := by
  obtain ⟨knob, G, a, b, ct, e, g, dd⟩ := x.ex
  unfold m_validate_Validator_Gone
  refine w_deref (w_load (v := some ⟨k, 0, none⟩) (cells := cPtr) ?_ (t_KTurn e fun h1 e1 b1 d1 => ?_))
  · rw [pt_add]; exact At.own (l1 := [Value.pointer (some ⟨p, 0, none⟩)]) (l3 := []) b rfl
  · exact y h1 ⟨knob, G, b1 _ _ a g.2.2.2.2.1, b1 _ _ b g.2.2.2.2.2, ct.but b1 fun z w gz => by (have w : z = k := w); exact g.2.2.1 (w ▸ gz), e1 es, g, dd⟩ b1 d1
theorem Desk.val (x : Desk h d v p k q D es es) : ∃ DV, Val h v p k DV es ∧ ∀ {h' : H}, Val h' v p k DV es → But (· = k) h h' → Desk h' d v p k q D es es := by
  obtain ⟨knob, G, a, b, ct, e, g, dd⟩ := x.ex
  refine ⟨fun c => G c ∨ c = v ∨ c = k, ⟨knob, G, b, ct, e, g.2.1, g.2.2.1, g.2.2.2.2.2, fun _ => Iff.rfl⟩, fun {h'} x' b' => ?_⟩
  obtain ⟨_, _, _, _, e', _⟩ := x'.ex
  exact ⟨knob, G, b' _ _ a g.2.2.2.2.1, b' _ _ b g.2.2.2.2.2, ct.but b' fun z w gz => by (have w : z = k := w); exact g.2.2.1 (w ▸ gz), e', g, dd⟩
theorem t_dGiven (x : Desk h d v p k q D es es) {c : S_api_Cap} {need : Int} {K : Int → H → Prop} (y : ∀ h', Desk h' d v p k q D es es → But (· = k) h h' → (∀ z, h' z = none → h z = none) → K (givenO es c need) h') : m_validate_Validator_Given (some ⟨v, 0, none⟩) c need K h := by
  obtain ⟨DV, xv, back⟩ := x.val
  exact t_VGiven xv fun h' x' b' d' => y h' (back x' b') b' d'
theorem t_dNamed (x : Desk h d v p k q D es es) {o need : Int} {s : Sl} {L : List S_api_Cap} (ar : Arr S_api_Cap.cells h s L) (hn : L.length ≤ 9223372036854775807) (hk : L ≠ [] → ¬ s.foot k) {K : S_api_Cap × Int → H → Prop} (y : ∀ h', Desk h' d v p k q D es es → But (· = k) h h' → (∀ z, h' z = none → h z = none) → K (namedO es o need L 3) h') : m_validate_Validator_Named (some ⟨v, 0, none⟩) o need s K h := by
  obtain ⟨DV, xv, back⟩ := x.val
  exact t_VNamed xv ar hn hk fun h' x' b' d' => y h' (back x' b') b' d'
/-- A name is asked for, and a box made for the answer, in either order. -/
theorem t_dNamedB (x : Desk h d v p k q D es es) {o need : Int} {s : Sl} {L : List S_api_Cap} (ar : Arr S_api_Cap.cells h s L) (hn : L.length ≤ 9223372036854775807) (hk : L ≠ [] → ¬ s.foot k) {j : Addr × S_api_Cap × Int → H → Prop}
    (y : ∀ b h', Desk h' d v p k q D es es → But (· = k) h h' → (∀ z, h' z = none → h z = none) → h b = none → h' b = some (.cells (S_api_Cap.cells ⟨0, ⟨0, 0⟩⟩).toArray 39 (0, 0)) → j (⟨b, 0, none⟩, (namedO es o need L 3).1, (namedO es o need L 3).2) h') :
    mBoth (m_validate_Validator_Named (some ⟨v, 0, none⟩) o need s fun r => mNew 39 #[(Value.int .i64 0), (Value.int .u64 0), (Value.int .u64 0)] fun ad => j (ad, r.1, r.2)) (mNew 39 #[(Value.int .i64 0), (Value.int .u64 0), (Value.int .u64 0)] fun ad => m_validate_Validator_Named (some ⟨v, 0, none⟩) o need s fun r => j (ad, r.1, r.2)) h := by
  refine w_both (t_dNamed x ar hn hk fun h1 x1 b1 d1 => w_box fun b h2 f2 c2 k2 => ?_) (w_box fun b h1 f1 c1 k1 => t_dNamed (x.keep k1) (ar.keep k1) hn hk fun h2 x2 b2 d2 => ?_)
  · exact y b h2 (x1.keep k2) (b1.trans (.of k2 : But (· = k) h1 h2) fun _ q => .inl q) (fun z q => d1 z (k2.fresh q)) (d1 b f2) c2
  · exact y b h2 x2 ((But.of k1).trans b2 fun _ q => .inl q) (fun z q => k1.fresh (d2 z q)) f1 (b2 _ _ c1 fun e => x.has x.inK (e ▸ f1))
theorem w_num {x : Int} {kk : Int → H → Prop} (y : kk x h) : mPure (m_law19_num x) kk h := w_pure x (fun _ _ z => z) y
theorem t_says (x : Desk h d v p k q D es ec) {c : S_api_Cap} {need : Int} {K : Int → H → Prop} (y : K (givenO es c need) h) : m_law19_Desk_says (some ⟨d, 0, none⟩) c need K h := by
  unfold m_law19_Desk_says
  obtain ⟨knob, G, a, b, ct, e, g, dd⟩ := id x.ex
  refine w_deref (w_load x.c0 (t_CFind ct ?_))
  cases hf : findE es c with
  | none =>
    have e : givenO es c need = 3 := by unfold givenO; rw [hf]
    rw [e] at y
    exact w_ifT rfl y
  | some n =>
    obtain ⟨t, ks, ht, rfl⟩ := findE_has hf
    rw [givenO_has x.wf ht] at y
    refine w_ifF rfl (w_deref (w_load x.c0 (t_CAt ct ?_)))
    rw [show atOut es (((some n).map fun n : Nat => (n : Int)).getD 0, (some n).isSome).1 = (t, true) from atOut_has ht]
    have hr := x.wf.right _ _ _ ht
    refine w_ifF (by rw [cap_eqB, decide_eq_true rfl]; rfl) ?_
    have e : (((decide (need < 1)) || (decide (31 < need))) || (!decide ((iOr .i64 need t.Rights) = t.Rights))) = !partOf need t.Rights := by
      unfold partOf
      rw [decide_eq_true hr, Bool.true_and]
      by_cases hn : 1 ≤ need ∧ need ≤ 31
      · rw [decide_eq_false (by omega : ¬ need < 1), decide_eq_false (by omega : ¬ 31 < need), decide_eq_true hn]
        have := part_or ⟨need.toNat, by omega⟩ ⟨t.Rights.toNat, by omega⟩
        simp only [Int.toNat_of_nonneg (by omega : 0 ≤ need), Int.toNat_of_nonneg (by omega : 0 ≤ t.Rights)] at this
        rw [this]; rfl
      · rw [decide_eq_false hn]
        rcases (by omega : need < 1 ∨ 31 < need) with z | z
        · rw [decide_eq_true z]; rfl
        · rw [decide_eq_true z]; simp
    show mIf (((decide (need < 1)) || (decide (31 < need))) || (!decide ((iOr .i64 need t.Rights) = t.Rights))) _ _ h
    rw [e]
    cases hp : partOf need t.Rights with
    | true =>
      rw [hp, if_pos rfl] at y
      exact w_ifF rfl y
    | false =>
      rw [hp, if_neg (by decide)] at y
      exact w_ifT rfl y
theorem rem3 (x : Int) {b : Int} (h0 : 0 < b) (h1 : b ≤ 100) : 0 ≤ iRem .i64 (iAdd .i64 (iRem .i64 x b) b) b ∧ iRem .i64 (iAdd .i64 (iRem .i64 x b) b) b < b := by
  have q1 := Int.tmod_lt_of_pos x h0
  have q2 := Int.lt_tmod_of_pos x h0
  have e : iRem .i64 x b = x.tmod b := rfl
  rw [e, iAdd_eq (by omega) (by omega)]
  have e2 : iRem .i64 (x.tmod b + b) b = (x.tmod b + b).tmod b := rfl
  rw [e2]
  exact ⟨Int.tmod_nonneg _ (by omega), Int.tmod_lt_of_pos _ h0⟩
def mostOf (a0 : Int) : Nat := (1 + iRem .i64 (iAdd .i64 (iRem .i64 a0 20) 20) 20).toNat
theorem t_desk {a0 : Int} {n : S_law19_Numbers} {K : Option Addr → H → Prop} (y : ∀ d v p k q D G' h', Desk h' d v p k q D (List.replicate (mostOf a0) none) (List.replicate (mostOf a0) none) → Ref h' q 0 G' (List.replicate (mostOf a0) none) → (∀ c, D c → ¬ G' c) → Keeps h h' → (∀ c, D c → h c = none) → (∀ c, G' c → h c = none) → K (some ⟨d, 0, none⟩) h') : m_law19_desk a0 n K h := by
  unfold m_law19_desk
  have r0 := rem3 a0 (b := 20) (by omega) (by omega)
  have r1 := rem3 n.Sets (b := 17) (by omega) (by omega)
  have r2 := rem3 n.Ways (b := 4) (by omega) (by omega)
  have r3 := rem3 n.Knob (b := 65) (by omega) (by omega)
  have em : iAdd .i64 1 (iRem .i64 (iAdd .i64 (iRem .i64 a0 20) 20) 20) = (mostOf a0 : Int) := by
    unfold mostOf
    rw [iAdd_eq (by omega) (by omega)]; omega
  have hm : 1 ≤ mostOf a0 ∧ mostOf a0 ≤ 20 := by unfold mostOf; omega
  rw [em]
  generalize mostOf a0 = m at y hm
  refine w_pure (⟨iRem .i64 (iAdd .i64 (iRem .i64 n.Sets 17) 17) 17, iAdd .i64 1 (iRem .i64 (iAdd .i64 (iRem .i64 n.Ways 4) 4) 4), iRem .i64 (iAdd .i64 (iRem .i64 n.Knob 65) 65) 65⟩ : S_law19_Numbers) (fun _ _ z => z) ?_
  have ew : iAdd .i64 1 (iRem .i64 (iAdd .i64 (iRem .i64 n.Ways 4) 4) 4) = 1 + iRem .i64 (iAdd .i64 (iRem .i64 n.Ways 4) 4) 4 := iAdd_eq (by omega) (by omega)
  dsimp only
  rw [ew]
  refine t_CNew (fun z => by omega) fun _ _ m1 e1 _ _ p G h1 c1 k1 f1 => t_KcNew (fun z => by omega) fun _ _ _ _ _ _ k h2 c2 k2 f2 => t_RNew (fun z => by omega) fun _ _ m2 e2 _ _ q G' h3 c3 k3 f3 => ?_
  obtain rfl : m = m1 := by omega
  obtain rfl : m = m2 := by omega
  refine w_joinV false (fun j hj => w_ifF rfl (w_num hj)) (w_joinV false (fun j hj => w_ifF rfl (w_num hj)) (w_ifF rfl ?_))
  unfold m_validate_New
  refine w_box fun v h4 f4 c4 k4 => w_ifF rfl (w_box fun d h5 f5 c5 k5 => ?_)
  have k35 := k4.trans k5
  have k15 := (k2.trans k3).trans k35
  have hk2 := (c2 (List.replicate m none))
  have fk : h k = none := k1.fresh f2
  have fv : h v = none := k1.fresh (k2.fresh (k3.fresh f4))
  have fd : h d = none := k1.fresh (k2.fresh (k3.fresh (k4.fresh f5)))
  have nG : ∀ {z}, h1 z = none → ¬ G z := fun a b => c1.has b a
  have hvk : v ≠ k := fun e => by have := k3.fresh f4; rw [e] at this; exact hk2.has this
  have hdk : d ≠ k := fun e => by have := k3.fresh (k4.fresh f5); rw [e] at this; exact hk2.has this
  have hdv : d ≠ v := fun e => by rw [e, c4] at f5; cases f5
  refine y d v p k q (fun c => G c ∨ c = d ∨ c = v ∨ c = k) G' h5 ⟨_, G, c5, k5 _ _ c4, c1.keep k15, hk2.keep (k3.trans k35), ⟨nG (k2.fresh (k3.fresh (k4.fresh f5))), nG (k2.fresh (k3.fresh f4)), nG f2, hdv, hdk, hvk⟩, fun _ => Iff.rfl⟩ (c3.keep k35) (fun c z g => ?_) (k1.trans k15) (fun c z => ?_) fun c z => k1.fresh (k2.fresh (f3 c z))
  · rcases z with z | rfl | rfl | rfl
    · exact (c1.keep k2).has z (f3 c g)
    · exact c3.has g (k4.fresh f5)
    · exact c3.has g f4
    · exact hk2.has (f3 _ g)
  · rcases z with z | rfl | rfl | rfl
    · exact f1 c z
    · exact fd
    · exact fv
    · exact fk
end
def aE1 : List En := [some (⟨⟨1, ⟨0, 5⟩⟩, 31, -1⟩, []), none, none, none, none]
def aE2 : List En := [some (⟨⟨1, ⟨0, 5⟩⟩, 31, -1⟩, [1]), some (⟨⟨1, ⟨0, 7⟩⟩, 1, 0⟩, []), none, none, none]
theorem a_r : rootOut (List.replicate (mostOf 4) none) ⟨1, ⟨0, 5⟩⟩ 31 = ((0, 0), aE1) := by kernel_rfl
theorem a_c : childOut aE1 0 ⟨1, ⟨0, 7⟩⟩ 1 = ((1, 0), aE2) := by kernel_rfl
theorem a_n : namedO aE2 1 2 [⟨1, ⟨0, 7⟩⟩, ⟨1, ⟨0, 5⟩⟩] 3 = (⟨1, ⟨0, 5⟩⟩, 0) := by kernel_rfl
theorem a_g1 : givenO aE2 ⟨1, ⟨0, 7⟩⟩ 1 = 0 := by kernel_rfl
theorem a_g2 : givenO aE2 ⟨1, ⟨0, 7⟩⟩ 2 = 4 := by kernel_rfl
theorem a_g3 : givenO aE2 ⟨2, ⟨0, 0⟩⟩ 1 = 3 := by kernel_rfl
section
variable {h : H}
theorem t_alive {K : Bool → H → Prop} (y : ∀ h', Keeps h h' → K true h') : m_law19_alive K h := by
  unfold m_law19_alive
  refine t_desk fun d v p k q D G' h1 x1 _ _ k1 f1 _ => w_ifF rfl (w_deref (w_load x1.c0 (t_dRoot x1 fun D2 h2 x2 k2 => ?_)))
  rw [a_r] at x2
  refine w_deref (w_load x2.c0 (t_dChild x2 fun D3 h3 x3 k3 => ?_))
  rw [a_c] at x3
  refine w_deref (w_load x3.c1 (w_box fun b h4 f4 c4 k4 => ?_))
  have x4 := x3.keep k4
  have kc := k2.trans k3
  have K4 : Keeps h h4 := (k1.but kc.but f1).trans k4
  have fk : h k = none := by
    rcases kc.foot k x3.inK with z | z
    · exact f1 k z
    · exact k1.fresh z
  have ar : Arr S_api_Cap.cells h4 ⟨some ⟨b, 0, none⟩, 2, 2⟩ [⟨1, ⟨0, 7⟩⟩, ⟨1, ⟨0, 5⟩⟩] := ⟨rfl, Nat.le_refl _, fun _ => ⟨_, rfl, at_box c4⟩⟩
  have hbk : b ≠ k := fun e => x3.has x3.inK (e ▸ f4)
  refine w_joinP (fun (s11 : Addr × S_api_Cap × Int) hh => ∃ bb, s11 = (⟨bb, 0, none⟩, ⟨1, ⟨0, 5⟩⟩, 0) ∧ Desk hh d v p k q D3 aE2 aE2 ∧ But (· = k) h4 hh ∧ (∀ z, hh z = none → h4 z = none) ∧ h4 bb = none ∧ hh bb = some (.cells (S_api_Cap.cells ⟨0, ⟨0, 0⟩⟩).toArray 39 (0, 0))) (fun j hj => ?_) ?_
  · refine t_dNamedB x4 ar (by simp) (fun _ ⟨ad, q1, q2⟩ => by cases q1; exact hbk q2) fun bb h5 x5 b5 d5 f5 c5 => ?_
    rw [a_n]
    exact hj _ _ ⟨bb, rfl, x5, b5, d5, f5, c5⟩
  rintro _ h5 ⟨bb, rfl, x5, b5, d5, f5, c5⟩
  refine w_setBox (new := S_api_Cap.cells ⟨1, ⟨0, 5⟩⟩) c5 rfl fun h6 c6 b6 d6 => ?_
  have hbbk : bb ≠ k := fun e => x4.has x4.inK (e ▸ f5)
  have x6 := x5.but b6 fun c e g => by (have e : c = bb := e); exact x4.has (e ▸ g) f5
  have K6 : Keeps h h6 := (K4.but b5 fun c e => e ▸ fk).but b6 fun c e => by (have e : c = bb := e); exact e ▸ K4.fresh f5
  refine w_deref (w_load x6.c1 (t_dGiven x6 fun h7 x7 b7 d7 => w_num ?_))
  rw [a_g1]
  have K7 : Keeps h h7 := K6.but b7 fun c e => e ▸ fk
  refine w_joinP (fun s25 hh => s25 = true ∧ Desk hh d v p k q D3 aE2 aE2 ∧ But (· = k) h6 hh ∧ Keeps h hh) (fun j hj => w_ifT rfl (w_deref (w_load x7.c1 (t_dGiven x7 fun h8 x8 b8 d8 => w_num ?_)))) ?_
  · rw [a_g2]
    exact hj _ _ ⟨rfl, x8, b7.trans b8 fun _ q => .inl q, K7.but b8 fun c e => e ▸ fk⟩
  rintro _ h8 ⟨rfl, x8, b8, K8⟩
  refine w_joinP (fun s31 hh => s31 = true ∧ But (· = k) h6 hh ∧ Keeps h hh) (fun j hj => w_ifT rfl (w_deref (w_load x8.c1 (t_dGiven x8 fun h9 x9 b9 d9 => w_num ?_)))) ?_
  · rw [a_g3]
    exact hj _ _ ⟨rfl, b8.trans b9 fun _ q => .inl q, K8.but b9 fun c e => e ▸ fk⟩
  rintro _ h9 ⟨rfl, b9, K9⟩
  have c9 := b9 _ _ c6 hbbk
  refine w_joinV true (fun j hj => w_ifT rfl (w_load (v := ⟨1, ⟨0, 5⟩⟩) (cells := S_api_Cap.cells) (at_box c9) hj)) (w_ifT rfl (w_num ?_))
  exact y _ K9
end
end Go.Proofs.Ytiajjcboddaenaa.K
