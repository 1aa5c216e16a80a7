/- Walks of a forest. -/
import Derived.Test.YtiajjcboddaenaaCa4
import Derived.Test.YtiajjcboddaenaaFo1
import Derived.Test.YtiajjcboddaenaaFwalk
namespace Go.Proofs.Ytiajjcboddaenaa.K
open Go
def chN (ns : List Nd) (i : Int) : List Int := if 0 ≤ i then ((ns[i.toNat]?).map Nd.kids).getD [] else []
theorem chN_nat (ns : List Nd) (i : Nat) : chN ns (i : Int) = ((ns[i]?).map Nd.kids).getD [] := by
  unfold chN
  rw [if_pos (by omega), Int.toNat_natCast]
/-- Those below a node all stand in the forest. -/
def LiveL (ns : List Nd) (l : List Int) : Prop := ∀ z, z ∈ l → hasN ns z = true
theorem hasN_nat {ns : List Nd} {z : Int} (x : hasN ns z = true) : ∃ (i : Nat) (d : Nd), z = i ∧ ns[i]? = some d ∧ d.there = true ∧ chN ns z = d.kids := by
  have h0 : 0 ≤ z := by
    unfold hasN at x
    rw [Bool.and_eq_true] at x
    exact of_decide_eq_true x.1
  obtain ⟨i, rfl⟩ : ∃ i : Nat, z = i := ⟨z.toNat, by omega⟩
  obtain ⟨d, h1, h2⟩ := hasN_iff.1 x
  exact ⟨i, d, rfl, h1, h2, by rw [chN_nat, h1]; rfl⟩
theorem concat_of {T : Type} {l : List T} {n : Nat} (h : l.length = n + 1) : ∃ a x, l = a ++ [x] ∧ a.length = n := by
  rcases List.eq_nil_or_concat l with q | ⟨a, x, q⟩
  · subst q; simp at h
  · rw [List.concat_eq_append] at q; subst q; exact ⟨a, x, rfl, by simp at h; exact h⟩
theorem cut_front {s : Sl} {n : Nat} {i j : Int} {h : H} (hi : i = 0) (hj : j = n) (hn : n ≤ s.cap) {k : Sl → H → Prop} {size : Nat} (y : k ⟨s.a, n, s.cap⟩ h) : mCut s i j size k h := by
  refine w_cut (lo := 0) (hi := n) hi hj (Nat.zero_le _) hn ?_
  have hcut : (if s.cap = 0 then s.a else s.a.map (·.add (0 * size))) = s.a := by
    split
    · rfl
    · cases s.a <;> simp [add_zero]
  rw [hcut, Nat.sub_zero, Nat.sub_zero]
  exact y
section
variable {h : H} {p : Nat} {s : Sl} {F : Nat → Prop} {ns : List Nd}
theorem t_down (x : Tree h p s F ns) {n : Nat} {turn : Bool} {c' : Int → List Int} (hc' : ∀ z, c' z = if turn then (chN ns z).reverse else chN ns z) {l : List Int} (hl : PreL c' [(n : Int)] l) (live : LiveL ns l) (len : l.length ≤ 4096) {K : Sl → H → Prop}
    (y : ∀ s' h', Buf (cInt .i64) 1 N_int h' s' l → Keeps h h' → (∀ c, s'.foot c → h c = none) → K s' h') : m_walk_down (some ⟨p, 0, none⟩) (n : Int) turn K h := by
  unfold m_walk_down
  refine t_Has x ?_
  have hn : (n : Int) ∈ l := by cases hl; exact List.mem_cons_self ..
  rw [live _ hn]
  refine w_ifF rfl (w_new fun b hb => ?_)
  refine w_for l.length (fun i (z : Sl × Sl) h' => ∃ st, Buf (cInt .i64) 1 N_int h' z.1 (l.take i) ∧ Buf (cInt .i64) 1 N_int h' z.2 st ∧ PreL c' st.reverse (l.drop i) ∧ Keeps h h' ∧ (∀ c, z.1.foot c → h c = none) ∧ (∀ c, z.2.foot c → h c = none) ∧ ∀ c, z.1.foot c → ¬ z.2.foot c) ?_ ?_
  rotate_left
  · exact ⟨[(n : Int)], Buf.nil, ⟨rfl, Nat.le_refl _, .inr ⟨b, [], (0, 0), rfl, upd_same _ _ _, rfl, thawed0 _⟩⟩, hl, .new hb, fun c ⟨a, q, _⟩ => by (cases q), fun c ⟨a, q, r⟩ => by (cases q; subst r; exact hb), fun c ⟨a, q, _⟩ => by cases q⟩
  rintro rec i ⟨out, sk⟩ h1 hi ⟨st, bo, bs, hp, kp, fo, fs, ap⟩ more
  have bo : Buf (cInt .i64) 1 N_int h1 out (l.take i) := bo
  have bs : Buf (cInt .i64) 1 N_int h1 sk st := bs
  have ls := bs.len
  refine w_if' (fun c => ?_) fun c => ?_
  · have c : 0 < (sk.len : Int) := c
    obtain ⟨m, hm⟩ : ∃ m, st.length = m + 1 := ⟨st.length - 1, by omega⟩
    obtain ⟨st', z, rfl, hst⟩ := concat_of hm
    have hle := hp.le
    rw [List.length_reverse, List.length_drop] at hle
    rw [List.reverse_append] at hp
    have hp : PreL c' (z :: st'.reverse) (l.drop i) := hp
    have hil : i < l.length := by omega
    -- the node and those below it
    obtain ⟨l1, L1, e, p1, p2⟩ : ∃ l1 L1, l.drop i = z :: (l1 ++ L1) ∧ PreL c' (c' z) l1 ∧ PreL c' st'.reverse L1 := by
      generalize hd : l.drop i = d at hp
      cases hp with
      | cons a b => exact ⟨_, _, rfl, a, b⟩
    have hz : l[i]? = some z := by
      have := congrArg (fun q : List Int => q[0]?) e
      simpa [List.getElem?_drop] using this
    obtain ⟨j, d, rfl, hd, hth, hch⟩ := hasN_nat (live z (List.mem_of_getElem? hz))
    have hkl : d.kids.length ≤ 4096 := by
      have q1 := p1.le
      have q2 := congrArg List.length e
      rw [List.length_drop, List.length_cons, List.length_append] at q2
      rw [hc', hch] at q1
      have : d.kids.length ≤ l1.length := by
        cases turn with
        | true => simpa using q1
        | false => simpa using q1
      omega
    have hcap := bs.cap
    show mIdx sk (iSub .i64 (sk.len : Int) 1) 1 _ h1
    rw [ls, hm, is1 (m + 1) (by omega) (by omega)]
    refine w_idx (i := m) (v := (j : Int)) ci_len bs.arr (by rw [← hst]; simp) (by omega) fun a _ ha => w_load ha ?_
    refine cut_front (s := sk) rfl (n := m) (by omega) (by omega) ?_
    have bs2 : Buf (cInt .i64) 1 N_int h1 ⟨sk.a, m, sk.cap⟩ st' := by
      have := bs.front (n := m) (by omega)
      rwa [← hst, List.take_left, hst] at this
    refine w_app (by_ := 8) ci_len rfl bo [(j : Int)] rfl rfl (.inl (by rw [List.length_take]; simp only [List.length_singleton]; omega)) fun o2 h2 bo2 b2 f2 d2 => ?_
    have bs3 := bs2.but b2 fun a ha f => ap _ f ⟨a, ha, rfl⟩
    have k2 : Keeps h h2 := kp.but b2 fo
    refine t_Kids (x.keep k2) hd hth (by omega) fun s3 h3 bu3 k3 f3 => ?_
    refine w_joinP (fun _ h4 => Buf (cInt .i64) 1 N_int h4 s3 (c' (j : Int)).reverse ∧ But s3.foot h3 h4 ∧ ∀ c, h4 c = none → h3 c = none) (fun J hJ => ?_) ?_
    · refine w_if (fun e0 => ?_) fun e0 => ?_
      · unfold m_slices_Reverse_int_int
        refine w_reverse bu3 (by omega) fun h4 bu4 b4 d4 => hJ _ _ ⟨?_, b4, d4⟩
        rw [hc', hch]
        cases turn with
        | true => cases e0
        | false => exact bu4
      · refine hJ _ _ ⟨?_, .refl _ _, fun _ q => q⟩
        rw [hc', hch]
        cases turn with
        | true => rw [if_pos rfl, List.reverse_reverse]; exact bu3
        | false => cases e0
    · rintro _ h4 ⟨bu4, b4, d4⟩
      have bs4 : Buf (cInt .i64) 1 N_int h4 ⟨sk.a, m, sk.cap⟩ st' := (bs3.keep k3).but b4 fun a ha f => bs3.has ⟨a, ha, rfl⟩ (f3 _ f)
      have bo4 : Buf (cInt .i64) 1 N_int h4 o2 (l.take i ++ [(j : Int)]) := (bo2.keep k3).but b4 fun a ha f => bo2.has ⟨a, ha, rfl⟩ (f3 _ f)
      have hkl' : (c' (j : Int)).reverse.length = d.kids.length := by
        rw [hc', hch]; cases turn <;> simp
      refine w_append (by_ := 8) ci_len ci_plain rfl bs4 bu4.arr (.inl (by rw [hkl']; omega)) fun s5 h5 bu5 b5 f5 d5 => ?_
      have dsj : ∀ c, o2.foot c → ¬ (⟨sk.a, m, sk.cap⟩ : Sl).foot c := fun c f g => by
        rcases f2 c f with q | q
        · exact ap c q g
        · exact bs2.has g q
      refine more _ _ hil ⟨st' ++ (c' (j : Int)).reverse, ?_, bu5, ?_, ?_, fun c f => ?_, fun c f => ?_, fun c f g => ?_⟩
      · have := bo4.but b5 fun a ha f => dsj _ ⟨a, ha, rfl⟩ f
        have e1 : l.take (i + 1) = l.take i ++ [(j : Int)] := by rw [List.take_add_one, hz]; rfl
        rw [e1]; exact this
      · rw [List.reverse_append, List.reverse_reverse]
        have e2 : l.drop (i + 1) = l1 ++ L1 := by
          have := congrArg List.tail e
          simpa [List.tail_drop] using this
        rw [e2]
        exact p1.append p2
      · refine ((k2.trans k3).but b4 fun c f => k2.fresh (f3 c f)).but b5 fun c f => fs c f
      · rcases f2 c f with q | q
        · exact fo c q
        · exact kp.fresh q
      · rcases f5 c f with q | q
        · exact fs c q
        · exact k2.fresh (k3.fresh (d4 c q))
      · rcases f5 c g with q | q
        · exact dsj c f q
        · exact bo2.has f (k3.fresh (d4 c q))
  · have c : ¬ 0 < (sk.len : Int) := c
    obtain rfl : st = [] := List.length_eq_zero_iff.1 (by omega)
    have hp : PreL c' [] (l.drop i) := hp
    generalize hd : l.drop i = d at hp
    cases hp
    have : l.take i = l := by rw [List.take_of_length_le]; have := congrArg List.length hd; rw [List.length_drop] at this; simp at this; omega
    rw [this] at bo
    exact y _ _ bo kp fo
/-- Children ahead of their parents. -/
theorem t_Fall (x : Tree h p s F ns) {n : Nat} {m : List Int} (hm : PreL (fun z => (chN ns z).reverse) [(n : Int)] m) (live : LiveL ns m) (len : m.length ≤ 4096) {K : Sl → H → Prop}
    (y : ∀ s' h', Buf (cInt .i64) 1 N_int h' s' m.reverse → Keeps h h' → (∀ c, s'.foot c → h c = none) → K s' h') : m_walk_Fall (some ⟨p, 0, none⟩) (n : Int) K h := by
  unfold m_walk_Fall
  refine t_down x (turn := true) (fun _ => rfl) hm live len fun s1 h1 bu1 k1 f1 => ?_
  unfold m_slices_Reverse_int_int
  exact w_reverse (K := fun _ => K s1) bu1 (by omega) fun h2 bu2 b2 d2 => y _ _ bu2 (k1.but b2 f1) f1
/-- A range over the nodes below one: 'J' is what the rounds keep, 'G' its blocks. -/
theorem w_Down (x : Tree h p s F ns) {n : Nat} {l : List Int} (hl : PreL (chN ns) [(n : Int)] l) (live : LiveL ns l) (len : l.length ≤ 4096)
    {body : Int → ((H → Prop) → H → Prop) → (Nat → H → Prop) → H → Prop} {k : Nat → H → Prop} (b : Int → (Nat → H → Prop) → H → Prop) (hb : ∀ x mid kj, body x mid kj = mid (b x kj))
    (J : (Nat → Prop) → Nat → H → Prop) (has : ∀ G i h, J G i h → ∀ c, G c → h c ≠ none) (stab : ∀ G i h h' E, J G i h → But E h h' → (∀ c, E c → ¬ G c) → J G i h') {G0 : Nat → Prop} (j0 : J G0 0 h)
    (step : ∀ (i : Nat) (z : Nat), l[i]? = some (z : Int) → ∀ G h' kj, J G i h' → (∀ G' h'', J G' (i + 1) h'' → KChg G G' h' h'' → kj 0 h'') → b (z : Int) kj h')
    (y : ∀ G h', J G l.length h' → KChg G0 G h h' → k 0 h') :
    m_walk_Down (some ⟨p, 0, none⟩) (n : Int) (fun r => mRangeF (A := Int) Try.prog (fun x => [(Value.int .i64 x)]) r.1 body k) h := by
  unfold m_walk_Down m_walk_told
  refine w_new fun b1 hb1 => w_new fun b2 hb2 => w_new fun b3 hb3 => ?_
  generalize eh1 : upd h b1 (.cells #[Value.pointer (some ⟨p, 0, none⟩)] 211 (0, 0)) = h1 at *
  generalize eh2 : upd h1 b2 (.cells #[Value.int .i64 (n : Int)] 3 (0, 0)) = h2 at *
  generalize eh3 : upd h2 b3 _ = h3
  have k1 : Keeps h h1 := eh1 ▸ .new hb1
  have k2 : Keeps h1 h2 := eh2 ▸ .new hb2
  have k3 : Keeps h2 h3 := eh3 ▸ .new hb3
  have c1 : h1 b1 = some (.cells #[Value.pointer (some ⟨p, 0, none⟩)] 211 (0, 0)) := by rw [← eh1]; exact upd_same _ _ _
  have c2 : h2 b2 = some (.cells #[Value.int .i64 (n : Int)] 3 (0, 0)) := by rw [← eh2]; exact upd_same _ _ _
  have c3 : h3 b3 = some (.cells #[Value.func (.func 206) #[] #[(Value.pointer (some ⟨b1, 0, none⟩)), (Value.pointer (some ⟨b2, 0, none⟩))]] 308 (0, 0)) := by rw [← eh3]; exact upd_same _ _ _
  have k03 : Keeps h h3 := (k1.trans k2).trans k3
  refine ⟨247, Try.f247, #[], #[.pointer (some ⟨b3, 0, none⟩)], rfl, callee247, fun w ob bz hw law => ?_⟩
  have kw : Keeps h3 (upd h3 w (ob 0)) := .new hw
  suffices hm : m_walk_told_1 (⟨.func (.yield w) #[] #[], rfl, rfl⟩ : PV) ⟨b3, 0, none⟩ (fun _ h'' => ∃ j, h'' w = some (ob j) ∧ ∀ o, k j (upd h'' w o)) (upd h3 w (ob 0)) from
    (s_walk_told_1.ok ((⟨.func (.yield w) #[] #[], rfl, rfl⟩ : PV), (⟨b3, 0, none⟩ : Addr)) (fun _ h'' => ∃ j, h'' w = some (ob j) ∧ ∀ o, k j (upd h'' w o)) _ hm).mono (fun v h'' ⟨_, _, q⟩ => q) fun _ _ q => q
  unfold m_walk_told_1
  have a3 := kw _ _ c3
  refine w_load (v := (⟨Value.func (.func 206) #[] #[(Value.pointer (some ⟨b1, 0, none⟩)), (Value.pointer (some ⟨b2, 0, none⟩))], rfl, rfl⟩ : PV)) (At.own (l1 := []) (l3 := []) a3 rfl) ?_
  have use : ∀ {K : Sl → H → Prop} {h' : H}, m_walk_Down_1 (⟨b1, 0, none⟩ : Addr) (⟨b2, 0, none⟩ : Addr) K h' → mCallV (T := Sl) Try.prog (fun r => Sl.val r) (.func (.func 206) #[] #[(Value.pointer (some ⟨b1, 0, none⟩)), (Value.pointer (some ⟨b2, 0, none⟩))]) [] K h' := fun hm =>
    callV_of s_walk_Down_1 (first := #[]) (cap := #[(Value.pointer (some ⟨b1, 0, none⟩)), (Value.pointer (some ⟨b2, 0, none⟩))]) (args := []) ((⟨b1, 0, none⟩ : Addr), (⟨b2, 0, none⟩ : Addr)) rfl hm
  refine use ?_
  unfold m_walk_Down_1
  refine w_load (v := some ⟨p, 0, none⟩) (cells := cPtr) (At.own (l1 := []) (l3 := []) (kw _ _ (k3 _ _ (k2 _ _ c1))) rfl) (w_load (v := (n : Int)) (cells := cInt .i64) (At.own (l1 := []) (l3 := []) (kw _ _ (k3 _ _ c2)) rfl) ?_)
  refine t_down ((x.keep k03).keep kw) (turn := false) (fun _ => rfl) hl live len fun s4 h4 bu4 k4 f4 => ?_
  have hw0 : h w = none := k03.fresh hw
  have hw4 : h4 w = some (ob 0) := k4 _ _ (upd_same _ _ _)
  have nG : ∀ c, G0 c → c ≠ w := fun c g e => has _ _ _ j0 c g (e ▸ hw0)
  refine w_for l.length (fun i z h' => z = (i : Int) ∧ i ≤ l.length ∧ ∃ G, J G i h' ∧ KChg G0 G h h' ∧ h' w = some (ob 0) ∧ ¬ G w ∧ Buf (cInt .i64) 1 N_int h' s4 l ∧ ∀ c, s4.foot c → ¬ G c) ?_ ?_
  rotate_left
  · refine ⟨rfl, Nat.zero_le _, G0, stab _ _ _ _ (fun _ => False) j0 (.of ((k03.trans kw).trans k4)) (fun _ q => q.elim), ⟨.of ((k03.trans kw).trans k4), fun c g => .inl g, fun c q => ((k03.trans kw).trans k4).fresh q⟩, hw4, fun g => nG _ g rfl, bu4, fun c f g => ?_⟩
    exact has _ _ _ j0 c g (k03.fresh (kw.fresh (f4 c f)))
  rintro rec i z h' hi ⟨rfl, _, G, jg, kg, hw', gw, bu, fg⟩ more
  have hl4 := bu.len
  have fw : ¬ s4.foot w := fun f => by have := f4 w f; rw [upd_same] at this; cases this
  refine w_if' (fun c => ?_) fun c => ?_
  · have c : (i : Int) < (s4.len : Int) := c
    have hil : i < l.length := by omega
    have hz := List.getElem?_eq_getElem hil
    refine w_idx ci_len bu.arr hz rfl fun a _ ha => w_load ha ?_
    obtain ⟨zn, hzn⟩ : ∃ zn : Nat, l[i] = (zn : Int) := by
      obtain ⟨j, _, e, _⟩ := hasN_nat (live _ (List.getElem_mem hil))
      exact ⟨j, e⟩
    rw [hzn] at hz ⊢
    -- a round
    refine .inr ⟨w, rfl, law (zn : Int) _ h' hw' ?_⟩
    rw [hb]
    refine ⟨hw', ?_⟩
    have bE : But (fun c => c = w) h' (upd h' w bz) := .upd rfl
    refine step i zn hz G _ _ (stab _ _ _ _ _ jg bE fun c q g => gw (q ▸ g)) fun G' h'' jg' kg' => ?_
    have gw' : ¬ G' w := fun g => (kg'.foot w g).elim gw fun q => by rw [upd_same] at q; cases q
    have hwz : h'' w = some bz := kg'.but w bz (upd_same _ _ _) gw
    refine ⟨hwz, ?_⟩
    have bE2 : But (fun c => c = w) h'' (upd h'' w (ob 0)) := .upd rfl
    have dm : ∀ c, upd h'' w (ob 0) c = none → h' c = none := fun c q => (upd_none.1 (kg'.dom c (upd_none.1 q).2)).2
    have kgg : KChg G G' h' (upd h'' w (ob 0)) := ⟨fun b o' e ng => ?_, fun c g => (kg'.foot c g).imp id fun q => (upd_none.1 q).2, dm⟩
    · refine w_ifF rfl (more _ _ hil ⟨ia1 i (by omega), by omega, G', stab _ _ _ _ _ jg' bE2 (fun c q g => gw' (q ▸ g)), kg.trans kgg, upd_same _ _ _, gw', bu.but kgg.but fun a ha f => fg _ ⟨a, ha, rfl⟩ f, fun c f g => ?_⟩)
      rcases kgg.foot c g with q | q
      · exact fg c f q
      · exact bu.has f q
    · by_cases q : b = w
      · subst q; rw [hw'] at e; cases e; exact upd_same _ _ _
      · rw [upd_ne _ _ q]
        exact kg'.but b o' (by rw [upd_ne _ _ q]; exact e) ng
  · have c : ¬ (i : Int) < (s4.len : Int) := c
    obtain rfl : i = l.length := by omega
    refine ⟨0, hw', fun o => y G _ (stab _ _ _ _ (· = w) jg (.upd rfl) fun c q g => gw (q ▸ g)) ⟨fun b o' e ng => ?_, kg.foot, fun c q => kg.dom c (upd_none.1 q).2⟩⟩
    have hbw : b ≠ w := fun q => by rw [q, hw0] at e; cases e
    rw [upd_ne _ _ hbw]; exact kg.but b o' e ng
end
end Go.Proofs.Ytiajjcboddaenaa.K
