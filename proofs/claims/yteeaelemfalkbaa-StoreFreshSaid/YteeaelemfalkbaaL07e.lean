/- law07.StoreAll. -/
import Derived.Test.YteeaelemfalkbaaL07d
import Derived.Test.YteeaelemfalkbaaR2
namespace Go.Proofs.Yteeaelemfalkbaa.K
open Go
section
variable {h : H} {s q : Nat} {F P G : Nat → Prop} {most : Int} {np : Nat} {next : Int} {L : List (Int × List UInt8)}
theorem t_told (x : TAt h s q F P G most np next L) {id : Int} {K : Bool → H → Prop} (y : ∀ h', Keeps h h' → K true h') : m_law07_two_told (⟨some ⟨s, 0, none⟩, some ⟨q, 0, none⟩⟩ : S_law07_two) id K h := by
  have lw := x.st.law
  have hm := lw.most
  unfold m_law07_two_told
  refine t_SSize x.st (t_RSize x.rf lw ?_)
  refine w_joinP (fun z h' => z = true ∧ Keeps h h') (fun j7 hj => w_ifT ?_ (t_SIds x.st fun s1 h1 b1 k1 f1 => t_RIds (x.rf.keep k1) lw fun s2 h2 b2 k2 f2 => t_ints07 (b1.keep k2).arr b2.arr (by rw [List.length_map]; omega) ?_)) ?_
  · rw [Bool.and_eq_true]
    exact ⟨decide_eq_true rfl, beq_self_eq_true _⟩
  · rw [decide_eq_true rfl]
    exact hj _ _ ⟨rfl, k1.trans k2⟩
  rintro _ h1 ⟨rfl, k1⟩
  have x1 := x.keep k1
  refine w_joinV true (fun j16 hj => w_ifT rfl (w_deref (w_joinV (next, next) (fun j23 hj2 => ?_) ?_))) (w_ifT rfl (t_SFree x1.st fun h2 k2 => t_RFree (x1.rf.keep k2) lw ?_))
  · obtain ⟨sl, items, r⟩ := x1.rf
    exact w_both (t_SNext x1.st (w_load r.f3 hj2)) (w_load r.f3 (t_SNext x1.st hj2))
  · rw [decide_eq_true rfl]; exact hj
  · rw [decide_eq_true rfl]
    exact y _ (k1.trans k2)
theorem t_bytes (x : TAt h s q F P G most np next L) {K : Bool → H → Prop} (y : ∀ h', Keeps h h' → K true h') : m_law07_two_bytes (⟨some ⟨s, 0, none⟩, some ⟨q, 0, none⟩⟩ : S_law07_two) K h := by
  have lw := x.st.law
  have hm := lw.most
  unfold m_law07_two_bytes
  refine w_for L.length (fun j z h' => z = (j : Int) ∧ Keeps h h') ?_ ⟨rfl, .refl _⟩
  rintro rec j _ h1 hj ⟨rfl, k1⟩ more
  have x1 := x.keep k1
  obtain ⟨sl, items, r1⟩ := x1.rf
  have hl := r1.slen
  refine w_deref (w_load r1.f2 (w_if' (fun c => ?_) fun c => ?_))
  · have hjl : j < L.length := by omega
    obtain ⟨id, v, e⟩ : ∃ id v, L[j]? = some (id, v) := ⟨L[j].1, L[j].2, List.getElem?_eq_getElem hjl⟩
    have hlk : alook L id = some v := Once.look (nodup_of lw.rising) (List.mem_of_getElem? e)
    have hv : v.length ≤ 4096 := lw.sizes (id, v) (List.mem_of_getElem? e)
    obtain ⟨b, e1, bu⟩ := r1.item e
    refine w_deref (w_load r1.f2 (w_get ob_len7 r1.buf.arr e1 rfl (v' := (⟨id, b⟩ : S_ref07_Object)) rfl ?_))
    have hbl := bu.len
    refine w_loop (fun z => v.length - z.toNat) (fun z h' => ∃ a : Nat, z = (a : Int) ∧ a ≤ v.length + 1024 ∧ Keeps h1 h') ?_ ⟨0, rfl, by omega, .refl _⟩
    rintro rec2 _ h2 ⟨a, rfl, ha, k2⟩ more2
    refine w_if' (fun c2 => ?_) fun c2 => ?_
    · have c2 : (a : Int) < (b.len : Int) := c2
      have hal : a < v.length := by omega
      show m_store_Store_Read (some ⟨s, 0, none⟩) id (a : Int) (iMin 1024 (iSub .i64 (b.len : Int) (a : Int))) _ h2
      rw [hbl, is_ v.length a (by omega) (by omega)]
      have em := imn 1024 (v.length - a)
      rw [show ((1024 : Nat) : Int) = 1024 from rfl] at em
      rw [em]
      have x2 := x1.keep k2
      refine t_SRead x2.st (fun e => by rw [hlk] at e; cases e) (fun bs e r => ?_) fun bs e r sl3 h3 b3 k3 f3 => ?_
      · rw [hlk] at e; cases e
        refine absurd ?_ r
        unfold inR; omega
      rw [hlk] at e; cases e
      rw [Int.toNat_natCast, Int.toNat_natCast] at b3
      refine w_joinV false (fun j15 hj15 => w_ifF rfl ?_) (w_ifF rfl ?_)
      · rw [ia a _ (by omega)]
        refine w_mid u8_len ((bu.keep k2).keep k3).arr (lo := a) (hi := a + min 1024 (v.length - a)) (by omega) (by omega) rfl rfl fun s4 a4 _ _ _ => t_same07 b3.arr a4 ?_
        rw [show a + min 1024 (v.length - a) - a = min 1024 (v.length - a) by omega, decide_eq_true rfl]
        exact hj15
      · have := ia a 1024 (by omega)
        rw [show ((1024 : Nat) : Int) = 1024 from rfl] at this
        rw [this]
        exact more2 _ _ ⟨a + 1024, rfl, by omega, k2.trans k3⟩ (by rw [Int.toNat_natCast, Int.toNat_natCast]; omega)
    · rw [ia1 j (by omega)]
      exact more _ _ hjl ⟨rfl, k1.trans k2⟩
  · exact y h1 k1
theorem t_begins {objects pages : Int} {K : S_law07_two × Bool → H → Prop} (bad : (objects < 1 ∨ 64 < objects ∨ pages < 1 ∨ 256 < pages) → K (⟨none, none⟩, true) h)
    (good : 1 ≤ objects → objects ≤ 64 → 1 ≤ pages → pages ≤ 256 → ∀ s q F P G h', TAt h' s q F P G objects pages.toNat 1 [] → Keeps h h' → (∀ c, F c ∨ P c ∨ G c → h c = none) → K (⟨some ⟨s, 0, none⟩, some ⟨q, 0, none⟩⟩, true) h') : m_law07_begins objects pages K h := by
  unfold m_law07_begins
  refine t_SNew (fun e => t_RNew (fun _ => bad e) fun g1 g2 g3 g4 => by omega) fun g1 g2 g3 g4 s F P h1 x1 k1 f1 p1 => t_RNew (fun e => by omega) fun _ _ _ _ q h2 r2 k2 fq => ?_
  refine good g1 g2 g3 g4 s q F P (· = q) h2 ⟨x1.keep k2, r2, fun c e => ?_⟩ (k1.trans k2) fun c e => ?_
  · subst e
    exact ⟨fun f => x1.has f fq, fun z => by rcases x1.hasP z with w | w <;> exact w.has fq⟩
  · rcases e with e | e | e
    · exact f1 c e
    · exact p1 c e
    · subst e; exact k1.fresh fq
theorem op_len7 : ∀ x : S_law07_Op, (S_law07_Op.cells x).length = 6 := fun _ => rfl
/-- Two pairs of stores, apart. -/
structure PairAt (h0 h : H) (most : Int) (np : Nat) (s1 q1 s2 q2 : Nat) (F1 F2 : Nat → Prop) (P1 G1 P2 G2 : Nat → Prop) : Prop where
  a : ∃ next L, TAt h s1 q1 F1 P1 G1 most np next L
  b : ∃ next L, TAt h s2 q2 F2 P2 G2 most np next L
  dj : ∀ c, F1 c ∨ P1 c ∨ G1 c → ¬ (F2 c ∨ P2 c ∨ G2 c)
  n1 : ∀ c, F1 c ∨ P1 c ∨ G1 c → h0 c = none
  n2 : ∀ c, F2 c ∨ P2 c ∨ G2 c → h0 c = none
  k : Keeps h0 h
theorem PairAt.swap {h0 : H} {s1 q1 s2 q2 : Nat} {F1 F2 P1 G1 P2 G2 : Nat → Prop} (x : PairAt h0 h most np s1 q1 s2 q2 F1 F2 P1 G1 P2 G2) : PairAt h0 h most np s2 q2 s1 q1 F2 F1 P2 G2 P1 G1 := ⟨x.b, x.a, fun c z w => x.dj c w z, x.n2, x.n1, x.k⟩
theorem PairAt.keep {h0 : H} {s1 q1 s2 q2 : Nat} {F1 F2 P1 G1 P2 G2 : Nat → Prop} (x : PairAt h0 h most np s1 q1 s2 q2 F1 F2 P1 G1 P2 G2) {h' : H} (k : Keeps h h') : PairAt h0 h' most np s1 q1 s2 q2 F1 F2 P1 G1 P2 G2 := by
  obtain ⟨n, L, a⟩ := x.a
  obtain ⟨n', L', b⟩ := x.b
  exact ⟨⟨n, L, a.keep k⟩, ⟨n', L', b.keep k⟩, x.dj, x.n1, x.n2, x.k.trans k⟩
theorem PairAt.play {h0 : H} {s1 q1 s2 q2 : Nat} {F1 F2 P1 G1 P2 G2 : Nat → Prop} (x : PairAt h0 h most np s1 q1 s2 q2 F1 F2 P1 G1 P2 G2) {o : S_law07_Op} {ds : List UInt8} (ar : Arr cU8 h0 o.Data ds) (hd : ds.length ≤ 140737488351232) {K : Bool → H → Prop}
    (y : ∀ h' P1' G1', PairAt h0 h' most np s1 q1 s2 q2 F1 F2 P1' G1' P2 G2 → K true h') : m_law07_two_play (⟨some ⟨s1, 0, none⟩, some ⟨q1, 0, none⟩⟩ : S_law07_two) o K h := by
  obtain ⟨n, L, a⟩ := x.a
  obtain ⟨n', L', b⟩ := x.b
  refine t_play a (ar.keep x.k) hd (fun ne c f => ?_) fun h1 P1' G1' next' L1 a1 hp hg b1 d1 => y h1 P1' G1' ⟨⟨_, _, a1⟩, ⟨_, _, b.other b1 fun c z => ?_⟩, fun c z w => ?_, fun c z => ?_, x.n2, x.k.but b1 fun c z => x.n1 c ?_⟩
  · obtain ⟨ad, ha, z⟩ := ar.at_ ne
    obtain ⟨ad', ha', rfl⟩ := f
    rw [ha] at ha'; cases ha'
    obtain ⟨_, hz⟩ := z.ex
    exact ⟨fun f => (by rw [x.n1 _ (.inl f)] at hz; cases hz), fun g => (by rw [x.n1 _ (.inr (.inr g))] at hz; cases hz)⟩
  · have := x.dj c (z.imp (fun f => f) fun g => .inr g)
    simp only [not_or] at this
    exact this
  · have old : F1 c ∨ P1 c ∨ G1 c := by
      rcases z with z | z | z
      · exact .inl z
      · exact (hp c z).elim (fun w => .inr (.inl w)) fun e => absurd e (b.has w)
      · exact (hg c z).elim (fun w => .inr (.inr w)) fun e => absurd e (b.has w)
    exact x.dj c old w
  · rcases z with z | z | z
    · exact x.n1 c (.inl z)
    · exact (hp c z).elim (fun w => x.n1 c (.inr (.inl w))) fun e => x.k.fresh e
    · exact (hg c z).elim (fun w => x.n1 c (.inr (.inr w))) fun e => x.k.fresh e
  · exact z.imp (fun f => f) fun g => .inr g
theorem t_StoreAll {objects pages : Int} {s0 : Sl} {ops : List S_law07_Op} (ar : Arr S_law07_Op.cells h s0 ops) (g : ∀ o ∈ ops, ∃ ds, Arr cU8 h o.Data ds ∧ ds.length ≤ 140737488351232) (hn : ops.length ≤ 2 ^ 48) {K : Bool → H → Prop} (y : ∀ h', Keeps h h' → K true h') : m_law07_StoreAll objects pages s0 K h := by
  have hal := ar.len
  unfold m_law07_StoreAll
  refine t_head07 fun h1 k1 => w_ifF rfl (t_begins (fun _ => w_ifT rfl (y h1 k1)) fun g1 g2 g3 g4 s1 q1 F1 P1 G1 h2 x2 k2 f2 => w_ifF rfl (t_begins (fun e => by omega) fun _ _ _ _ s2 q2 F2 P2 G2 h3 x3 k3 f3 => w_ifF rfl ?_))
  have p0 : PairAt h h3 objects pages.toNat s1 q1 s2 q2 F1 F2 P1 G1 P2 G2 := ⟨⟨_, _, x2.keep k3⟩, ⟨_, _, x3⟩, fun c z w => x2.has z (f3 c w), fun c z => k1.fresh (f2 c z), fun c z => k1.fresh (k2.fresh (f3 c z)), (k1.trans k2).trans k3⟩
  clear x2 x3 f2 f3 k1 k2 k3
  refine w_for ops.length (fun j z h' => z = (j : Int) ∧ ∃ P1 G1 P2 G2, PairAt h h' objects pages.toNat s1 q1 s2 q2 F1 F2 P1 G1 P2 G2) ?_ ⟨rfl, P1, G1, P2, G2, p0⟩
  clear p0 P1 G1 P2 G2
  rintro rec j _ h4 hj ⟨rfl, P1, G1, P2, G2, x4⟩ more
  refine w_if' (fun c => ?_) fun c => ?_
  · have hjl : j < ops.length := by omega
    have eo : ops[j]? = some ops[j] := List.getElem?_eq_getElem hjl
    have ho : ops[j] ∈ ops := List.getElem_mem hjl
    generalize ops[j] = o at eo ho
    obtain ⟨ds, ard, hd⟩ := g o ho
    have fWhich : ∀ {h' : H} {k : Int → H → Prop}, Keeps h h' → k o.Which h' → mIdx s0 (j : Int) 6 (fun a => mLoad (cInt .i64) (a.add 1) k) h' := fun kk z => w_field op_len7 (ar.keep kk) eo rfl (l1 := [.int .i64 o.Kind]) (l3 := [.int .i64 o.Id, .int .i64 o.Off, .int .i64 o.N, Sl.val o.Data]) rfl rfl z
    have fId : ∀ {h' : H} {k : Int → H → Prop}, Keeps h h' → k o.Id h' → mIdx s0 (j : Int) 6 (fun a => mLoad (cInt .i64) (a.add 2) k) h' := fun kk z => w_field op_len7 (ar.keep kk) eo rfl (l1 := [.int .i64 o.Kind, .int .i64 o.Which]) (l3 := [.int .i64 o.Off, .int .i64 o.N, Sl.val o.Data]) rfl rfl z
    refine w_joinP (fun z h' => h' = h4 ∧ (z = (some ⟨s1, 0, none⟩, some ⟨q1, 0, none⟩) ∨ z = (some ⟨s2, 0, none⟩, some ⟨q2, 0, none⟩))) (fun j7 hj7 => fWhich x4.k (w_if (fun _ => hj7 _ _ ⟨rfl, .inr rfl⟩) fun _ => hj7 _ _ ⟨rfl, .inl rfl⟩)) ?_
    rintro z _ ⟨rfl, cs⟩
    refine w_get op_len7 (ar.keep x4.k) eo rfl (v' := o) rfl ?_
    apply w_meet (fun h5 => ∃ P1 G1 P2 G2, PairAt h h5 objects pages.toNat s1 q1 s2 q2 F1 F2 P1 G1 P2 G2)
    · intro fin
      rcases cs with rfl | rfl
      · exact x4.play ard hd fun h5 P1' G1' x5 => fin h5 ⟨P1', G1', P2, G2, x5⟩
      · exact x4.swap.play ard hd fun h5 P2' G2' x5 => fin h5 ⟨P1, G1, P2', G2', x5.swap⟩
    · rintro h5 ⟨P1, G1, P2, G2, x5⟩
      refine w_joinP (fun z h' => z = false ∧ Keeps h5 h') (fun j15 hj15 => w_ifF rfl (fId x5.k ?_)) ?_
      · obtain ⟨n, L, a⟩ := x5.a
        exact t_told a fun h6 k6 => hj15 _ _ ⟨rfl, k6⟩
      rintro _ h6 ⟨rfl, k6⟩
      have x6 := x5.keep k6
      refine w_joinP (fun z h' => z = false ∧ Keeps h6 h') (fun j20 hj20 => w_ifF rfl (fId x6.k ?_)) ?_
      · obtain ⟨n, L, b⟩ := x6.b
        exact t_told b fun h7 k7 => hj20 _ _ ⟨rfl, k7⟩
      rintro _ h7 ⟨rfl, k7⟩
      refine w_ifF rfl ?_
      rw [ia1 j (by omega)]
      exact more _ _ hjl ⟨rfl, P1, G1, P2, G2, x6.keep k7⟩
  · obtain ⟨n, L, a⟩ := x4.a
    refine t_bytes a fun h5 k5 => w_ifT rfl ?_
    obtain ⟨n2, L2, b⟩ := (x4.keep k5).b
    exact t_bytes b fun h6 k6 => y h6 ((x4.k.trans k5).trans k6)
end
end Go.Proofs.Yteeaelemfalkbaa.K
