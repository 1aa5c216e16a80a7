/- law07: the program's store beside the document's. -/
import Derived.Test.YteeaelemfalkbaaRf7b
namespace Go.Proofs.Yteeaelemfalkbaa.K
open Go
/-- Both stores hold the same. -/
structure TAt (h : H) (s q : Nat) (F P G : Nat → Prop) (most : Int) (np : Nat) (next : Int) (L : List (Int × List UInt8)) : Prop where
  st : SAt h s F P most np next L
  rf : RAt h q G most np next L
  dj : ∀ c, G c → ¬ F c ∧ ¬ P c
section
variable {h : H} {s q : Nat} {F P G : Nat → Prop} {most : Int} {np : Nat} {next : Int} {L : List (Int × List UInt8)}
theorem TAt.keep (x : TAt h s q F P G most np next L) {h' : H} (k : Keeps h h') : TAt h' s q F P G most np next L := ⟨x.st.keep k, x.rf.keep k, x.dj⟩
theorem TAt.other (x : TAt h s q F P G most np next L) {h' : H} {X : Nat → Prop} (k : But X h h') (f : ∀ c, X c → ¬ F c ∧ ¬ P c ∧ ¬ G c) : TAt h' s q F P G most np next L :=
  ⟨x.st.other k fun c z _ => ⟨(f c z).1, (f c z).2.1⟩, x.rf.other k fun c z _ => (f c z).2.2, x.dj⟩
theorem TAt.has (x : TAt h s q F P G most np next L) {c : Nat} (f : F c ∨ P c ∨ G c) : h c ≠ none := by
  rcases f with f | f | f
  · exact x.st.has f
  · rcases x.st.hasP f with z | z <;> exact z.has
  · exact x.rf.has f
/-- The program's store has changed, then the document's. -/
theorem TAt.both (x : TAt h s q F P G most np next L) {h1 h2 : H} {P1 G2 : Nat → Prop} {next1 : Int} {L1 : List (Int × List UInt8)} (st1 : SAt h1 s F P1 most np next1 L1) (hp1 : ∀ c, P1 c → P c ∨ h c = none) (c1 : SChg F h h1) (rf2 : RAt h2 q G2 most np next1 L1) (hg2 : ∀ c, G2 c → G c ∨ h1 c = none) (b2 : But G h1 h2) (d2 : ∀ c, h2 c = none → h1 c = none) {R : Prop}
    (y : TAt h2 s q F P1 G2 most np next1 L1 → (∀ c, P1 c → P c ∨ h c = none) → (∀ c, G2 c → G c ∨ h c = none) → But (fun c => F c ∨ G c) h h2 → (∀ c, h2 c = none → h c = none) → R) : R := by
  have gp : ∀ c, G c → ¬ P1 c := fun c g z => (hp1 c z).elim (x.dj c g).2 (x.rf.has g)
  have p1 : ∀ c, P1 c → h1 c ≠ none := fun c z => by rcases st1.hasP z with w | w <;> exact w.has
  refine y ⟨st1.other b2 fun c g _ => ⟨(x.dj c g).1, gp c g⟩, rf2, fun c g => ?_⟩ hp1 (fun c g => (hg2 c g).imp (fun z => z) (c1.dom c)) ((c1.but.mono fun _ f => .inl f).trans b2 fun _ g => .inl (.inr g)) fun c e => c1.dom c (d2 c e)
  rcases hg2 c g with z | z
  · exact ⟨(x.dj c z).1, gp c z⟩
  · exact ⟨fun f => st1.has f z, fun w => p1 c w z⟩
theorem TAt.rf1 (x : TAt h s q F P G most np next L) {h1 : H} (c1 : SChg F h h1) : RAt h1 q G most np next L := x.rf.other c1.but fun c f _ g => (x.dj c g).1 f
def marks : List UInt8 := (List.range 300).map fun i => UInt8.ofNat i
theorem mark_eq (i : Nat) : IntKind.wrap .u8 (i : Int) = ((UInt8.ofNat i).toNat : Int) := by
  rw [wrap_u8, UInt8.toNat_ofNat']; omega
theorem t_lent {sl : Sl} {ds : List UInt8} (ar : Arr cU8 h sl ds) (hd : ds.length ≤ 140737488351232) {K : Sl → H → Prop} (y : ∀ r h', Buf cU8 1 N_u8 h' r (ds ++ marks) → Keeps h h' → (∀ c, r.foot c → h c = none) → K r h') : m_law07_lent sl K h := by
  unfold m_law07_lent
  refine w_append (by_ := 1) u8_len u8_plain rfl Buf.nil ar (.inr ⟨rfl, by omega⟩) fun s1 h1 b1 k1 f1 d1 => ?_
  have k1 : Keeps h h1 := fun c o e => k1 c o e fun ⟨a, ha, _⟩ => by cases ha
  have f1 : ∀ c, s1.foot c → h c = none := fun c f => (f1 c f).elim (fun ⟨a, ha, _⟩ => by cases ha) fun z => z
  rw [List.nil_append] at b1
  refine w_for 300 (fun j z h' => z.2 = (j : Int) ∧ Buf cU8 1 N_u8 h' z.1 (ds ++ (List.range j).map fun i => UInt8.ofNat i) ∧ Keeps h h' ∧ ∀ c, z.1.foot c → h c = none) ?_ ⟨rfl, by simpa using b1, k1, f1⟩
  rintro rec j ⟨s2, _⟩ h2 hj ⟨rfl, b2, k2, f2⟩ more
  refine w_if' (fun c => ?_) fun c => ?_
  · have c : (j : Int) < 300 := c
    refine w_app (by_ := 1) u8_len rfl b2 [UInt8.ofNat j] (by show [Value.int .u8 (IntKind.wrap .u8 (j : Int))] = _; rw [mark_eq]; rfl) rfl (.inl (by rw [List.length_append, List.length_map, List.length_range]; simp only [List.length_singleton]; omega)) fun s3 h3 b3 k3 f3 d3 => ?_
    show rec (s3, iAdd .i64 (j : Int) 1) h3
    rw [ia1 j (by omega)]
    refine more _ _ (by omega) ⟨rfl, ?_, k2.but k3 f2, fun c f => (f3 c f).elim (f2 c) fun z => k2.fresh z⟩
    rw [List.range_succ, List.map_append, ← List.append_assoc]
    exact b3
  · have c : ¬ (j : Int) < 300 := c
    obtain rfl : j = 300 := by omega
    exact y s2 h2 b2 k2 f2
/-- A row of bytes is written over. -/
theorem w_fill {r : Sl} {xs : List UInt8} (bu : Buf cU8 1 N_u8 h r xs) (hn : xs.length ≤ 2 ^ 60) {v : UInt8} {vi : Int} (hv : vi = v.toNat) {done : H → Prop} (y : ∀ h', But r.foot h h' → (∀ c, h' c = none → h c = none) → done h') :
    mLoop (fun (rec : Int → H → Prop) (i : Int) => mIf (decide (i < (r.len : Int))) (mIdx r i 1 fun ad => mStore ad [(Value.int .u8 vi)] <| rec (iAdd .i64 i 1)) done) 0 h := by
  subst hv
  have hl := bu.len
  refine w_for xs.length (fun j z h' => z = (j : Int) ∧ (∃ ys, Buf cU8 1 N_u8 h' r ys ∧ ys.length = xs.length) ∧ But r.foot h h' ∧ ∀ c, h' c = none → h c = none) ?_ ⟨rfl, ⟨xs, bu, rfl⟩, .refl _ _, fun _ e => e⟩
  rintro rec j _ h1 hj ⟨rfl, ⟨ys, b1, l1⟩, k1, d1⟩ more
  refine w_if' (fun c => ?_) fun c => ?_
  · refine w_put u8_len b1 (i := j) (by omega) rfl v rfl fun h2 b2 k2 d2 => ?_
    rw [ia1 j (by omega)]
    exact more _ _ (by omega) ⟨rfl, ⟨_, b2, by rw [List.length_set]; exact l1⟩, k1.trans k2 fun _ f => .inl f, fun c e => d1 c (d2 c e)⟩
  · exact y h1 k1 d1
theorem t_play (x : TAt h s q F P G most np next L) {o : S_law07_Op} {ds : List UInt8} (ar : Arr cU8 h o.Data ds) (hd : ds.length ≤ 140737488351232) (ft : ds ≠ [] → ∀ c, o.Data.foot c → ¬ F c ∧ ¬ G c) {K : Bool → H → Prop}
    (y : ∀ h' P' G' next' L', TAt h' s q F P' G' most np next' L' → (∀ c, P' c → P c ∨ h c = none) → (∀ c, G' c → G c ∨ h c = none) → But (fun c => F c ∨ G c) h h' → (∀ c, h' c = none → h c = none) → K true h') : m_law07_two_play (⟨some ⟨s, 0, none⟩, some ⟨q, 0, none⟩⟩ : S_law07_two) o K h := by
  have lw := x.st.law
  have kp : ∀ h', Keeps h h' → K true h' := fun h' k => y h' P G next L (x.keep k) (fun _ z => .inl z) (fun _ z => .inl z) (.of k) fun _ e => k.fresh e
  unfold m_law07_two_play
  refine w_if (fun _ => ?_) fun _ => w_if (fun _ => ?_) fun _ => w_if (fun _ => ?_) fun _ => w_if (fun _ => ?_) fun _ => w_if (fun _ => ?_) fun _ => ?_
  · -- Create
    refine t_SCreate x.st (fun e h1 k1 => ?_) fun e h1 P1 x1 hp1 c1 => ?_
    · refine t_RCreate (x.rf.keep k1) lw (fun _ => ?_) fun e2 => absurd e2 e
      simp only [decide_true, Bool.and_self]
      exact kp h1 k1
    · refine t_RCreate (x.rf1 c1) lw (fun e2 => absurd e e2) fun _ h2 G2 r2 hg2 b2 d2 => ?_
      simp only [decide_true, Bool.and_self]
      exact x.both x1 hp1 c1 r2 hg2 b2 d2 fun z1 z2 z3 z4 z5 => y _ _ _ _ _ z1 z2 z3 z4 z5
  · -- Destroy
    refine t_SDestroy x.st (fun e => ?_) fun bs e h1 P1 x1 hp1 c1 => ?_
    · refine t_RDestroy x.rf lw (fun _ => ?_) fun bs e2 => by rw [e] at e2; cases e2
      exact kp h (.refl _)
    · refine t_RDestroy (x.rf1 c1) lw (fun e2 => by rw [e] at e2; cases e2) fun _ _ h2 G2 r2 hg2 b2 d2 => ?_
      exact x.both x1 (fun c z => .inl (hp1 c z)) c1 r2 hg2 b2 d2 fun z1 z2 z3 z4 z5 => y _ _ _ _ _ z1 z2 z3 z4 z5
  · -- Read
    have fin : ∀ {h1 h2 : H} {r5 r6 : Sl × Int} {us : List UInt8}, Buf cU8 1 N_u8 h1 r5.1 us → Keeps h h1 → (∀ c, r5.1.foot c → h c = none) → Keeps h1 h2 → Arr cU8 h2 r6.1 us → r5.2 = r6.2 → us.length ≤ 2 ^ 60 →
        m_law07_same r5.1 r6.1 (fun r7 => mLoop (fun (rec9 : Int → H → Prop) (s8 : Int) => mIf (decide (s8 < (r5.1.len : Int))) (mIdx r5.1 s8 1 fun ad10 => mStore ad10 [(Value.int .u8 165)] <| rec9 (iAdd .i64 s8 1)) (K (r7 && (decide (r5.2 = r6.2))))) 0) h2 := fun b1 k1 f1 k2 a6 e ul => by
      refine t_same07 (b1.keep k2).arr a6 ?_
      rw [decide_eq_true rfl]
      refine w_fill (b1.keep k2) ul (v := 165) rfl fun h3 k3 d3 => ?_
      rw [decide_eq_true e]
      exact kp h3 ((k1.trans k2).but k3 f1)
    have nul : ∀ h', Buf cU8 1 N_u8 h' Sl.nil ([] : List UInt8) := fun h' => Buf.nil
    refine t_SRead x.st (fun e h1 k1 => ?_) (fun bs e r h1 k1 => ?_) fun bs e r sl h1 b1 k1 f1 => ?_
    · exact t_RRead (x.rf.keep k1) lw (fun _ => fin (us := []) (nul _) k1 (fun c ⟨a, ha, _⟩ => by cases ha) (.refl _) (nul _).arr rfl (by simp)) (fun bs e2 => by rw [e] at e2; cases e2) fun bs e2 => by rw [e] at e2; cases e2
    · refine t_RRead (x.rf.keep k1) lw (fun e2 => by rw [e] at e2; cases e2) (fun bs2 e2 _ => fin (us := []) (nul _) k1 (fun c ⟨a, ha, _⟩ => by cases ha) (.refl _) (nul _).arr rfl (by simp)) fun bs2 e2 r2 => ?_
      rw [e] at e2; cases e2; exact absurd r2 r
    · refine t_RRead (x.rf.keep k1) lw (fun e2 => by rw [e] at e2; cases e2) (fun bs2 e2 r2 => ?_) fun bs2 e2 r2 sl2 h2 b2 k2 f2 => ?_
      · rw [e] at e2; cases e2; exact absurd r r2
      · rw [e] at e2; cases e2
        refine fin b1 k1 f1 k2 b2.arr rfl ?_
        unfold inR at r
        rw [List.length_take]; omega
  · -- Write
    have rest : ∀ {h1 : H} {G1 : Nat → Prop} {L1 : List (Int × List UInt8)} {r11 : Int}, RAt h1 q G1 most np next L1 → (∀ c, G1 c → G c) → But G h h1 → (∀ c, h1 c = none → h c = none) →
        ((r11 = 20 ∧ alook L o.Id = none ∧ L1 = L) ∨ (∃ bs, alook L o.Id = some bs ∧ ((r11 = 5 ∧ ¬ inR bs.length o.Off ds.length ∧ L1 = L) ∨ (r11 = 0 ∧ inR bs.length o.Off ds.length ∧ L1 = wrL L o.Id o.Off.toNat ds)))) →
        m_law07_lent o.Data (fun r12 => mCut r12 0 (o.Data.len : Int) 1 fun s13 => m_store_Store_Write (some ⟨s, 0, none⟩) o.Id o.Off s13 fun r14 => m_law07_lent o.Data fun r15 => m_law07_same r12 r15 fun r16 =>
          mLoop (fun (rec18 : Int → H → Prop) (s17 : Int) => mIf (decide (s17 < (r12.len : Int))) (mIdx r12 s17 1 fun ad19 => mStore ad19 [(Value.int .u8 90)] <| rec18 (iAdd .i64 s17 1)) (K ((decide (r14 = r11)) && r16))) 0) h1 := fun {h1 G1 L1 r11} rf1 hg1 b1 d1 cs => by
      have st1 : SAt h1 s F P most np next L := x.st.other b1 fun c g _ => x.dj c g
      have ar1 := ar.but b1 fun ne a ha g => (ft ne _ ⟨a, ha, rfl⟩).2 g
      refine t_lent ar1 hd fun r12 h2 b2 k2 f2 => ?_
      have hal := ar.len
      refine w_take b2.arr (n := ds.length) (by simp) rfl (by rw [hal]) fun s13 a13 f13 _ => ?_
      rw [List.take_left] at a13
      have st2 := st1.keep k2
      have nF : ∀ c, r12.foot c → ¬ F c := fun c f => st2.not (b2.typed f) (by decide)
      -- behind the program's write
      have fin : ∀ {h3 : H} {L3 : List (Int × List UInt8)} {r14 : Int}, SAt h3 s F P most np next L3 → SChg F h2 h3 → r14 = r11 → L3 = L1 → m_law07_lent o.Data (fun r15 => m_law07_same r12 r15 fun r16 =>
          mLoop (fun (rec18 : Int → H → Prop) (s17 : Int) => mIf (decide (s17 < (r12.len : Int))) (mIdx r12 s17 1 fun ad19 => mStore ad19 [(Value.int .u8 90)] <| rec18 (iAdd .i64 s17 1)) (K ((decide (r14 = r11)) && r16))) 0) h3 := fun {h3 L3 r14} st3 c3 er eL => by
        subst er; subst eL
        have ar3 := (ar1.keep k2).but c3.but fun ne a ha g => (ft ne _ ⟨a, ha, rfl⟩).1 g
        refine t_lent ar3 hd fun r15 h4 b4 k4 f4 => ?_
        have b24 := (b2.but c3.but fun a ha => nF _ ⟨a, ha, rfl⟩).keep k4
        refine t_same07 b24.arr b4.arr ?_
        rw [decide_eq_true rfl]
        refine w_fill b24 (by rw [List.length_append]; have : marks.length = 300 := by unfold marks; rw [List.length_map, List.length_range]
                              omega) (v := 90) rfl fun h5 k5 d5 => ?_
        rw [decide_eq_true rfl]
        have fr : ∀ c, r12.foot c → h c = none := fun c f => d1 c (f2 c f)
        have st5 : SAt h5 s F P most np next L3 := (st3.keep k4).other k5 fun c f _ => ⟨nF c f, fun z => (by rcases x.st.hasP z with w | w <;> exact w.has (fr c f))⟩
        have rf5 : RAt h5 q G1 most np next L3 := ((rf1.keep k2).other c3.but fun c f _ g => (x.dj c (hg1 c g)).1 f).keep k4 |>.other k5 fun c f _ g => x.rf.has (hg1 c g) (fr c f)
        refine y h5 P G1 next L3 ⟨st5, rf5, fun c g => x.dj c (hg1 c g)⟩ (fun _ z => .inl z) (fun c g => .inl (hg1 c g)) ?_ fun c e => d1 c (k2.fresh (c3.dom c (k4.fresh (d5 c e))))
        intro c o' e nf
        exact k5 _ _ (k4 _ _ (c3.but _ _ (k2 _ _ (b1 _ _ e fun g => nf (.inr g))) fun f => nf (.inl f))) fun f => by rw [fr c f] at e; cases e
      refine t_SWrite st2 a13 (fun _ c f => nF c (f13 c f)) (fun e h3 k3 => ?_) (fun bs e r h3 k3 => ?_) fun bs e r h3 x3 c3 => ?_
      · refine fin (st2.keep k3) (.keeps k3) ?_ ?_
        · rcases cs with ⟨z, _, _⟩ | ⟨bs, z, _⟩
          · exact z.symm
          · rw [e] at z; cases z
        · rcases cs with ⟨_, _, z⟩ | ⟨bs, z, _⟩
          · exact z.symm
          · rw [e] at z; cases z
      · rcases cs with ⟨_, z, _⟩ | ⟨bs2, z, w⟩
        · rw [e] at z; cases z
        · rw [e] at z; cases z
          rcases w with ⟨w1, w2, w3⟩ | ⟨w1, w2, w3⟩
          · exact fin (st2.keep k3) (.keeps k3) w1.symm w3.symm
          · exact absurd w2 r
      · rcases cs with ⟨_, z, _⟩ | ⟨bs2, z, w⟩
        · rw [e] at z; cases z
        · rw [e] at z; cases z
          rcases w with ⟨w1, w2, w3⟩ | ⟨w1, w2, w3⟩
          · exact absurd r w2
          · exact fin x3 c3 w1.symm w3.symm
    refine t_RWrite x.rf lw ar (fun ne c f => (ft ne c f).2) (fun e => ?_) (fun bs e r => ?_) fun bs e r h1 r1 b1 d1 => ?_
    · exact rest x.rf (fun _ g => g) (.refl _ _) (fun _ e => e) (.inl ⟨rfl, e, rfl⟩)
    · exact rest x.rf (fun _ g => g) (.refl _ _) (fun _ e => e) (.inr ⟨bs, e, .inl ⟨rfl, r, rfl⟩⟩)
    · exact rest r1 (fun _ g => g) b1 d1 (.inr ⟨bs, e, .inr ⟨rfl, r, rfl⟩⟩)
  · -- SetNext
    refine t_SSetNext x.st (fun e h1 k1 => ?_) fun e h1 x1 c1 => ?_
    · refine t_RSetNext (x.rf.keep k1) lw (fun _ => kp h1 k1) fun e2 => by rw [e] at e2; cases e2
    · refine t_RSetNext (x.rf1 c1) lw (fun e2 => by rw [e] at e2; cases e2) fun _ h2 r2 b2 d2 => ?_
      exact x.both x1 (fun _ z => .inl z) c1 r2 (fun _ g => .inl g) b2 d2 fun z1 z2 z3 z4 z5 => y _ _ _ _ _ z1 z2 z3 z4 z5
  · -- May
    refine t_SMay x.st fun h1 k1 => t_RMay (x.rf.keep k1) lw ?_
    rw [decide_eq_true rfl]
    exact kp h1 k1
end
end Go.Proofs.Yteeaelemfalkbaa.K
