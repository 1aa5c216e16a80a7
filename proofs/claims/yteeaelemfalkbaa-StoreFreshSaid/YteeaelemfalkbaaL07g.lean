/- law07.StoreFresh. -/
import Derived.Test.YteeaelemfalkbaaL07f
namespace Go.Proofs.Yteeaelemfalkbaa.K
open Go
section
variable {h : H} {s q : Nat} {F P G : Nat → Prop} {most : Int} {np : Nat} {next : Int} {L : List (Int × List UInt8)}
/-- What a reading gives. -/
def rdV (L : List (Int × List UInt8)) (id off n : Int) : List UInt8 := match alook L id with
  | none => []
  | some bs => if inR bs.length off n then (bs.drop off.toNat).take n.toNat else []
def rdE (L : List (Int × List UInt8)) (id off n : Int) : Int := match alook L id with
  | none => 20
  | some bs => if inR bs.length off n then 0 else 5
theorem rdV_len (L : List (Int × List UInt8)) (id off n : Int) : (rdV L id off n).length ≤ 1024 := by
  unfold rdV
  split
  · simp
  · split
    · rename_i c
      unfold inR at c
      rw [List.length_take]; omega
    · simp
theorem t_SReadX (x : SAt h s F P most np next L) {id off n : Int} {K : Sl × Int → H → Prop} (y : ∀ sl h', Buf cU8 1 N_u8 h' sl (rdV L id off n) → Keeps h h' → (∀ c, sl.foot c → h c = none) → K (sl, rdE L id off n) h') : m_store_Store_Read (some ⟨s, 0, none⟩) id off n K h := by
  unfold rdV rdE at y
  refine t_SRead x (fun e h' k => ?_) (fun bs e r h' k => ?_) fun bs e r sl h' b k f => ?_
  · rw [e] at y; exact y Sl.nil h' Buf.nil k fun c ⟨a, ha, _⟩ => by cases ha
  · rw [e] at y; simp only [if_neg r] at y; exact y Sl.nil h' Buf.nil k fun c ⟨a, ha, _⟩ => by cases ha
  · rw [e] at y; simp only [if_pos r] at y; exact y sl h' b k f
theorem t_RReadX (x : RAt h q G most np next L) (lw : SLaw most np next L) {id off n : Int} {K : Sl × Int → H → Prop} (y : ∀ sl h', Buf cU8 1 N_u8 h' sl (rdV L id off n) → Keeps h h' → (∀ c, sl.foot c → h c = none) → K (sl, rdE L id off n) h') : m_ref07_Store_Read (some ⟨q, 0, none⟩) id off n K h := by
  unfold rdV rdE at y
  refine t_RRead x lw (fun e => ?_) (fun bs e r => ?_) fun bs e r sl h' b k f => ?_
  · rw [e] at y; exact y Sl.nil h Buf.nil (.refl _) fun c ⟨a, ha, _⟩ => by cases ha
  · rw [e] at y; simp only [if_neg r] at y; exact y Sl.nil h Buf.nil (.refl _) fun c ⟨a, ha, _⟩ => by cases ha
  · rw [e] at y; simp only [if_pos r] at y; exact y sl h' b k f
structure OneAt (h0 h : H) (most : Int) (np s q : Nat) (F P G : Nat → Prop) : Prop where
  a : ∃ next L, TAt h s q F P G most np next L
  n1 : ∀ c, F c ∨ P c ∨ G c → h0 c = none
  k : Keeps h0 h
theorem OneAt.play {h0 : H} (x : OneAt h0 h most np s q F P G) {o : S_law07_Op} {ds : List UInt8} (ar : Arr cU8 h0 o.Data ds) (hd : ds.length ≤ 140737488351232) {K : Bool → H → Prop}
    (y : ∀ h' P' G', OneAt h0 h' most np s q F P' G' → K true h') : m_law07_two_play (⟨some ⟨s, 0, none⟩, some ⟨q, 0, none⟩⟩ : S_law07_two) o K h := by
  obtain ⟨n, L, a⟩ := x.a
  refine t_play a (ar.keep x.k) hd (fun ne c f => ?_) fun h1 P1' G1' next' L1 a1 hp hg b1 d1 => y h1 P1' G1' ⟨⟨_, _, a1⟩, fun c z => ?_, x.k.but b1 fun c z => x.n1 c (z.imp (fun f => f) fun g => .inr g)⟩
  · obtain ⟨ad, ha, z⟩ := ar.at_ ne
    obtain ⟨ad', ha', rfl⟩ := f
    rw [ha] at ha'; cases ha'
    obtain ⟨_, hz⟩ := z.ex
    exact ⟨fun f => (by rw [x.n1 _ (.inl f)] at hz; cases hz), fun g => (by rw [x.n1 _ (.inr (.inr g))] at hz; cases hz)⟩
  · rcases z with z | z | z
    · exact x.n1 c (.inl z)
    · exact (hp c z).elim (fun w => x.n1 c (.inr (.inl w))) fun e => x.k.fresh e
    · exact (hg c z).elim (fun w => x.n1 c (.inr (.inr w))) fun e => x.k.fresh e
def reps {α : Type} (t : Nat) (V : List α) : List α := (List.replicate t V).flatten
theorem reps_succ {α : Type} (t : Nat) (V : List α) : reps (t + 1) V = reps t V ++ V := by
  unfold reps; rw [List.replicate_succ', List.flatten_append]; simp
theorem reps_len {α : Type} (t : Nat) (V : List α) : (reps t V).length = t * V.length := by
  induction t with
  | zero => simp [reps]
  | succ t ih => rw [reps_succ, List.length_append, ih, Nat.succ_mul]
theorem reps_get {α : Type} {V : List α} : ∀ {t i : Nat}, i < t * V.length → (reps t V)[i]? = V[i % V.length]? := by
  intro t
  induction t with
  | zero => intro i hi; omega
  | succ t ih =>
    intro i hi
    rw [reps_succ, List.getElem?_append, reps_len]
    split
    · rename_i hlt; exact ih hlt
    · rename_i hge
      rw [Nat.succ_mul] at hi
      have : i % V.length = i - t * V.length := by
        conv => lhs; rw [show i = (i - t * V.length) + t * V.length by omega, Nat.add_mul_mod_self_right]
        exact Nat.mod_eq_of_lt (by omega)
      rw [this]
theorem mi_u8 (i : Nat) (hi : i < 2 ^ 40) : IntKind.wrap .u8 (iAdd .i64 (i : Int) 1) = ((UInt8.ofNat (i + 1)).toNat : Int) := by
  rw [ia1 i (by omega)]; exact mark_eq (i + 1)
theorem mi_int (i : Nat) (hi : i < 2 ^ 40) : iSub .i64 (iSub .i64 0 (i : Int)) 1 = -(i : Int) - 1 := by
  rw [iSub_eq (a := 0) (by omega) (by omega), iSub_eq (by omega) (by omega)]; omega
theorem t_StoreFresh {s0 : Sl} {ops : List S_law07_Op} (ar : Arr S_law07_Op.cells h s0 ops) (g : ∀ o ∈ ops, ∃ ds, Arr cU8 h o.Data ds ∧ ds.length ≤ 140737488351232) (hn : ops.length ≤ 2 ^ 48) {off n : Int} {K : Bool → H → Prop} (y : ∀ h', Keeps h h' → K true h') : m_law07_StoreFresh s0 off n K h := by
  have hal := ar.len
  unfold m_law07_StoreFresh
  refine t_head07 fun h1 k1 => w_ifF rfl (t_begins (fun e => by omega) fun _ _ _ _ s q F P G h2 x2 k2 f2 => w_ifF rfl ?_)
  refine w_for ops.length (fun j z h' => z = (j : Int) ∧ ∃ P G, OneAt h h' 4 64 s q F P G) ?_ ⟨rfl, P, G, ⟨⟨_, _, x2⟩, fun c z => k1.fresh (f2 c z), k1.trans k2⟩⟩
  clear x2 f2 k1 k2 P G
  rintro rec j _ h4 hj ⟨rfl, P, G, x4⟩ more
  refine w_if' (fun c => ?_) fun c => ?_
  · have hjl : j < ops.length := by omega
    have eo : ops[j]? = some ops[j] := List.getElem?_eq_getElem hjl
    have ho : ops[j] ∈ ops := List.getElem_mem hjl
    generalize ops[j] = o at eo ho
    obtain ⟨ds, ard, hd⟩ := g o ho
    refine w_get op_len7 (ar.keep x4.k) eo rfl (v' := o) rfl (x4.play ard hd fun h5 P' G' x5 => w_ifF rfl ?_)
    rw [ia1 j (by omega)]
    exact more _ _ hjl ⟨rfl, P', G', x5⟩
  clear more rec c
  obtain ⟨next, L, a4⟩ := x4.a
  have k04 := x4.k
  have n1 := x4.n1
  clear x4
  have lw := a4.st.law
  have hm := lw.most
  refine t_RIds a4.rf lw fun r8 hb b8 kb f8 => ?_
  have x := a4.keep kb
  have k0 : Keeps h hb := k04.trans kb
  have l8 := b8.len
  rw [List.length_map] at l8
  clear a4 k04 kb f8 hal g ar
  -- the rows that are read
  generalize eV : (L.map (·.1)).map (fun id => rdV L id off n) = Vs
  have hVs : ∀ v ∈ Vs, v.length ≤ 1024 := fun v hv => by
    subst eV
    obtain ⟨id, _, rfl⟩ := List.mem_map.1 hv
    exact rdV_len L id off n
  have lV : Vs.length = L.length := by subst eV; rw [List.length_map, List.length_map]
  refine w_for 2 (fun t z h' => z.2.2 = (t : Int) ∧ ∃ rs ls, Buf cSl 1 N_Sl_u8 h' z.1 rs ∧ (∀ c, z.1.foot c → hb c = none) ∧ Buf cSl 1 N_Sl_i64 h' z.2.1 ls ∧ (∀ c, z.2.1.foot c → hb c = none) ∧ RowsAt cU8 N_u8 hb h' rs (reps t Vs) ∧ RowsAt (cInt .i64) N_int hb h' ls (List.replicate t (L.map (·.1))) ∧ Keeps hb h') ?_
    ⟨rfl, [], [], Buf.nil, fun c ⟨a, ha, _⟩ => (by cases ha), Buf.nil, fun c ⟨a, ha, _⟩ => (by cases ha), RowsAt.nil, RowsAt.nil, .refl _⟩
  rintro rec t ⟨rows, lists, _⟩ h5 ht ⟨rfl, rs, ls, bR, fR, bL, fL, rR, rL, kb⟩ more
  have bR : Buf cSl 1 N_Sl_u8 h5 rows rs := bR
  have bL : Buf cSl 1 N_Sl_i64 h5 lists ls := bL
  have hrl := rR.len
  have hll := rL.len
  rw [reps_len, lV] at hrl
  rw [List.length_replicate] at hll
  refine w_if' (fun c => ?_) fun c => ?_
  · have c : (t : Int) < 2 := c
    have htL : t * L.length ≤ 4 := by
      have : t * L.length ≤ 1 * L.length := Nat.mul_le_mul_right _ (by omega)
      omega
    refine w_for L.length (fun i z h' => z.2 = (i : Int) ∧ ∃ rs, Buf cSl 1 N_Sl_u8 h' z.1 rs ∧ (∀ c, z.1.foot c → hb c = none) ∧ Buf cSl 1 N_Sl_i64 h' lists ls ∧ RowsAt cU8 N_u8 hb h' rs (reps t Vs ++ Vs.take i) ∧ RowsAt (cInt .i64) N_int hb h' ls (List.replicate t (L.map (·.1))) ∧ Keeps hb h') ?_
      ⟨rfl, rs, bR, fR, bL, by rw [List.take_zero, List.append_nil]; exact rR, rL, kb⟩
    clear bR fR rR kb hrl
    rintro rec2 i ⟨rows, _⟩ h6 hi ⟨rfl, rs, bR, fR, bL, rR, rL, kb⟩ more2
    have bR : Buf cSl 1 N_Sl_u8 h6 rows rs := bR
    have fR : ∀ c, rows.foot c → hb c = none := fR
    have hrl := rR.len
    rw [List.length_append, reps_len, lV, List.length_take, lV] at hrl
    refine w_if' (fun c2 => ?_) fun c2 => ?_
    · have c2 : (i : Int) < (r8.len : Int) := c2
      have hiL : i < L.length := by omega
      obtain ⟨id, v, e⟩ : ∃ id v, L[i]? = some (id, v) := ⟨L[i].1, L[i].2, List.getElem?_eq_getElem hiL⟩
      have e1 : (L.map (·.1))[i]? = some id := by rw [List.getElem?_map, e]; rfl
      have e2 : Vs[i]? = some (rdV L id off n) := by subst eV; rw [List.getElem?_map, e1]; rfl
      have x6 := x.keep kb
      refine w_get ci_len (b8.keep kb).arr e1 rfl (v' := id) rfl (t_SReadX x6.st fun b h7 bb k7 f7 => w_get ci_len ((b8.keep kb).keep k7).arr e1 rfl (v' := id) rfl (t_RReadX (x6.rf.keep k7) lw fun b2 h8 bb2 k8 f8 => ?_))
      refine w_joinV false (fun j21 hj21 => w_ifF (by rw [decide_eq_true rfl]; rfl) (t_same07 (bb.keep k8).arr bb2.arr ?_)) (w_ifF rfl ?_)
      · rw [decide_eq_true rfl]; exact hj21
      have k68 := k7.trans k8
      refine w_app (by_ := 24) cs_len rfl (bR.keep k68) [b] rfl rfl (.inl (by simp only [List.length_singleton]; omega)) fun s9 h9 b9 k9 f9 d9 => ?_
      show rec2 (s9, iAdd .i64 (i : Int) 1) h9
      rw [ia1 i (by omega)]
      have tb : ∀ {e : TypeId} {c : Nat}, Typed h6 e c → e ≠ N_Sl_u8 → ¬ rows.foot c := fun t n f => t.ne (bR.typed f) n rfl
      have pR := (rR.push (fun c z => kb.fresh z) k7 bb f7).keep k8
      refine more2 _ _ hiL ⟨rfl, rs ++ [b], b9, fun c f => (f9 c f).elim (fR c) fun z => kb.fresh (k68.fresh z), (bL.keep k68).but k9 fun a ha => tb (bL.typed ⟨a, ha, rfl⟩) (by decide), ?_, (rL.keep k68).but k9 fun b' m c f => tb (rL.typed m f) (by decide), (kb.trans k68).but k9 fun c f => fR c f⟩
      · rw [List.take_add_one, e2, Option.toList_some, ← List.append_assoc]
        refine pR.but k9 fun b' m c f z => ?_
        have := pR.typed m f
        exact this.ne ((bR.keep k68).typed z) (by decide) rfl
    · have c2 : ¬ (i : Int) < (r8.len : Int) := c2
      obtain rfl : i = L.length := by omega
      rw [← lV, List.take_length, ← reps_succ] at rR
      refine t_SIds (x.keep kb).st fun s7 h7 b7 k7 f7 => ?_
      refine w_app (by_ := 24) cs_len rfl (bL.keep k7) [s7] rfl rfl (.inl (by simp only [List.length_singleton]; omega)) fun s9 h9 b9 k9 f9 d9 => ?_
      show rec (rows, s9, iAdd .i64 (t : Int) 1) h9
      rw [ia1 t (by omega)]
      have tb : ∀ {e : TypeId} {c : Nat}, Typed h6 e c → e ≠ N_Sl_i64 → ¬ lists.foot c := fun t n f => t.ne (bL.typed f) n rfl
      have pL := rL.push (fun c z => kb.fresh z) k7 b7 f7
      refine more _ _ (by omega) ⟨rfl, rs, ls ++ [s7], (bR.keep k7).but k9 fun a ha => tb (bR.typed ⟨a, ha, rfl⟩) (by decide), fR, b9, fun c f => (f9 c f).elim (fL c) fun z => kb.fresh (k7.fresh z), (rR.keep k7).but k9 fun b' m c f => tb (rR.typed m f) (by decide), ?_, (kb.trans k7).but k9 fun c f => fL c f⟩
      rw [List.replicate_succ']
      refine pL.but k9 fun b' m c f z => ?_
      exact (pL.typed m f).ne ((bL.keep k7).typed z) (by decide) rfl
  have c : ¬ (t : Int) < 2 := c
  obtain rfl : t = 2 := by omega
  clear more rec c
  have x5 := x.keep kb
  refine w_for rs.length (fun i z h' => z = (i : Int) ∧ Keeps h5 h') ?_ ⟨rfl, .refl _⟩
  rintro rec i _ h6 hi ⟨rfl, k6⟩ more
  have bR6 := bR.keep k6
  have hRl := bR.len
  refine w_if' (fun c => ?_) fun c => ?_
  · have c : (i : Int) < (rows.len : Int) := c
    have hil : i < 2 * L.length := by omega
    have hL0 : 0 < L.length := by omega
    have hkl : i % L.length < L.length := Nat.mod_lt _ hL0
    refine ⟨by omega, ?_⟩
    rw [l8, ir i L.length]
    obtain ⟨id, v, e⟩ : ∃ id v, L[i % L.length]? = some (id, v) := ⟨L[i % L.length].1, L[i % L.length].2, List.getElem?_eq_getElem hkl⟩
    have e1 : (L.map (·.1))[i % L.length]? = some id := by rw [List.getElem?_map, e]; rfl
    have e2 : (reps 2 Vs)[i]? = some (rdV L id off n) := by
      rw [reps_get (by rw [lV]; exact hil), lV]
      subst eV; rw [List.getElem?_map, e1]; rfl
    obtain ⟨b, eb⟩ : ∃ b, rs[i]? = some b := ⟨rs[i]'(by omega), List.getElem?_eq_getElem _⟩
    refine w_get ci_len ((b8.keep kb).keep k6).arr e1 rfl (v' := id) rfl (t_RReadX (x5.rf.keep k6) lw fun b2 h8 bb2 k8 f8 => w_get cs_len (bR6.keep k8).arr eb rfl (v' := b) rfl (t_same07 (((rR.each i b _ eb e2).keep k6).keep k8).arr bb2.arr (w_ifF (by rw [decide_eq_true rfl]; rfl) ?_)))
    rw [ia1 i (by omega)]
    exact more _ _ (by omega) ⟨rfl, k6.trans k8⟩
  clear more rec c hi i
  -- from here on the memory h6
  have rR6 := rR.keep k6
  have rL6 := rL.keep k6
  have bL6 := bL.keep k6
  have kb6 := kb.trans k6
  have b86 := b8.keep kb6
  clear rR rL bR bL k6 kb x5
  obtain ⟨l0, el0⟩ : ∃ b, ls[0]? = some b := ⟨ls[0]'(by omega), List.getElem?_eq_getElem _⟩
  obtain ⟨l1, el1⟩ : ∃ b, ls[1]? = some b := ⟨ls[1]'(by omega), List.getElem?_eq_getElem _⟩
  have rl0 := rL6.each 0 l0 (L.map (·.1)) el0 (by rw [List.getElem?_replicate]; rfl)
  have rl1 := rL6.each 1 l1 (L.map (·.1)) el1 (by rw [List.getElem?_replicate]; rfl)
  have hIl : (L.map (·.1)).length ≤ 2 ^ 60 := by rw [List.length_map]; omega
  refine w_get cs_len bL6.arr el0 rfl (v' := l0) rfl (t_ints07 rl0.arr b86.arr hIl ?_)
  rw [decide_eq_true rfl]
  refine w_joinV false (fun j41 hj41 => w_ifF rfl (w_get cs_len bL6.arr el1 rfl (v' := l1) rfl (t_ints07 rl1.arr b86.arr hIl ?_))) (w_ifF rfl ?_)
  · rw [decide_eq_true rfl]; exact hj41
  have hrs : rs.length ≤ 64 := by omega
  have hls : ls.length ≤ 64 := by omega
  have sV : ∀ v ∈ reps 2 Vs, v.length ≤ 2 ^ 40 := fun v hv => by
    unfold reps at hv
    simp only [List.replicate_succ, List.replicate_zero, List.flatten_cons, List.flatten_nil, List.append_nil, List.mem_append] at hv
    have := hVs v (hv.elim id id)
    omega
  have sI : ∀ v ∈ List.replicate 2 (L.map (·.1)), v.length ≤ 2 ^ 40 := fun v hv => by
    rw [List.eq_of_mem_replicate hv, List.length_map]; omega
  -- marks
  refine w_marks (k := .u8) (val := fun b : UInt8 => (b.toNat : Int)) (mk := fun i => UInt8.ofNat (i + 1)) (mi := fun s => IntKind.wrap .u8 (iAdd .i64 s 1)) (fun _ => rfl) mi_u8 (by decide) bR6 rR6 hrs sV fun h7 V7 rR7 m7 b7 d7 => ?_
  have lb7 : ∀ {e : TypeId} {c : Nat}, Typed h6 e c → e ≠ N_u8 → ¬ ∃ b ∈ rs, b.foot c := fun t n ⟨b, m, f⟩ => t.ne (rR6.typed m f) n rfl
  have bR7 := bR6.but b7 fun a ha => lb7 (bR6.typed ⟨a, ha, rfl⟩) (by decide)
  have bL7 := bL6.but b7 fun a ha => lb7 (bL6.typed ⟨a, ha, rfl⟩) (by decide)
  have rL7 := rL6.but b7 fun b m c f => lb7 (rL6.typed m f) (by decide)
  have kb7 : Keeps hb h7 := kb6.but b7 fun c ⟨b, m, f⟩ => rR6.new b m c f
  refine w_marks (k := .i64) (val := fun b : Int => b) (mk := fun i => -(i : Int) - 1) (mi := fun s => iSub .i64 (iSub .i64 0 s) 1) (fun _ => rfl) mi_int (by decide) bL7 rL7 hls sI fun h8 V8 rL8 m8 b8' d8 => ?_
  have lb8 : ∀ {e : TypeId} {c : Nat}, Typed h7 e c → e ≠ N_int → ¬ ∃ b ∈ ls, b.foot c := fun t n ⟨b, m, f⟩ => t.ne (rL7.typed m f) n rfl
  have bR8 := bR7.but b8' fun a ha => lb8 (bR7.typed ⟨a, ha, rfl⟩) (by decide)
  have bL8 := bL7.but b8' fun a ha => lb8 (bL7.typed ⟨a, ha, rfl⟩) (by decide)
  have rR8 := rR7.but b8' fun b m c f => lb8 (rR7.typed m f) (by decide)
  have kb8 : Keeps hb h8 := kb7.but b8' fun c ⟨b, m, f⟩ => rL7.new b m c f
  have sV7 : ∀ v ∈ V7, v.length ≤ 2 ^ 40 := fun v hv => by
    obtain ⟨i, hi, rfl⟩ := List.getElem_of_mem hv
    obtain ⟨_, v0, e0, l0'⟩ := m7 i _ (List.getElem?_eq_getElem hi)
    rw [l0']; exact sV v0 (List.mem_of_getElem? e0)
  have sI8 : ∀ v ∈ V8, v.length ≤ 2 ^ 40 := fun v hv => by
    obtain ⟨i, hi, rfl⟩ := List.getElem_of_mem hv
    obtain ⟨_, v0, e0, l0'⟩ := m8 i _ (List.getElem?_eq_getElem hi)
    rw [l0']; exact sI v0 (List.mem_of_getElem? e0)
  -- longer
  refine w_longs (by_ := 1) (zero := #[Value.int .u8 0]) (by omega) rfl (k := .u8) (val := fun b : UInt8 => (b.toNat : Int)) (mk := fun i => UInt8.ofNat (i + 1)) (mi := fun s => IntKind.wrap .u8 (iAdd .i64 s 1)) (fun _ => rfl) mi_u8 (by decide) bR8 rR8 hrs sV7 fun lo h9 lgs bR9 bo9 la9 fg9 fo9 b9 d9 => ?_
  have lb9 : ∀ {e : TypeId} {c : Nat}, Typed h8 e c → e ≠ N_u8 → ¬ ∃ b ∈ rs, b.foot c := fun t n ⟨b, m, f⟩ => t.ne (rR8.typed m f) n rfl
  have bL9 := bL8.but b9 fun a ha => lb9 (bL8.typed ⟨a, ha, rfl⟩) (by decide)
  have rL9 := rL8.but b9 fun b m c f => lb9 (rL8.typed m f) (by decide)
  have kb9 : Keeps hb h9 := kb8.but b9 fun c ⟨b, m, f⟩ => rR8.new b m c f
  refine w_longs (by_ := 8) (zero := #[Value.int .i64 0]) (by omega) rfl (k := .i64) (val := fun b : Int => b) (mk := fun i => -(i : Int) - 1) (mi := fun s => iSub .i64 (iSub .i64 0 s) 1) (fun _ => rfl) mi_int (by decide) bL9 rL9 hls sI8 fun mo h10 mgs bL10 bo10 la10 fg10 fo10 b10 d10 => ?_
  have lb10 : ∀ {e : TypeId} {c : Nat}, Typed h9 e c → e ≠ N_int → ¬ ∃ b ∈ ls, b.foot c := fun t n ⟨b, m, f⟩ => t.ne (rL9.typed m f) n rfl
  have bR10 := bR9.but b10 fun a ha => lb10 (bR9.typed ⟨a, ha, rfl⟩) (by decide)
  have bo910 := bo9.but b10 fun a ha => lb10 (bo9.typed ⟨a, ha, rfl⟩) (by decide)
  have kb10 : Keeps hb h10 := kb9.but b10 fun c ⟨b, m, f⟩ => rL9.new b m c f
  have dj : ∀ b ∈ rs, ∀ c, b.foot c → ¬ ∃ b' ∈ ls, b'.foot c := fun b m c f ⟨b', m', f'⟩ => (rR8.typed m f).ne (rL8.typed m' f') (by decide) rfl
  have la910 := la9.but b10 dj fun g m c f ⟨b', m', f'⟩ => by
    rcases fg9 g m c f with ⟨b, mb, fb⟩ | z
    · exact dj b mb c fb ⟨b', m', f'⟩
    · exact (rL8.typed m' f').has z
  -- read again
  refine w_checks (k := .u8) (val := fun b : UInt8 => (b.toNat : Int)) (mi := fun s => IntKind.wrap .u8 (iAdd .i64 s 1)) (fun _ => rfl) mi_u8 bR10.arr bo910.arr la910 (fun i v e => (m7 i v e).1) hrs sV7 ?_
  refine w_checks (k := .i64) (val := fun b : Int => b) (mi := fun s => iSub .i64 (iSub .i64 0 s) 1) (fun _ => rfl) mi_int bL10.arr bo10.arr la10 (fun i v e => (m8 i v e).1) hls sI8 ?_
  have x10 := x.keep kb10
  refine t_SIds x10.st fun s11 h11 b11 k11 f11 => t_ints07 b11.arr ((b8.keep kb10).keep k11).arr hIl ?_
  rw [decide_eq_true rfl]
  refine w_ifT rfl (t_bytes (x10.keep k11) fun h12 k12 => y h12 (((k0.trans kb10).trans k11).trans k12))
end
end Go.Proofs.Yteeaelemfalkbaa.K
