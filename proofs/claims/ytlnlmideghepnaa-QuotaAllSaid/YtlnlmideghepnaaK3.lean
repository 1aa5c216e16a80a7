/- Regions that draw their order: an operation that is ready may be taken first where it commutes with all that is still open beside it. -/
import Derived.Test.YtlnlmideghepnaaK2
namespace Go.Proofs.Ytlnlmideghepnaa.K
open Go

theorem Bdd.upd {h : H} (x : Bdd h) (b : Nat) (o : Obj) : Bdd (upd h b o) := by
  obtain ⟨N, hN⟩ := x
  refine ⟨max N (b + 1), fun c hc => ?_⟩
  rw [upd_ne _ _ (by omega)]; exact hN c (by omega)
theorem Bdd.fresh {h : H} (x : Bdd h) (a : Nat) : ∃ b, h b = none ∧ b ≠ a := by
  obtain ⟨N, hN⟩ := x
  exact ⟨max N (a + 1), hN _ (by omega), by omega⟩

abbrev noE : Value → H → Prop := fun _ _ => False

theorem qwp_keeps {α : Type} {P : Program} {K : α → H → Prop} {E : Value → H → Prop} : ∀ (s : Sem α) (h : H), Bdd h → qwp P s h K E →
    qwp P s h (fun x h' => Grows h h' ∧ Bdd h' ∧ K x h') E := by
  intro s
  induction s with
  | pure a => exact fun h b x => ⟨.refl h, b, x⟩
  | load m a k ih => rintro h b ⟨h1, c, e, fz, v, h2, h3, h4⟩; exact ⟨h1, c, e, fz, v, h2, h3, ih v h b h4⟩
  | new o k ih =>
    intro h bd x b hb
    refine qwp_mono (fun y h' k => ?_) (fun _ _ k => k) _ _ (ih b _ (bd.upd b o) (x b hb))
    exact ⟨fun c o' hc => k.1 c o' (by rw [upd_ne _ _ (fun e => by rw [e, hb] at hc; cases hc)]; exact hc), k.2⟩
  | shape r k ih => rintro h b ⟨o, h1, h2⟩; exact ⟨o, h1, ih _ h b h2⟩
  | frozen r k ih => rintro h b ⟨o, h1, h2⟩; exact ⟨o, h1, ih _ h b h2⟩
  | getObj r k ih => rintro h b ⟨o, h1, h2, h3⟩; exact ⟨o, h1, h2, ih _ h b h3⟩
  | choose r k ih =>
    intro h b x
    simp only [qwp] at x ⊢
    split at x
    · rename_i hf; rw [if_pos hf]; exact ih _ h b x
    · rename_i hf; rw [if_neg hf]; exact fun n => ih _ h b (x n)
  | program k ih => exact fun h b x => ih P h b x
  | mark m k ih => exact fun h b x => ⟨x.1, ih h b x.2⟩
  | halt e =>
    intro h b x
    cases e with
    | panic v => exact x
    | _ => exact x.elim
  | _ => exact fun h b x => x.elim

theorem cells_inj {a b : Array Value} {s t : TypeId} {x y : Nat × Nat} (h : some (Obj.cells a s x) = some (.cells b t y)) : a = b ∧ s = t ∧ x = y := by cases h; exact ⟨rfl, rfl, rfl⟩

/-- What ends well for every answer ends well at all of them together. -/
theorem qwp_forall {α ι : Type} [Inhabited ι] {P : Program} {Z : ι → α → H → Prop} : ∀ (s : Sem α) (h : H), (∀ n, qwp P s h (Z n) noE) → qwp P s h (fun x h' => ∀ n, Z n x h') noE := by
  intro s
  induction s with
  | pure a => exact fun h x n => x n
  | load m a k ih =>
    intro h x
    obtain ⟨h1, c, e, fz, v, h2, h3, _⟩ := x default
    refine ⟨h1, c, e, fz, v, h2, h3, ih v h fun n => ?_⟩
    obtain ⟨_, c', e', fz', v', h2', h3', h4'⟩ := x n
    obtain ⟨rfl, _, _⟩ := cells_inj (h2.symm.trans h2')
    obtain rfl : v = v' := Option.some.inj (h3.symm.trans h3')
    exact h4'
  | new o k ih => exact fun h x b hb => ih b _ fun n => x n b hb
  | shape r k ih =>
    intro h x
    obtain ⟨o, h1, _⟩ := x default
    refine ⟨o, h1, ih _ h fun n => ?_⟩
    obtain ⟨o', h1', h2'⟩ := x n
    obtain rfl : o = o' := Option.some.inj (h1.symm.trans h1')
    exact h2'
  | frozen r k ih =>
    intro h x
    obtain ⟨o, h1, _⟩ := x default
    refine ⟨o, h1, ih _ h fun n => ?_⟩
    obtain ⟨o', h1', h2'⟩ := x n
    obtain rfl : o = o' := Option.some.inj (h1.symm.trans h1')
    exact h2'
  | getObj r k ih =>
    intro h x
    obtain ⟨o, h1, h2, _⟩ := x default
    refine ⟨o, h1, h2, ih _ h fun n => ?_⟩
    obtain ⟨o', h1', _, h2'⟩ := x n
    obtain rfl : o = o' := Option.some.inj (h1.symm.trans h1')
    exact h2'
  | choose r k ih =>
    intro h x
    by_cases hf : r.forced = true
    · simp only [qwp, hf, if_true] at x ⊢
      exact ih _ h x
    · simp only [qwp, hf] at x ⊢
      exact fun m => ih _ h fun n => x n m
  | program k ih => exact fun h x => ih P h x
  | mark m k ih => exact fun h x => ⟨(x default).1, ih h fun n => (x n).2⟩
  | halt e =>
    intro h x
    have := x default
    cases e with
    | panic v => exact this
    | _ => exact this
  | _ => exact fun h x => (x default).elim

/-- A block that is made ahead of a quiet way may be made behind it. -/
theorem alloc_behind {α : Type} {P : Program} (o : Obj) : ∀ (t : Sem α) (Z : Nat → α → H → Prop) (h : H), Bdd h →
    (∀ b, h b = none → qwp P t (upd h b o) (fun y h1 => Z b y h1) noE) → qwp P t h (fun y h1 => ∀ b, h1 b = none → Z b y (upd h1 b o)) noE := by
  intro t
  induction t with
  | pure a => exact fun Z h bd x b hb => x b hb
  | load m a k ih =>
    intro Z h bd x
    obtain ⟨b0, f0, n0⟩ := bd.fresh a.block
    obtain ⟨h1, c, e, fz, v, h2, h3, _⟩ := x b0 f0
    rw [upd_ne _ _ (Ne.symm n0)] at h2
    refine ⟨h1, c, e, fz, v, h2, h3, ih v Z h bd fun b hb => ?_⟩
    obtain ⟨_, c', e', fz', v', h2', h3', h4'⟩ := x b hb
    rw [upd_ne _ _ (fun e => by rw [e, hb] at h2; cases h2)] at h2'
    obtain ⟨rfl, _, _⟩ := cells_inj (h2.symm.trans h2')
    obtain rfl : v = v' := Option.some.inj (h3.symm.trans h3')
    exact h4'
  | new o2 k ih =>
    intro Z h bd x b2 hb2
    refine ih b2 Z _ (bd.upd b2 o2) fun b hb => ?_
    obtain ⟨hne, hb'⟩ := upd_none.1 hb
    rw [upd_comm _ _ _ (Ne.symm hne)]
    exact x b hb' b2 (upd_none.2 ⟨Ne.symm hne, hb2⟩)
  | shape r k ih =>
    intro Z h bd x
    obtain ⟨b0, f0, n0⟩ := bd.fresh r
    obtain ⟨o1, h1, _⟩ := x b0 f0
    rw [upd_ne _ _ (Ne.symm n0)] at h1
    refine ⟨o1, h1, ih _ Z h bd fun b hb => ?_⟩
    obtain ⟨o', h1', h2'⟩ := x b hb
    rw [upd_ne _ _ (fun e => by rw [e, hb] at h1; cases h1)] at h1'
    obtain rfl : o1 = o' := Option.some.inj (h1.symm.trans h1')
    exact h2'
  | frozen a k ih =>
    intro Z h bd x
    obtain ⟨b0, f0, n0⟩ := bd.fresh a.block
    obtain ⟨o1, h1, _⟩ := x b0 f0
    rw [upd_ne _ _ (Ne.symm n0)] at h1
    refine ⟨o1, h1, ih _ Z h bd fun b hb => ?_⟩
    obtain ⟨o', h1', h2'⟩ := x b hb
    rw [upd_ne _ _ (fun e => by rw [e, hb] at h1; cases h1)] at h1'
    obtain rfl : o1 = o' := Option.some.inj (h1.symm.trans h1')
    exact h2'
  | getObj r k ih =>
    intro Z h bd x
    obtain ⟨b0, f0, n0⟩ := bd.fresh r
    obtain ⟨o1, h1, hc, _⟩ := x b0 f0
    rw [upd_ne _ _ (Ne.symm n0)] at h1
    refine ⟨o1, h1, hc, ih _ Z h bd fun b hb => ?_⟩
    obtain ⟨o', h1', _, h2'⟩ := x b hb
    rw [upd_ne _ _ (fun e => by rw [e, hb] at h1; cases h1)] at h1'
    obtain rfl : o1 = o' := Option.some.inj (h1.symm.trans h1')
    exact h2'
  | choose r k ih =>
    intro Z h bd x
    by_cases hf : r.forced = true
    · simp only [qwp, hf, if_true] at x ⊢
      exact ih _ Z h bd x
    · simp only [qwp, hf] at x ⊢
      exact fun n => ih _ Z h bd fun b hb => x b hb n
  | program k ih => exact fun Z h bd x => ih P Z h bd x
  | mark m k ih =>
    intro Z h bd x
    obtain ⟨b0, f0, _⟩ := bd.fresh 0
    exact ⟨(x b0 f0).1, ih Z h bd fun b hb => (x b hb).2⟩
  | halt e =>
    intro Z h bd x
    obtain ⟨b0, f0, _⟩ := bd.fresh 0
    have := x b0 f0
    cases e with
    | panic v => exact this
    | _ => exact this
  | _ =>
    intro Z h bd x
    obtain ⟨b0, f0, _⟩ := bd.fresh 0
    exact (x b0 f0).elim

theorem qwp_swap {α β : Type} {P : Program} {t : Sem β} : ∀ (s : Sem α) (K : α → β → H → Prop) (h : H), Bdd h →
    qwp P s h (fun x h1 => qwp P t h1 (fun y h2 => K x y h2) noE) noE →
    qwp P t h (fun y h1 => qwp P s h1 (fun x h2 => K x y h2) noE) noE := by
  intro s
  induction s with
  | pure a => exact fun K h bd x => x
  | load m a k ih =>
    rintro K h bd ⟨h1, c, e, fz, v, h2, h3, h4⟩
    exact qwp_mono (fun y h' r => ⟨h1, c, e, fz, v, r.1 _ _ h2, h3, r.2.2⟩) (fun _ _ k => k) _ _ (qwp_keeps _ h bd (ih v K h bd h4))
  | new o k ih =>
    intro K h bd x
    exact alloc_behind o t (fun b y h1 => qwp P (k b) h1 (fun x h2 => K x y h2) noE) h bd fun b hb => ih b K _ (bd.upd b o) (x b hb)
  | shape r k ih =>
    rintro K h bd ⟨o, h1, h2⟩
    exact qwp_mono (fun y h' r => ⟨o, r.1 _ _ h1, r.2.2⟩) (fun _ _ k => k) _ _ (qwp_keeps _ h bd (ih _ K h bd h2))
  | frozen r k ih =>
    rintro K h bd ⟨o, h1, h2⟩
    exact qwp_mono (fun y h' r => ⟨o, r.1 _ _ h1, r.2.2⟩) (fun _ _ k => k) _ _ (qwp_keeps _ h bd (ih _ K h bd h2))
  | getObj r k ih =>
    rintro K h bd ⟨o, h1, hc, h2⟩
    exact qwp_mono (fun y h' r => ⟨o, r.1 _ _ h1, hc, r.2.2⟩) (fun _ _ k => k) _ _ (qwp_keeps _ h bd (ih _ K h bd h2))
  | choose r k ih =>
    intro K h bd x
    by_cases hf : r.forced = true
    · simp only [qwp, hf, if_true] at x ⊢
      exact ih _ K h bd x
    · simp only [qwp, hf] at x ⊢
      exact qwp_forall t h fun n => ih _ K h bd (x n)
  | program k ih => exact fun K h bd x => ih P K h bd x
  | mark m k ih =>
    intro K h bd x
    exact qwp_mono (fun y h' r => ⟨x.1, r⟩) (fun _ _ k => k) _ _ (ih K h bd x.2)
  | halt e =>
    intro K h bd x
    cases e <;> exact x.elim
  | _ => exact fun K h bd x => x.elim

theorem qwp_reach {α : Type} {P : Program} {K : α → H → Prop} : ∀ (s : Sem α) (h : H), Bdd h → qwp P s h K noE → ∃ x h', K x h' := by
  intro s
  induction s with
  | pure a => exact fun h bd x => ⟨a, h, x⟩
  | load m a k ih => rintro h bd ⟨_, c, e, fz, v, _, _, h4⟩; exact ih v h bd h4
  | new o k ih =>
    intro h bd x
    obtain ⟨b, hb, _⟩ := bd.fresh 0
    exact ih b _ (bd.upd b o) (x b hb)
  | shape r k ih => rintro h bd ⟨o, _, h2⟩; exact ih _ h bd h2
  | frozen r k ih => rintro h bd ⟨o, _, h2⟩; exact ih _ h bd h2
  | getObj r k ih => rintro h bd ⟨o, _, _, h2⟩; exact ih _ h bd h2
  | choose r k ih =>
    intro h bd x
    simp only [qwp] at x
    split at x
    · exact ih _ h bd x
    · exact ih _ h bd (x 0)
  | program k ih => exact fun h bd x => ih P h bd x
  | mark m k ih => exact fun h bd x => ih h bd x.2
  | halt e => intro h bd x; cases e <;> exact x.elim
  | _ => exact fun h bd x => x.elim

theorem put_comm (ρ : Env) {x y : Option Tmp} (v u : Value) (h : ∀ d, x = some d → y ≠ some d) : put (put ρ x v) y u = put (put ρ y u) x v := by
  cases x with
  | none => rfl
  | some d =>
    cases y with
    | none => rfl
    | some e =>
      have hne : d ≠ e := fun he => h d rfl (he ▸ rfl)
      funext t
      simp only [put]
      by_cases h1 : t = d <;> by_cases h2 : t = e
      · exact absurd (h1.symm.trans h2) hne
      · have b1 : Nat.beq t d = true := by rw [Nat.beq_eq]; exact h1
        have b2 : Nat.beq t e = false := by rw [← Bool.not_eq_true, Nat.beq_eq]; exact h2
        rw [b1, b2]; rfl
      · have b1 : Nat.beq t d = false := by rw [← Bool.not_eq_true, Nat.beq_eq]; exact h1
        have b2 : Nat.beq t e = true := by rw [Nat.beq_eq]; exact h2
        rw [b1, b2]; rfl
      · have b1 : Nat.beq t d = false := by rw [← Bool.not_eq_true, Nat.beq_eq]; exact h1
        have b2 : Nat.beq t e = false := by rw [← Bool.not_eq_true, Nat.beq_eq]; exact h2
        rw [b1, b2]; rfl
theorem ev_put {ρ : Env} {dst : Option Tmp} {v : Value} {x : Operand} (h : ∀ d, dst = some d → x ≠ .tmp d) : ev (put ρ dst v) x = ev ρ x := by
  cases dst with
  | none => rfl
  | some d =>
    cases x with
    | tmp t =>
      have b : Nat.beq t d = false := by rw [← Bool.not_eq_true, Nat.beq_eq]; exact fun e => h d rfl (e ▸ rfl)
      simp only [ev, put, b, cond_false]
    | _ => rfl
section
variable {P : Program} {ops : Array Oper}
theorem execOp_put' (o : Oper) (hs : ∀ cs b, o.op ≠ .select cs b) (ρ : Env) (dst : Option Tmp) (v : Value) (h : ∀ d, dst = some d → d ∉ o.looksAt ops) :
    execOp (ev (put ρ dst v)) o = execOp (ev ρ) o :=
  execOp_congr o hs fun x hx => ev_put fun d hd hxd => h d hd (by
    subst hxd
    exact List.mem_append_left _ (List.mem_filterMap.2 ⟨.tmp d, by simpa using hx, rfl⟩))
theorem wanted_put' (o : Oper) (ρ : Env) (dst : Option Tmp) (v : Value) (h : ∀ d, dst = some d → d ∉ o.looksAt ops) :
    Region.wanted o (yld ops (put ρ dst v)) = Region.wanted o (yld ops ρ) := by
  cases dst with
  | none => rfl
  | some d =>
    unfold Region.wanted
    cases hg : o.guard with
    | none => rfl
    | some gw =>
      obtain ⟨g, want⟩ := gw
      have hy : yld ops (put ρ (some d) v) g = yld ops ρ g := by
        unfold yld
        cases ht : (ops[g]?).bind (·.dst) with
        | none => rfl
        | some t =>
          have hne : t ≠ d := fun e => h d rfl (by subst e; simp [Oper.looksAt, hg, ht])
          have b : Nat.beq t d = false := by rw [← Bool.not_eq_true, Nat.beq_eq]; exact hne
          simp only [put, b, cond_false]
      simp only [hy]

/-- Is 'j' behind 'i', by whatever way? -/
def anc (ops : Array Oper) : Nat → Nat → Nat → Bool
  | 0, _, _ => false
  | n + 1, i, j => match ops.toList[j]? with
    | some o => o.after.toList.any fun e => Region.binds .any e && (Nat.beq e.on i || anc ops n i e.on)
    | none => false
/-- What is listed has all that it hangs on listed. -/
def Closed (ops : Array Oper) (listed : Array Bool) : Prop := ∀ j o, ops[j]? = some o → listed.getD j true = true → ∀ e ∈ o.after, Region.binds .any e = true → listed.getD e.on false = true
theorem anc_open {listed : Array Bool} (cl : Closed ops listed) {i : Nat} (hi : listed.getD i false = false) : ∀ (n j : Nat), anc ops n i j = true → ∃ o, ops[j]? = some o ∧ ∃ e ∈ o.after, Region.binds .any e = true ∧ listed.getD e.on false = false := by
  intro n
  induction n with
  | zero => intro j h; cases h
  | succ n ih =>
    intro j h
    simp only [anc] at h
    rw [Array.getElem?_toList] at h
    cases ho : ops[j]? with
    | none => rw [ho] at h; cases h
    | some o =>
      rw [ho] at h
      obtain ⟨e, he, hb⟩ := List.any_eq_true.1 h
      simp only [Bool.and_eq_true, Bool.or_eq_true, Nat.beq_eq] at hb
      refine ⟨o, rfl, e, Array.mem_toList_iff.1 he, hb.1, ?_⟩
      rcases hb.2 with q | q
      · rw [q]; exact hi
      · obtain ⟨o', ho', e', he', hb', hl'⟩ := ih e.on q
        cases hl : listed.getD e.on false with
        | false => rfl
        | true =>
          have hlt : e.on < listed.size := by
            rcases Nat.lt_or_ge e.on listed.size with r | r
            · exact r
            · simp [Array.getElem?_eq_none r] at hl
          have h2 := cl e.on o' ho' (by simp [hlt] at hl ⊢; exact hl) e' he' hb'
          rw [h2] at hl'; cases hl'
def closedB (ops : Array Oper) (listed : Array Bool) : Bool := (List.range ops.size).all fun j => !listed.getD j true || match ops.toList[j]? with
  | some o => o.after.toList.all fun e => !Region.binds .any e || listed.getD e.on false
  | none => true
theorem closed_of {listed : Array Bool} (h : closedB ops listed = true) : Closed ops listed := fun j o ho hl e he hb => by
  unfold closedB at h
  rw [List.all_eq_true] at h
  have h1 := h j (List.mem_range.2 (Array.getElem?_eq_some_iff.1 ho).1)
  rw [Array.getElem?_toList, ho, hl] at h1
  simp only [Bool.not_true, Bool.false_or, List.all_eq_true, Bool.or_eq_true, Bool.not_eq_true'] at h1
  rcases h1 e (Array.mem_toList_iff.2 he) with q | q
  · rw [hb] at q; cases q
  · exact q
theorem Closed.list {listed : Array Bool} (cl : Closed ops listed) {j : Nat} (hj : j ∈ Region.ready .any ops listed) : Closed ops (listed.setIfInBounds j true) := fun k o ho hl e he hb => by
  obtain ⟨hjun, oj, hoj, hall⟩ := mem_ready.1 hj
  by_cases hjk : j = k
  · subst hjk
    rw [hoj] at ho; cases ho
    exact getD_set_true (hall e he hb)
  · rw [getD_set_ne true hjk] at hl
    exact getD_set_true (cl k o ho hl e he hb)
/-- What is still open beside 'i' and not behind it. -/
def pend (ops : Array Oper) (listed : Array Bool) (i j : Nat) (_oj : Oper) : Prop :=
  j ≠ i ∧ listed.getD j true = false ∧ anc ops ops.size i j = false
def Few (listed : Array Bool) (k : Nat) : Prop := ∀ S : List Nat, S.Nodup → (∀ j ∈ S, listed.getD j true = false) → S.length ≤ k
theorem Few.list {listed : Array Bool} {k j : Nat} (f : Few listed (k + 1)) (hj : listed.getD j true = false) : Few (listed.setIfInBounds j true) k := by
  intro S nd hS
  have hlt : j < listed.size := by
    rcases Nat.lt_or_ge j listed.size with q | q
    · exact q
    · simp [Array.getElem?_eq_none q] at hj
  have hjS : j ∉ S := fun hm => by have := hS j hm; simp [hlt] at this
  have := f (j :: S) (List.nodup_cons.2 ⟨hjS, nd⟩) (fun x hx => by
    rcases List.mem_cons.1 hx with rfl | hx
    · exact hj
    · have h1 := hS x hx
      rw [getD_set_ne true (fun e => hjS (by rw [e]; exact hx))] at h1
      exact h1)
  simpa using this
theorem nodup_length {S : List Nat} (nd : S.Nodup) : ∀ {U : List Nat}, (∀ x ∈ S, x ∈ U) → S.length ≤ U.length := by
  induction S with
  | nil => intro U _; exact Nat.zero_le _
  | cons a S ih =>
    intro U h
    obtain ⟨ha, nd'⟩ := List.nodup_cons.1 nd
    have hmem := h a (List.mem_cons_self ..)
    have := ih nd' (U := U.erase a) (fun x hx => (List.mem_erase_of_ne (fun e => ha (by rw [← e]; exact hx))).2 (h x (List.mem_cons_of_mem _ hx)))
    rw [List.length_erase_of_mem hmem] at this
    have : 0 < U.length := List.length_pos_of_mem hmem
    simp only [List.length_cons]
    omega
def fewB (listed : Array Bool) (k : Nat) : Bool := Nat.ble ((List.range listed.size).filter fun j => !listed.getD j true).length k
theorem few_of {listed : Array Bool} {k : Nat} (h : fewB listed k = true) : Few listed k := fun S nd hS => by
  refine Nat.le_trans (nodup_length nd (U := (List.range listed.size).filter fun j => !listed.getD j true) fun x hx => ?_) (Nat.le_of_ble_eq_true h)
  have := hS x hx
  rw [List.mem_filter, List.mem_range]
  refine ⟨?_, by simp [this]⟩
  rcases Nat.lt_or_ge x listed.size with q | q
  · exact q
  · simp [Array.getElem?_eq_none q] at this

theorem any_take {next : Post} {C : PPost} {i : Nat} (X : Post → Post) (G : Post) (hX : ∀ T ρ L h, G ρ L h → X T ρ L h → aOpI P ops C i T ρ L h)
    (hm : ∀ (T T' : Post), (∀ ρ L h, T ρ L h → T' ρ L h) → ∀ ρ L h, X T ρ L h → X T' ρ L h) :
    ∀ (fuel : Nat) (listed : Array Bool),
      (∀ j oj, ops[j]? = some oj → pend ops listed i j oj → ∀ T ρ L h, G ρ L h → X (aOpI P ops C j T) ρ L h → aOpI P ops C j (fun ρ L h => G ρ L h ∧ X T ρ L h) ρ L h) →
      Few listed (fuel + 1) → Closed ops listed → i ∈ Region.ready .any ops listed → ∀ ρ L h, G ρ L h → X (aAny P ops next C fuel (listed.setIfInBounds i true)) ρ L h → aAny P ops next C (fuel + 1) listed ρ L h := by
  intro fuel
  induction fuel with
  | zero =>
    intro listed _ few _ hr ρ L h g H
    refine ⟨fun h => (by rw [h] at hr; cases hr), fun j hj => ?_⟩
    by_cases hji : j = i
    · subst hji; exact hX _ _ _ _ g H
    · have := few [i, j] (by simp [Ne.symm hji]) (fun x hx => by
        rcases List.mem_cons.1 hx with rfl | hx
        · exact (mem_ready.1 hr).1
        · rw [List.mem_singleton] at hx; subst hx; exact (mem_ready.1 hj).1)
      simp at this
  | succ fuel ih =>
    intro listed sw few cl hr ρ L h g H
    refine ⟨fun h => (by rw [h] at hr; cases hr), fun j hj => ?_⟩
    by_cases hji : j = i
    · subst hji; exact hX _ _ _ _ g H
    · obtain ⟨hjun, oj, hoj, hall⟩ := mem_ready.1 hj
      have hnot : anc ops ops.size i j = false := by
        cases hq : anc ops ops.size i j with
        | false => rfl
        | true =>
          have h0 := (mem_ready.1 hr).1
          obtain ⟨o, ho, e, he, hb, hl⟩ := anc_open cl (i := i) (by
            rcases Nat.lt_or_ge i listed.size with h' | h'
            · simp [h'] at h0 ⊢; exact h0
            · simp [Array.getElem?_eq_none h']) ops.size j hq
          rw [hoj] at ho; cases ho
          have := hall e he hb
          rw [hl] at this; cases this
      have H1 := hm _ _ (fun ρ L h k => k.2 j (ready_mono hj hji)) ρ L h H
      have H2 := sw j oj hoj ⟨hji, hjun, hnot⟩ _ ρ L h g H1
      refine aOpI_mono (fun ρ' L' h' k => ih (listed.setIfInBounds j true) (fun k ok hk hp => ?_) (few.list hjun) (cl.list hj) (ready_mono hr (Ne.symm hji)) ρ' L' h' k.1 ?_) H2
      · refine sw k ok hk ⟨hp.1, ?_, hp.2.2⟩
        by_cases hjk : j = k
        · subst hjk; exact hjun
        · have := hp.2.1; rw [getD_set_ne true hjk] at this; exact this
      · rw [Array.setIfInBounds_comm _ _ hji]
        exact k.2

def valOf : Next → Value
  | .value v => v
  | _ => undef
theorem upon_val {o : Oper} {ρ : Env} {L h : H} {next : Post} {C : PPost} {nx : Next} (hv : isVal nx) {hf : H} :
    upon P o ρ L h next C nx hf false ↔ ∃ L' h', hf = un L' h' ∧ (Apart L h → Apart L' h') ∧ Ag o.op L L' ∧ next (put ρ o.dst (valOf nx)) L' h' := by
  unfold upon
  cases nx <;> first | exact hv.elim | simp [valOf]

abbrev noP : PPost := fun _ _ => False

theorem aOp_quiet {o : Oper} {ρ : Env} {L h : H} {next : Post} {C : PPost} (hq : quietOp P o.op = true) :
    aOp P o ρ L h next C ↔ (Apart L h → qwp P (execOp (ev ρ) o) (un L h) (fun nx hf => isVal nx ∧ ∃ L' h', hf = un L' h' ∧ (Apart L h → Apart L' h') ∧ Ag o.op L L' ∧ next (put ρ o.dst (valOf nx)) L' h') (fun v hf => C [{ v, recovered := false }] hf)) := by
  unfold aOp
  rw [hq, cond_true]
  constructor
  · exact fun x ap => qwp_mono (fun a h k => ⟨k.1, (upon_val k.1).1 k.2⟩) (fun _ _ k => k) _ _ (x ap)
  · exact fun x ap => qwp_mono (fun a h k => ⟨k.1, (upon_val k.1).2 k.2⟩) (fun _ _ k => k) _ _ (x ap)
theorem quiet_keepsL {op : Op} (hq : quietOp P op = true) : mutates op = false := by
  unfold quietOp at hq
  unfold mutates
  split at hq <;> first | rfl | (split at hq <;> first | rfl | cases hq) | cases hq

/-- (1) A quiet operation passes quiet ones. -/
theorem swap_quiet {i j : Nat} {oi oj : Oper} (hi : ops[i]? = some oi) (hj : ops[j]? = some oj) (hap : oi.apart ops oj = true)
    (hsi : ∀ cs b, oi.op ≠ .select cs b) (hsj : ∀ cs b, oj.op ≠ .select cs b) (qi : quietOp P oi.op = true) (qj : quietOp P oj.op = true)
    (T : Post) (ρ : Env) (L h : H) (g : Bdd (un L h) ∧ Apart L h) (x : aOpI P ops noP i (aOpI P ops noP j T) ρ L h) :
    aOpI P ops noP j (fun ρ L h => (Bdd (un L h) ∧ Apart L h) ∧ aOpI P ops noP i T ρ L h) ρ L h := by
  have mi := quiet_keepsL qi
  have mj := quiet_keepsL qj
  obtain ⟨h1, h2, h3⟩ := Oper.apart_spec hap
  unfold aOpI at x ⊢
  simp only [hi, hj] at x ⊢
  by_cases wi : Region.wanted oi (yld ops ρ) = true
  · rw [if_pos wi] at x
    by_cases wj : Region.wanted oj (yld ops ρ) = true
    · rw [if_pos wj]
      rw [aOp_quiet qi] at x
      rw [aOp_quiet qj]
      have x1 : qwp P (execOp (ev ρ) oi) (un L h) (fun nx hf => qwp P (execOp (ev ρ) oj) hf
          (fun ny hf2 => isVal nx ∧ isVal ny ∧ ∃ L2 h2, hf2 = un L2 h2 ∧ Apart L2 h2 ∧ Grows L L2 ∧ T (put (put ρ oi.dst (valOf nx)) oj.dst (valOf ny)) L2 h2) noE) noE := by
        refine qwp_mono (fun nx hf k => ?_) (fun _ _ k => k) _ _ (qwp_keeps _ _ g.1 (x g.2))
        obtain ⟨gr, bd, va, L1, h1', rfl, ap1, ag1, u⟩ := k
        rw [wanted_put' oj ρ oi.dst _ h1, if_pos wj, aOp_quiet qj, execOp_put' oj hsj ρ oi.dst _ h1] at u
        refine qwp_mono (fun ny hf2 k => ?_) (fun _ _ k => k) _ _ (u (ap1 g.2))
        obtain ⟨va2, L2, h2', e2, ap2, ag2, u⟩ := k
        refine ⟨va, va2, L2, h2', e2, ap2 (ap1 g.2), ?_, u⟩
        unfold Ag at ag1 ag2
        rw [mi] at ag1; rw [mj] at ag2
        exact Grows.trans ag1 ag2
      have x2 := qwp_swap _ _ _ g.1 x1
      refine fun _ => qwp_mono (fun ny hf k => ?_) (fun _ _ k => k) _ _ (qwp_keeps _ _ g.1 x2)
      obtain ⟨gr, bd, u⟩ := k
      -- the new blocks of 'j' lie beside the boxes for now
      let h1' : H := fun b => match L b with | some _ => none | none => hf b
      have e1 : hf = un L h1' := by
        funext b
        unfold un
        cases hL : L b with
        | none => simp [h1', hL]
        | some o => exact gr b o (un_left hL)
      have ap1 : Apart L h1' := fun b => by
        cases hL : L b with
        | none => exact .inl rfl
        | some o => exact .inr (by simp [h1', hL])
      have va2 : isVal ny := by
        obtain ⟨_, _, _, va2, _⟩ := qwp_reach _ _ bd u
        exact va2
      refine ⟨va2, L, h1', e1, fun _ => ap1, .refl _ _, ⟨by rw [← e1]; exact bd, ap1⟩, ?_⟩
      rw [wanted_put' oi ρ oj.dst _ h3, if_pos wi, aOp_quiet qi, execOp_put' oi hsi ρ oj.dst _ h3, ← e1]
      refine fun _ => qwp_mono (fun nx hf2 k => ?_) (fun _ _ k => k) _ _ u
      obtain ⟨va, va2, L2, h2', e2, ap2, gr3, u⟩ := k
      refine ⟨va, L2, h2', e2, fun _ => ap2, ?_, ?_⟩
      · unfold Ag; rw [mi]; exact gr3
      · rw [← put_comm ρ _ _ h2]; exact u
    · rw [if_neg wj]
      refine ⟨g, ?_⟩
      rw [wanted_put' oi ρ oj.dst _ h3, if_pos wi]
      rw [aOp_quiet qi] at x ⊢
      rw [execOp_put' oi hsi ρ oj.dst _ h3]
      refine fun ap0 => qwp_mono (fun nx hf k => ?_) (fun _ _ k => k) _ _ (x ap0)
      obtain ⟨va, L1, h1', e1, ap1, ag1, u⟩ := k
      rw [wanted_put' oj ρ oi.dst _ h1, if_neg wj, put_comm ρ _ _ h2] at u
      exact ⟨va, L1, h1', e1, ap1, ag1, u⟩
  · rw [if_neg wi] at x
    rw [wanted_put' oj ρ oi.dst _ h1] at x
    by_cases wj : Region.wanted oj (yld ops ρ) = true
    · rw [if_pos wj] at x ⊢
      rw [aOp_quiet qj] at x ⊢
      rw [execOp_put' oj hsj ρ oi.dst _ h1] at x
      refine fun ap0 => qwp_mono (fun nx hf k => ?_) (fun _ _ k => k) _ _ (qwp_keeps _ _ g.1 (x ap0))
      obtain ⟨gr, bd, va, L1, h1', rfl, ap1, ag1, u⟩ := k
      refine ⟨va, L1, h1', rfl, ap1, ag1, ⟨bd, ap1 g.2⟩, ?_⟩
      rw [wanted_put' oi ρ oj.dst _ h3, if_neg wi, ← put_comm ρ _ _ h2]
      exact u
    · rw [if_neg wj] at x ⊢
      refine ⟨g, ?_⟩
      rw [wanted_put' oi ρ oj.dst _ h3, if_neg wi, ← put_comm ρ _ _ h2]
      exact x

theorem aOp_env {o : Oper} {ρ ρ' : Env} {L h : H} {next next' : Post} {C : PPost} (he : execOp (ev ρ') o = execOp (ev ρ) o)
    (hK : ∀ nx hf fl, upon P o ρ L h next C nx hf fl → upon P o ρ' L h next' C nx hf fl) (x : aOp P o ρ L h next C) : aOp P o ρ' L h next' C := by
  intro ap
  replace x := x ap
  rw [he]
  cases hq : quietOp P o.op
  · rw [hq] at x; exact awp_mono (fun _ _ _ k => hK _ _ _ k) (fun _ _ k => k) _ _ _ x
  · rw [hq] at x; exact qwp_mono (fun _ _ k => ⟨k.1, hK _ _ _ k.2⟩) (fun _ _ k => k) _ _ x

/-- (2) An operation whose value hangs on the temporaries and the own boxes alone passes all that leaves these boxes; 'b': it may hang on the boxes. -/
def YieldsL (P : Program) (ops : Array Oper) (C : PPost) (o : Oper) (v : Value) (b : Bool) (ρ : Env) (L : H) : Prop :=
  (Region.wanted o (yld ops ρ) = true ∧ ∀ (L' h' : H) (next : Post), (b = true → Grows L L') → next (put ρ o.dst v) L' h' → aOp P o ρ L' h' next C) ∨
  (Region.wanted o (yld ops ρ) = false ∧ v = undef)
theorem swap_yields {C : PPost} {j : Nat} {oi oj : Oper} {v : Value} {b : Bool} (hj : ops[j]? = some oj) (hap : oi.apart ops oj = true)
    (hsi : ∀ cs b, oi.op ≠ .select cs b) (hsj : ∀ cs b, oj.op ≠ .select cs b) (mj : b = true → mutates oj.op = false) (T : Post) (ρ : Env) (L h : H)
    (g : YieldsL P ops C oi v b ρ L) (x : aOpI P ops C j T (put ρ oi.dst v) L h) :
    aOpI P ops C j (fun ρ L h => YieldsL P ops C oi v b ρ L ∧ T (put ρ oi.dst v) L h) ρ L h := by
  obtain ⟨h1, h2, h3⟩ := Oper.apart_spec hap
  have keep : ∀ (L' : H) (u : Value), Ag oj.op L L' → YieldsL P ops C oi v b (put ρ oj.dst u) L' := fun L' u ag => by
    rcases g with ⟨hw, hy⟩ | ⟨hw, hv⟩
    · refine .inl ⟨by rw [wanted_put' oi ρ oj.dst _ h3]; exact hw, fun L'' h'' next gr k => ?_⟩
      have := hy L'' h'' (fun ρ' => next (put ρ' oj.dst u)) (fun hb => by
        unfold Ag at ag; rw [mj hb] at ag; exact Grows.trans ag (gr hb)) (by rw [put_comm ρ _ _ h2]; exact k)
      refine aOp_env (execOp_put' oi hsi ρ oj.dst _ h3) (fun nx hf fl u' => ?_) this
      refine u'.imp id fun ⟨L3, h3', e, ap, ag, m⟩ => ⟨L3, h3', e, ap, ag, ?_⟩
      cases nx <;> first
        | (show next _ _ _; rw [← put_comm ρ _ _ h2]; exact m)
        | exact m
        | exact m.mono (fun v h'' k a => by rw [← put_comm ρ _ _ h2]; exact k a) (fun _ _ k => k)
    · exact .inr ⟨by rw [wanted_put' oi ρ oj.dst _ h3]; exact hw, hv⟩
  unfold aOpI at x ⊢
  simp only [hj] at x ⊢
  rw [wanted_put' oj ρ oi.dst _ h1] at x
  by_cases wj : Region.wanted oj (yld ops ρ) = true
  · rw [if_pos wj] at x ⊢
    refine aOp_env (execOp_put' oj hsj ρ oi.dst _ h1).symm (fun nx hf fl u' => ?_) x
    refine u'.imp id fun ⟨L3, h3', e, ap, ag, m⟩ => ⟨L3, h3', e, ap, ag, ?_⟩
    cases nx <;> first
      | exact ⟨keep _ _ ag, by rw [← put_comm ρ _ _ h2]; exact m⟩
      | exact m
      | exact m.mono (fun v h'' k a => ⟨keep _ _ ag, by rw [← put_comm ρ _ _ h2]; exact k a⟩) (fun _ _ k => k)
  · rw [if_neg wj] at x ⊢
    exact ⟨keep _ _ (.refl _ _), by rw [← put_comm ρ _ _ h2]; exact x⟩

/-- The checks that the kernel makes: 'i' is ready, and it commutes with what is open beside it; 'm': by which way (0: yields, 1: yields by the boxes, 2: quiet). -/
def free (P : Program) (ops : Array Oper) (listed : Array Bool) (i m : Nat) : Bool :=
  match ops[i]? with
  | none => false
  | some oi => closedB ops listed && (Region.ready .any ops listed).contains i && (match m with | 2 => quietOp P oi.op | _ => true) && (List.range ops.size).all fun j => Nat.beq j i || listed.getD j true || match ops[j]? with
      | some oj => anc ops ops.size i j || (oi.apart ops oj && match m with | 0 => true | 1 => !mutates oj.op | _ => quietOp P oj.op)
      | none => true
theorem free_spec {listed : Array Bool} {i m : Nat} {oi : Oper} (hi : ops[i]? = some oi) (h : free P ops listed i m = true) :
    Closed ops listed ∧ i ∈ Region.ready .any ops listed ∧ (m = 2 → quietOp P oi.op = true) ∧ ∀ j oj, ops[j]? = some oj → pend ops listed i j oj → oi.apart ops oj = true ∧ (m = 1 → mutates oj.op = false) ∧ (m = 2 → quietOp P oj.op = true) := by
  simp only [free, hi, Bool.and_eq_true, List.all_eq_true, List.mem_range] at h
  obtain ⟨⟨⟨hc, h0⟩, hq⟩, h⟩ := h
  refine ⟨closed_of hc, by simpa using h0, fun e => by subst e; exact hq, fun j oj hj hp => ?_⟩
  have h1 := h j (Array.getElem?_eq_some_iff.1 hj).1
  have hne : Nat.beq j i = false := by rw [← Bool.not_eq_true, Nat.beq_eq]; exact hp.1
  simp only [hj, hne, hp.2.1, hp.2.2, Bool.or_eq_true, Bool.false_eq_true, false_or] at h1
  rw [Bool.and_eq_true] at h1
  refine ⟨h1.1, fun e => ?_, fun e => ?_⟩
  · subst e; simpa using h1.2
  · subst e; exact h1.2
theorem awp_bdd {α : Type} {P : Program} {K : α → H → Bool → Prop} {E : Value → H → Prop} : ∀ (s : Sem α) (h : H) (fl : Bool), Bdd h → awp P s h fl K E →
    awp P s h fl (fun x h' fl' => Bdd h' ∧ K x h' fl') E := by
  intro s
  induction s with
  | pure a => exact fun h fl b x => ⟨b, x⟩
  | load m a k ih => rintro h fl b ⟨h1, c, e, fz, v, h2, h3, h4⟩; exact ⟨h1, c, e, fz, v, h2, h3, ih v h fl b h4⟩
  | store m a v k ih => rintro h fl b ⟨h1, h2, c, e, fz, h3, h4, h5, h6⟩; exact ⟨h1, h2, c, e, fz, h3, h4, h5, ih _ _ (b.upd _ _) h6⟩
  | new o k ih => exact fun h fl bd x b hb => ih b _ _ (bd.upd b o) (x b hb)
  | shape r k ih => rintro h fl b ⟨o, h1, h2⟩; exact ⟨o, h1, ih _ _ _ b h2⟩
  | freeze a n k ih => rintro h fl b ⟨o, h1, h2, h3, h4⟩; exact ⟨o, h1, h2, h3, ih _ _ (b.upd _ _) h4⟩
  | frozen a k ih => rintro h fl b ⟨o, h1, h2⟩; exact ⟨o, h1, ih _ _ _ b h2⟩
  | getObj r k ih => rintro h fl b ⟨o, h1, h2, h3⟩; exact ⟨o, h1, h2, ih _ _ _ b h3⟩
  | setObj r o k ih => rintro h fl b ⟨o', h1, h2, h3⟩; exact ⟨o', h1, h2, ih _ _ (b.upd _ _) h3⟩
  | choose q k ih =>
    intro h fl b x
    simp only [awp] at x ⊢
    split at x
    · rename_i hf; rw [if_pos hf]; exact ih _ _ _ b x
    · rename_i hf; rw [if_neg hf]; exact fun n => ih _ _ _ b (x n)
  | sys c k ih => exact fun h fl b x => x.elim
  | program k ih => exact fun h fl b x => ih _ _ _ b x
  | mark m k ih => exact fun h fl b x => ih _ _ b x
  | halt e =>
    intro h fl b x
    cases e with
    | panic v => exact x
    | unsupported u => cases u <;> first | exact x | exact x.elim
    | _ => exact x.elim
theorem ACall.bdd {f : FuncId} {args : Array Value} {h : H} {R : Value → H → Prop} {C : List PanicEntry → H → Prop} (x : ACall P f args h R C) : ACall P f args h (fun v h' => Bdd h' ∧ R v h') C := fun w g s =>
  (x w g s).mono fun e w' r => by
    cases e with
    | returned v => obtain ⟨h', a, b, c⟩ := r; exact ⟨h', a, b, a.bdd, c⟩
    | panicked v => exact r
    | outgrown => trivial
theorem Bdd.un {L h : H} (a : Bdd L) (b : Bdd h) : Bdd (un L h) := by
  obtain ⟨N, hN⟩ := a
  obtain ⟨M, hM⟩ := b
  exact ⟨max N M, fun c hc => un_none.2 ⟨hN c (by omega), hM c (by omega)⟩⟩
theorem Bdd.left {L h : H} (a : Bdd (K.un L h)) : Bdd L := by
  obtain ⟨N, hN⟩ := a; exact ⟨N, fun c hc => (un_none.1 (hN c hc)).1⟩

/-- Behind any operation memory is of bounded extent and beside the boxes still. -/
theorem aOp_inv {o : Oper} {ρ : Env} {L h : H} {T : Post} {C : PPost} (bd : Bdd (un L h)) (ap : Apart L h) (x : aOp P o ρ L h (fun ρ L h => Bdd (un L h) → Apart L h → T ρ L h) C) : aOp P o ρ L h T C := by
  have conv : ∀ nx hf fl, Bdd hf → upon P o ρ L h (fun ρ L h => Bdd (K.un L h) → Apart L h → T ρ L h) C nx hf fl → upon P o ρ L h T C nx hf fl := fun nx hf fl b u => by
    refine u.imp id fun ⟨L', h', e, ap', ag, m⟩ => ⟨L', h', e, ap', ag, ?_⟩
    subst e
    cases nx <;> first
      | exact m b (ap' ap)
      | exact m
      | exact m.bdd.mono (fun v h'' k a => k.2 a (b.left.un k.1) a) (fun _ _ k => k)
  intro ap0
  replace x := x ap0
  cases hq : quietOp P o.op
  · rw [hq] at x; exact awp_mono (fun _ _ _ k => conv _ _ _ k.1 k.2) (fun _ _ k => k) _ _ _ (awp_bdd _ _ _ bd x)
  · rw [hq] at x; exact qwp_mono (fun _ _ k => ⟨k.2.2.1, conv _ _ _ k.2.1 k.2.2.2⟩) (fun _ _ k => k) _ _ (qwp_keeps _ _ bd x)

section takes
variable {next : Post} {fuel : Nat} {oi : Oper} {listed : Array Bool} {ρ : Env} {L h : H}
theorem at_list {i : Nat} (hi : ops.toList[i]? = some oi) : ops[i]? = some oi := by rw [← Array.getElem?_toList]; exact hi
theorem noSel (h : Region.noSelect ops = true) {j : Nat} {o : Oper} (ho : ops[j]? = some o) : ∀ cs b, o.op ≠ .select cs b := fun cs b => Region.noSelect_spec h j o cs b ho
/-- Take 'i' next: it is quiet. -/
theorem tq (i : Nat) (hi' : ops.toList[i]? = some oi) (hs : Region.noSelect ops = true) (hf : free P ops listed i 2 = true) (few : fewB listed (fuel + 1) = true) (hw : Region.wanted oi (yld ops ρ) = true)
    (x : aOp P oi ρ L h (bAny P ops next noP fuel (listed.setIfInBounds i true)) noP) : bAny P ops next noP (fuel + 1) listed ρ L h := fun bd ap => by
  have hi := at_list hi'
  obtain ⟨hcl, hr, hq, hsw⟩ := free_spec hi hf
  refine any_take (fun T => aOpI P ops noP i T) (fun _ L h => Bdd (un L h) ∧ Apart L h) (fun T ρ L h _ k => k) (fun T T' hT ρ L h k => aOpI_mono hT k) fuel listed
    (fun j oj hj hp T ρ L h g k => ?_) (few_of few) hcl hr ρ L h ⟨bd, ap⟩ ?_
  · obtain ⟨hap, _, q2⟩ := hsw j oj hj hp
    exact swap_quiet hi hj hap (noSel hs hi) (noSel hs hj) (hq rfl) (q2 rfl) T ρ L h g k
  · unfold aOpI
    simp only [hi]
    rw [if_pos hw]
    exact aOp_inv bd ap x
/-- Take 'i' next: its value hangs on the temporaries alone. -/
theorem ty {C : PPost} (i : Nat) (v : Value) (hi' : ops.toList[i]? = some oi) (hs : Region.noSelect ops = true) (hf : free P ops listed i 0 = true) (few : fewB listed (fuel + 1) = true) (hw : Region.wanted oi (yld ops ρ) = true)
    (hy : ∀ (L' h' : H) (next : Post), next (put ρ oi.dst v) L' h' → aOp P oi ρ L' h' next C)
    (x : bAny P ops next C fuel (listed.setIfInBounds i true) (put ρ oi.dst v) L h) : bAny P ops next C (fuel + 1) listed ρ L h := fun bd ap => by
  have hi := at_list hi'
  obtain ⟨hcl, hr, hq, hsw⟩ := free_spec hi hf
  refine any_take (fun T ρ L h => T (put ρ oi.dst v) L h) (fun ρ L _ => YieldsL P ops C oi v false ρ L) (fun T ρ L h g k => ?_) (fun T T' hT ρ L h k => hT _ _ _ k) fuel listed
    (fun j oj hj hp T ρ L h g k => ?_) (few_of few) hcl hr ρ L h (.inl ⟨hw, fun L' h' next _ k => hy L' h' next k⟩) (x bd ap)
  · unfold aOpI
    simp only [hi]
    rcases g with ⟨hw, hy⟩ | ⟨hw, rfl⟩
    · rw [if_pos hw]; exact hy L h T (fun e => by cases e) k
    · rw [if_neg (by rw [hw]; exact Bool.false_ne_true)]; exact k
  · obtain ⟨hap, _, _⟩ := hsw j oj hj hp
    exact swap_yields hj hap (noSel hs hi) (noSel hs hj) (fun e => by cases e) T ρ L h g k
/-- Take 'i' next: its guard leaves it out. -/
theorem tn {C : PPost} (i : Nat) (hi' : ops.toList[i]? = some oi) (hs : Region.noSelect ops = true) (hf : free P ops listed i 0 = true) (few : fewB listed (fuel + 1) = true) (hw : Region.wanted oi (yld ops ρ) = false)
    (x : bAny P ops next C fuel (listed.setIfInBounds i true) (put ρ oi.dst undef) L h) : bAny P ops next C (fuel + 1) listed ρ L h := fun bd ap => by
  have hi := at_list hi'
  obtain ⟨hcl, hr, hq, hsw⟩ := free_spec hi hf
  refine any_take (fun T ρ L h => T (put ρ oi.dst undef) L h) (fun ρ L _ => YieldsL P ops C oi undef false ρ L) (fun T ρ L h g k => ?_) (fun T T' hT ρ L h k => hT _ _ _ k) fuel listed
    (fun j oj hj hp T ρ L h g k => ?_) (few_of few) hcl hr ρ L h (.inr ⟨hw, rfl⟩) (x bd ap)
  · unfold aOpI
    simp only [hi]
    rcases g with ⟨hw, hy⟩ | ⟨hw, -⟩
    · rw [if_pos hw]; exact hy L h T (fun e => by cases e) k
    · rw [if_neg (by rw [hw]; exact Bool.false_ne_true)]; exact k
  · obtain ⟨hap, _, _⟩ := hsw j oj hj hp
    exact swap_yields hj hap (noSel hs hi) (noSel hs hj) (fun e => by cases e) T ρ L h g k
/-- Take 'i' next: its value hangs on the temporaries and the own boxes. -/
theorem tr {C : PPost} (i : Nat) (v : Value) (hi' : ops.toList[i]? = some oi) (hs : Region.noSelect ops = true) (hf : free P ops listed i 1 = true) (few : fewB listed (fuel + 1) = true) (hw : Region.wanted oi (yld ops ρ) = true)
    (hy : ∀ (L' h' : H) (next : Post), Grows L L' → next (put ρ oi.dst v) L' h' → aOp P oi ρ L' h' next C)
    (x : bAny P ops next C fuel (listed.setIfInBounds i true) (put ρ oi.dst v) L h) : bAny P ops next C (fuel + 1) listed ρ L h := fun bd ap => by
  have hi := at_list hi'
  obtain ⟨hcl, hr, hq, hsw⟩ := free_spec hi hf
  refine any_take (fun T ρ L h => T (put ρ oi.dst v) L h) (fun ρ L _ => YieldsL P ops C oi v true ρ L) (fun T ρ L h g k => ?_) (fun T T' hT ρ L h k => hT _ _ _ k) fuel listed
    (fun j oj hj hp T ρ L h g k => ?_) (few_of few) hcl hr ρ L h (.inl ⟨hw, fun L' h' next g k => hy L' h' next (g rfl) k⟩) (x bd ap)
  · unfold aOpI
    simp only [hi]
    rcases g with ⟨hw, hy⟩ | ⟨hw, rfl⟩
    · rw [if_pos hw]; exact hy L h T (fun _ => .refl L) k
    · rw [if_neg (by rw [hw]; exact Bool.false_ne_true)]; exact k
  · obtain ⟨hap, hm, _⟩ := hsw j oj hj hp
    exact swap_yields hj hap (noSel hs hi) (noSel hs hj) (fun _ => hm rfl) T ρ L h g k
/-- 'i' alone is ready. -/
theorem t1 {C : PPost} (i : Nat) (hi' : ops.toList[i]? = some oi) (hr : Region.ready .any ops listed = [i]) (hw : Region.wanted oi (yld ops ρ) = true)
    (x : aOp P oi ρ L h (bAny P ops next C fuel (listed.setIfInBounds i true)) C) : bAny P ops next C (fuel + 1) listed ρ L h := fun bd ap => by
  have hi := at_list hi'
  refine ⟨fun h0 => (by rw [hr] at h0; cases h0), ?_⟩
  rw [hr]
  intro j hj
  obtain rfl := List.mem_singleton.1 hj
  unfold aOpI
  simp only [hi]
  rw [if_pos hw]
  exact aOp_inv bd ap x
/-- 'i' or 'j' may come next. -/
theorem t2 {C : PPost} (i j : Nat) {oj : Oper} (hi' : ops.toList[i]? = some oi) (hj' : ops.toList[j]? = some oj) (hr : Region.ready .any ops listed = [i, j]) (hwi : Region.wanted oi (yld ops ρ) = true) (hwj : Region.wanted oj (yld ops ρ) = true)
    (x : aOp P oi ρ L h (bAny P ops next C fuel (listed.setIfInBounds i true)) C) (y : aOp P oj ρ L h (bAny P ops next C fuel (listed.setIfInBounds j true)) C) : bAny P ops next C (fuel + 1) listed ρ L h := fun bd ap => by
  have hi := at_list hi'
  have hj := at_list hj'
  refine ⟨fun h0 => (by rw [hr] at h0; cases h0), ?_⟩
  rw [hr]
  intro k hk
  rcases List.mem_cons.1 hk with rfl | hk
  · unfold aOpI
    simp only [hi]
    rw [if_pos hwi]
    exact aOp_inv bd ap x
  · rw [List.mem_singleton] at hk
    subst hk
    unfold aOpI
    simp only [hj]
    rw [if_pos hwj]
    exact aOp_inv bd ap y
theorem td {C : PPost} (hr : Region.ready .any ops listed = []) (x : next ρ L h) : bAny P ops next C fuel listed ρ L h := fun _ _ => by
  cases fuel with
  | zero => exact ⟨hr, x⟩
  | succ k => exact ⟨fun _ => x, by rw [hr]; simp⟩
/-- The operations in the text's order. -/
theorem sg {C : PPost} {i : Nat} {rest : List Nat} (hi' : ops.toList[i]? = some oi) (hw : Region.wanted oi (yld ops ρ) = true) (x : aOp P oi ρ L h (aOps P ops next C rest) C) : aOps P ops next C (i :: rest) ρ L h := by
  have hi := at_list hi'
  show aOpI P ops C i (aOps P ops next C rest) ρ L h
  unfold aOpI; simp only [hi]; rw [if_pos hw]; exact x
theorem sn {C : PPost} {i : Nat} {rest : List Nat} (hi' : ops.toList[i]? = some oi) (hw : Region.wanted oi (yld ops ρ) = false) (x : aOps P ops next C rest (put ρ oi.dst undef) L h) : aOps P ops next C (i :: rest) ρ L h := by
  have hi := at_list hi'
  show aOpI P ops C i (aOps P ops next C rest) ρ L h
  unfold aOpI; simp only [hi]; rw [if_neg (by rw [hw]; exact Bool.false_ne_true)]; exact x
end takes
end
end Go.Proofs.Ytlnlmideghepnaa.K
