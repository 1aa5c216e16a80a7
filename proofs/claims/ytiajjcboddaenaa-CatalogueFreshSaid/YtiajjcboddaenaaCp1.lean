/- Catalogues, plainly: live entries by number, each with its children. -/
import Derived.Test.YtiajjcboddaenaaCa5
namespace Go.Proofs.Ytiajjcboddaenaa.K
open Go
abbrev En := Option (S_api_Token × List Int)
def ndOf : En → Nd
  | none => nd0
  | some (t, ks) => ⟨true, t.Parent, ks⟩
def nds (es : List En) : List Nd := es.map ndOf
abbrev Has (es : List En) (i : Nat) (t : S_api_Token) (ks : List Int) : Prop := es[i]? = some (some (t, ks))
structure CWF (es : List En) : Prop where
  len : 1 ≤ es.length ∧ es.length ≤ 256
  nd : ∀ i t ks, Has es i t ks → ks.Nodup
  down : ∀ i t ks, Has es i t ks → ∀ k ∈ ks, ∃ (j : Nat) (u : S_api_Token) (us : List Int), k = j ∧ Has es j u us ∧ u.Parent = i
  up : ∀ j u us, Has es j u us → u.Parent = -1 ∨ ∃ (i : Nat) (t : S_api_Token) (ks : List Int), u.Parent = i ∧ Has es i t ks ∧ (j : Int) ∈ ks ∧ t.Cap.Obj = u.Cap.Obj ∧ partOf u.Rights t.Rights = true
  rank : ∃ (w : Nat → Nat) (B : Nat), ∀ j u us, Has es j u us → w j ≤ B ∧ ∀ i : Nat, u.Parent = i → w i < w j
  cap : ∀ i j t ks u us, Has es i t ks → Has es j u us → t.Cap = u.Cap → i = j
  one : ∀ i j t ks u us, Has es i t ks → Has es j u us → t.Parent = -1 → u.Parent = -1 → t.Cap.Obj = u.Cap.Obj → i = j
  right : ∀ i t ks, Has es i t ks → 1 ≤ t.Rights ∧ t.Rights ≤ 31
theorem Has.lt {es : List En} {i : Nat} {t ks} (x : Has es i t ks) : i < es.length := lt_of_get x
theorem Has.uniq {es : List En} {i : Nat} {t ks u us} (x : Has es i t ks) (y : Has es i u us) : t = u ∧ ks = us := by
  have := x.symm.trans y
  simpa using this
theorem nds_get {es : List En} {i : Nat} {t ks} (x : Has es i t ks) : (nds es)[i]? = some ⟨true, t.Parent, ks⟩ := by
  unfold nds
  rw [List.getElem?_map, x]; rfl
theorem nds_none {es : List En} {i : Nat} (x : es[i]? = some none) : (nds es)[i]? = some nd0 := by
  unfold nds
  rw [List.getElem?_map, x]; rfl
theorem nds_len (es : List En) : (nds es).length = es.length := List.length_map ..
theorem hasN_nds {es : List En} {z : Int} : hasN (nds es) z = true ↔ ∃ (i : Nat) (t : S_api_Token) (ks : List Int), z = i ∧ Has es i t ks := by
  constructor
  · intro x
    obtain ⟨i, d, rfl, hd, ht, _⟩ := hasN_nat x
    unfold nds at hd
    rw [List.getElem?_map] at hd
    cases e : es[i]? with
    | none => rw [e] at hd; cases hd
    | some o =>
      cases o with
      | none => rw [e] at hd; cases hd; cases ht
      | some p => obtain ⟨t, ks⟩ := p; exact ⟨i, t, ks, rfl, e⟩
  · rintro ⟨i, t, ks, rfl, x⟩
    exact hasN_iff.2 ⟨_, nds_get x, rfl⟩
theorem chN_nds {es : List En} {i : Nat} {t ks} (x : Has es i t ks) : chN (nds es) (i : Int) = ks := by
  rw [chN_nat, nds_get x]; rfl
theorem chN_mem {es : List En} {z k : Int} (x : k ∈ chN (nds es) z) : ∃ (i : Nat) (t : S_api_Token) (ks : List Int), z = i ∧ Has es i t ks ∧ k ∈ ks := by
  by_cases h0 : 0 ≤ z
  · obtain ⟨i, rfl⟩ : ∃ i : Nat, z = i := ⟨z.toNat, by omega⟩
    rw [chN_nat] at x
    unfold nds at x
    rw [List.getElem?_map] at x
    cases e : es[i]? with
    | none => rw [e] at x; cases x
    | some o =>
      cases o with
      | none => rw [e] at x; cases x
      | some p => obtain ⟨t, ks⟩ := p; rw [e] at x; exact ⟨i, t, ks, rfl, e, x⟩
  · unfold chN at x
    rw [if_neg h0] at x; cases x
theorem CWF.forest {es : List En} (w : CWF es) : Forest (chN (nds es)) := by
  refine ⟨fun x y z hx hy => ?_, fun x => ?_, ?_⟩
  · obtain ⟨i, t, ks, rfl, h1, m1⟩ := chN_mem hx
    obtain ⟨j, u, us, rfl, h2, m2⟩ := chN_mem hy
    obtain ⟨a, v, vs, rfl, h3, p3⟩ := w.down i t ks h1 z m1
    obtain ⟨b, v', vs', e, h4, p4⟩ := w.down j u us h2 _ m2
    obtain rfl : a = b := by omega
    obtain ⟨rfl, rfl⟩ := h3.uniq h4
    omega
  · by_cases h : ∃ k, k ∈ chN (nds es) x
    · obtain ⟨k, hk⟩ := h
      obtain ⟨i, t, ks, rfl, h1, m1⟩ := chN_mem hk
      rw [chN_nds h1]; exact w.nd i t ks h1
    · rw [List.eq_nil_iff_forall_not_mem.2 fun a ha => h ⟨a, ha⟩]; exact List.nodup_nil
  · obtain ⟨r, B, hr⟩ := w.rank
    refine ⟨fun z => r z.toNat, B, fun x y hy => ?_⟩
    obtain ⟨i, t, ks, rfl, h1, m1⟩ := chN_mem hy
    obtain ⟨j, u, us, rfl, h2, p2⟩ := w.down i t ks h1 y m1
    obtain ⟨a, b⟩ := hr j u us h2
    have := b i p2
    dsimp only
    rw [Int.toNat_natCast, Int.toNat_natCast]
    omega
theorem CWF.below {es : List En} (w : CWF es) {x z : Int} (hx : hasN (nds es) x = true) (d : Desc (chN (nds es)) x z) : hasN (nds es) z = true := by
  cases d with
  | refl => exact hx
  | snoc d hz =>
    obtain ⟨i, t, ks, rfl, h1, m1⟩ := chN_mem hz
    obtain ⟨j, u, us, rfl, h2, _⟩ := w.down i t ks h1 z m1
    exact hasN_nds.2 ⟨j, u, us, rfl, h2⟩
theorem nodup_le : ∀ (n : Nat) (l : List Int), l.Nodup → (∀ z ∈ l, ∃ i : Nat, i < n ∧ z = i) → l.length ≤ n := by
  intro n
  induction n with
  | zero =>
    intro l _ h
    cases l with
    | nil => exact Nat.le_refl _
    | cons a r => obtain ⟨i, hi, _⟩ := h a (List.mem_cons_self ..); omega
  | succ n ih =>
    intro l hn h
    have := ih (l.erase (n : Int)) (hn.erase _) fun z hz => by
      obtain ⟨q1, q2⟩ := (List.Nodup.mem_erase_iff hn).1 hz
      obtain ⟨i, hi, rfl⟩ := h z q2
      exact ⟨i, by omega, rfl⟩
    rw [List.length_erase] at this
    split at this <;> omega
/-- What stands below a live node. -/
structure Below (es : List En) (n : Nat) (l : List Int) : Prop where
  pre : PreL (chN (nds es)) [(n : Int)] l
  live : LiveL (nds es) l
  nd : l.Nodup
  len : l.length ≤ es.length
theorem CWF.belowL {es : List En} (w : CWF es) {n : Nat} {t ks} (hn : Has es n t ks) {ch : Int → List Int} (hch : ∀ z k, k ∈ ch z ↔ k ∈ chN (nds es) z) (fo : Forest ch) {l : List Int} (hl : PreL ch [(n : Int)] l) : LiveL (nds es) l ∧ l.Nodup ∧ l.length ≤ es.length := by
  have live : LiveL (nds es) l := fun z hz => by
    obtain ⟨r, hr, d⟩ := hl.mem.1 hz
    obtain rfl := List.mem_singleton.1 hr
    have conv : ∀ {a b}, Desc ch a b → Desc (chN (nds es)) a b := fun d => by
      induction d with
      | refl => exact .refl
      | snoc _ h ih => exact .snoc ih ((hch _ _).1 h)
    exact w.below (hasN_nds.2 ⟨n, t, ks, rfl, hn⟩) (conv d)
  have nd := hl.nodup1 fo
  refine ⟨live, nd, nodup_le _ _ nd fun z hz => ?_⟩
  obtain ⟨i, u, us, rfl, h⟩ := hasN_nds.1 (live z hz)
  exact ⟨i, h.lt, rfl⟩
theorem CWF.ex {es : List En} (w : CWF es) {n : Nat} {t ks} (hn : Has es n t ks) : ∃ l, Below es n l := by
  obtain ⟨l, hl⟩ := PreL.ex w.forest [(n : Int)]
  obtain ⟨a, b, c⟩ := w.belowL hn (fun _ _ => Iff.rfl) w.forest hl
  exact ⟨l, hl, a, b, c⟩
/-- All live entries with the numbers they have. -/
def capsG : Nat → List En → List (S_api_Cap × Int)
  | _, [] => []
  | k, none :: r => capsG (k + 1) r
  | k, some (t, _) :: r => (t.Cap, (k : Int)) :: capsG (k + 1) r
theorem capsG_mem {c : S_api_Cap} {v : Int} : ∀ {es : List En} {k : Nat}, (c, v) ∈ capsG k es ↔ ∃ (i : Nat) (t : S_api_Token) (ks : List Int), Has es i t ks ∧ t.Cap = c ∧ v = ((k + i : Nat) : Int) := by
  intro es
  induction es with
  | nil =>
    intro k
    constructor
    · intro h; cases h
    · rintro ⟨i, t, ks, h, _⟩; cases h
  | cons e r ih =>
    intro k
    cases e with
    | none =>
      rw [capsG, ih]
      constructor
      · rintro ⟨i, t, ks, a, b, c⟩; exact ⟨i + 1, t, ks, a, b, by omega⟩
      · rintro ⟨i, t, ks, a, b, c⟩
        cases i with
        | zero => cases a
        | succ i => exact ⟨i, t, ks, a, b, by omega⟩
    | some p =>
      obtain ⟨u, us⟩ := p
      rw [capsG, List.mem_cons, ih]
      constructor
      · rintro (a | ⟨i, t, ks, a, b, c⟩)
        · cases a; exact ⟨0, u, us, rfl, rfl, by simp⟩
        · exact ⟨i + 1, t, ks, a, b, by omega⟩
      · rintro ⟨i, t, ks, a, b, c⟩
        cases i with
        | zero =>
          have a : some (some (u, us)) = some (some (t, ks)) := a
          cases a; left; rw [b, c]; simp
        | succ i => exact .inr ⟨i, t, ks, a, b, by omega⟩
theorem capsG_new {t : S_api_Token} {ks : List Int} : ∀ {es : List En} {i k : Nat}, es[i]? = some none → (capsG k (es.set i (some (t, ks)))).Perm ((t.Cap, ((k + i : Nat) : Int)) :: capsG k es) := by
  intro es
  induction es with
  | nil => intro i k h; cases h
  | cons e r ih =>
    intro i k h
    cases i with
    | zero => cases h; exact .refl _
    | succ i =>
      have h : r[i]? = some none := h
      have := ih (k := k + 1) h
      rw [List.set_cons_succ]
      rw [show k + 1 + i = k + (i + 1) by omega] at this
      cases e with
      | none => exact this
      | some p =>
        obtain ⟨u, us⟩ := p
        exact (this.cons _).trans (.swap ..)
theorem capsG_kill {t : S_api_Token} {ks : List Int} : ∀ {es : List En} {i k : Nat}, Has es i t ks → (capsG k es).Perm ((t.Cap, ((k + i : Nat) : Int)) :: capsG k (es.set i none)) := by
  intro es
  induction es with
  | nil => intro i k h; cases h
  | cons e r ih =>
    intro i k h
    cases i with
    | zero => cases h; exact .refl _
    | succ i =>
      have h : Has r i t ks := h
      have := ih (k := k + 1) h
      rw [List.set_cons_succ]
      rw [show k + 1 + i = k + (i + 1) by omega] at this
      cases e with
      | none => exact this
      | some p =>
        obtain ⟨u, us⟩ := p
        exact (this.cons _).trans (.swap ..)
theorem capsG_congr : ∀ {es es' : List En} {k : Nat}, es.map (Option.map Prod.fst) = es'.map (Option.map Prod.fst) → capsG k es = capsG k es' := by
  intro es
  induction es with
  | nil =>
    intro es' k h
    cases es' with
    | nil => rfl
    | cons a r => cases h
  | cons e r ih =>
    intro es' k h
    cases es' with
    | nil => cases h
    | cons e' r' =>
      rw [List.map_cons, List.map_cons, List.cons.injEq] at h
      have := ih (k := k + 1) h.2
      cases e with
      | none =>
        cases e' with
        | none => exact this
        | some p => cases h.1
      | some p =>
        cases e' with
        | none => cases h.1
        | some p' =>
          obtain ⟨u, us⟩ := p; obtain ⟨u', us'⟩ := p'
          have h1 : some u = some u' := h.1
          cases h1
          rw [capsG, capsG, this]
def cnt (es : List En) (o : Int) : Nat := (capsG 0 es).countP fun p => decide (p.1.Obj = o)
theorem cnt_le (es : List En) (o : Int) : cnt es o ≤ es.length := by
  have h : ∀ (es : List En) (k : Nat), (capsG k es).length ≤ es.length := by
    intro es
    induction es with
    | nil => exact fun _ => Nat.le_refl _
    | cons e r ih =>
      intro k
      have := ih (k + 1)
      cases e with
      | none => rw [capsG]; simp only [List.length_cons]; omega
      | some p => obtain ⟨u, us⟩ := p; rw [capsG]; simp only [List.length_cons]; omega
  exact Nat.le_trans List.countP_le_length (h es 0)
theorem cnt_pos {es : List En} {o : Int} : 0 < cnt es o ↔ ∃ (i : Nat) (t : S_api_Token) (ks : List Int), Has es i t ks ∧ t.Cap.Obj = o := by
  unfold cnt
  rw [List.countP_pos_iff]
  constructor
  · rintro ⟨⟨c, v⟩, hm, e⟩
    obtain ⟨i, t, ks, a, b, _⟩ := capsG_mem.1 hm
    exact ⟨i, t, ks, a, by rw [b]; simpa using e⟩
  · rintro ⟨i, t, ks, a, b⟩
    exact ⟨(t.Cap, ((0 + i : Nat) : Int)), capsG_mem.2 ⟨i, t, ks, a, rfl, rfl⟩, by simpa using b⟩
theorem capsG_once {es : List En} (w : CWF es) : Once (capsG 0 es) := by
  have h : ∀ (es : List En) (k : Nat), (∀ i j t ks u us, Has es i t ks → Has es j u us → t.Cap = u.Cap → i = j) → Once (capsG k es) := by
    intro es
    induction es with
    | nil => exact fun _ _ => List.nodup_nil
    | cons e r ih =>
      intro k hc
      have hr := ih (k + 1) fun i j t ks u us a b c => by have := hc (i + 1) (j + 1) t ks u us a b c; omega
      cases e with
      | none => exact hr
      | some p =>
        obtain ⟨u, us⟩ := p
        unfold Once
        rw [capsG, List.map_cons, List.nodup_cons]
        refine ⟨fun hm => ?_, hr⟩
        obtain ⟨⟨c, v⟩, hm, e⟩ := List.mem_map.1 hm
        obtain ⟨i, t, ks, a, b, _⟩ := capsG_mem.1 hm
        have := hc (i + 1) 0 t ks u us a rfl (by rw [b]; exact e)
        omega
  exact h es 0 w.cap
theorem CWF.empty {n : Nat} (h1 : 1 ≤ n) (h2 : n ≤ 256) : CWF (List.replicate n none) := by
  have no : ∀ {i t ks}, ¬ Has (List.replicate n none) i t ks := fun h => by
    have := List.eq_of_mem_replicate (List.mem_of_getElem? h)
    cases this
  exact ⟨by rw [List.length_replicate]; exact ⟨h1, h2⟩, fun _ _ _ h => (no h).elim, fun _ _ _ h => (no h).elim, fun _ _ _ h => (no h).elim, ⟨fun _ => 0, 0, fun _ _ _ h => (no h).elim⟩, fun _ _ _ _ _ _ h => (no h).elim, fun _ _ _ _ _ _ h => (no h).elim, fun _ _ _ h => (no h).elim⟩
def rootE (es : List En) (n : Nat) (t : S_api_Token) : List En := es.set n (some (t, []))
def childE (es : List En) (q n : Nat) (t : S_api_Token) : List En := match es[q]? with
  | some (some (u, us)) => (es.set n (some (t, []))).set q (some (u, us ++ [(n : Int)]))
  | _ => es
theorem CWF.parent {es : List En} (w : CWF es) {n : Nat} (hn : es[n]? = some none) {j u us} (h : Has es j u us) : u.Parent ≠ n := fun e => by
  rcases w.up j u us h with q | ⟨i, t, ks, q, hi, _⟩
  · omega
  · obtain rfl : i = n := by omega
    unfold Has at hi; rw [hn] at hi; cases hi
theorem CWF.kid {es : List En} (w : CWF es) {n : Nat} (hn : es[n]? = some none) {j u us} (h : Has es j u us) : (n : Int) ∉ us := fun e => by
  obtain ⟨i, t, ks, q, hi, _⟩ := w.down j u us h _ e
  obtain rfl : n = i := by omega
  unfold Has at hi; rw [hn] at hi; cases hi
theorem has_set {es : List En} {n : Nat} (hn : n < es.length) {e : En} {i : Nat} {t ks} : Has (es.set n e) i t ks ↔ (i = n ∧ e = some (t, ks)) ∨ (i ≠ n ∧ Has es i t ks) := by
  unfold Has
  rw [List.getElem?_set]
  by_cases q : n = i
  · subst q
    rw [if_pos rfl, if_pos hn]
    constructor
    · intro h; cases h; exact .inl ⟨rfl, rfl⟩
    · rintro (⟨_, h⟩ | ⟨h, _⟩)
      · rw [h]
      · exact absurd rfl h
  · rw [if_neg q]
    constructor
    · intro h; exact .inr ⟨fun z => q z.symm, h⟩
    · rintro (⟨h, _⟩ | ⟨_, h⟩)
      · exact absurd h.symm q
      · exact h
theorem CWF.root {es : List En} (w : CWF es) {n : Nat} (hn : es[n]? = some none) {c : S_api_Cap} {r : Int} (hr : 1 ≤ r ∧ r ≤ 31) (h0 : cnt es c.Obj = 0) : CWF (rootE es n ⟨c, r, -1⟩) := by
  have hlt := lt_of_get hn
  have no : ∀ {i t ks}, Has es i t ks → t.Cap.Obj ≠ c.Obj := fun h e => by
    have := cnt_pos.2 ⟨_, _, _, h, e⟩
    omega
  have neN : ∀ {i t ks}, Has es i t ks → i ≠ n := fun h e => by subst e; unfold Has at h; rw [hn] at h; cases h
  refine ⟨by unfold rootE; rw [List.length_set]; exact w.len, fun i t ks h => ?_, fun i t ks h k hk => ?_, fun j u us h => ?_, ?_, fun i j t ks u us a b e => ?_, fun i j t ks u us a b e e' e'' => ?_, fun i t ks h => ?_⟩
  · rcases (has_set hlt).1 h with ⟨rfl, q⟩ | ⟨_, h⟩
    · cases q; exact List.nodup_nil
    · exact w.nd i t ks h
  · rcases (has_set hlt).1 h with ⟨rfl, q⟩ | ⟨_, h⟩
    · cases q; cases hk
    · obtain ⟨j, u, us, a, b, c⟩ := w.down i t ks h k hk
      exact ⟨j, u, us, a, (has_set hlt).2 (.inr ⟨neN b, b⟩), c⟩
  · rcases (has_set hlt).1 h with ⟨rfl, q⟩ | ⟨_, h⟩
    · cases q; exact .inl rfl
    · rcases w.up j u us h with q | ⟨i, t, ks, q, hi, z⟩
      · exact .inl q
      · exact .inr ⟨i, t, ks, q, (has_set hlt).2 (.inr ⟨neN hi, hi⟩), z⟩
  · obtain ⟨wt, B, hw⟩ := w.rank
    refine ⟨fun i => if i = n then 0 else wt i, B, fun j u us h => ?_⟩
    rcases (has_set hlt).1 h with ⟨rfl, q⟩ | ⟨hne, h⟩
    · cases q
      exact ⟨by dsimp only; rw [if_pos rfl]; omega, fun i e => by have e : (-1 : Int) = i := e; omega⟩
    · obtain ⟨a, b⟩ := hw j u us h
      refine ⟨by dsimp only; rw [if_neg hne]; exact a, fun i e => ?_⟩
      dsimp only
      rw [if_neg (fun q : i = n => w.parent hn h (q ▸ e)), if_neg hne]
      exact b i e
  · rcases (has_set hlt).1 a with ⟨rfl, q⟩ | ⟨_, a'⟩
    · cases q
      rcases (has_set hlt).1 b with ⟨rfl, _⟩ | ⟨_, b'⟩
      · rfl
      · exact absurd (by rw [← e]) (no b')
    · rcases (has_set hlt).1 b with ⟨rfl, q⟩ | ⟨_, b'⟩
      · cases q; exact absurd (by rw [e]) (no a')
      · exact w.cap i j t ks u us a' b' e
  · rcases (has_set hlt).1 a with ⟨rfl, q⟩ | ⟨_, a'⟩
    · cases q
      rcases (has_set hlt).1 b with ⟨rfl, _⟩ | ⟨_, b'⟩
      · rfl
      · exact absurd e''.symm (no b')
    · rcases (has_set hlt).1 b with ⟨rfl, q⟩ | ⟨_, b'⟩
      · cases q; exact absurd e'' (no a')
      · exact w.one i j t ks u us a' b' e e' e''
  · rcases (has_set hlt).1 h with ⟨rfl, q⟩ | ⟨_, h⟩
    · cases q; exact hr
    · exact w.right i t ks h
theorem nds_root {es : List En} {n : Nat} {c : S_api_Cap} {r : Int} : nds (rootE es n ⟨c, r, -1⟩) = rootN (nds es) n := by
  unfold nds rootE rootN
  rw [List.map_set]; rfl
theorem has_child {es : List En} {q n : Nat} {t : S_api_Token} {u us} (hq : Has es q u us) (hn : es[n]? = some none) {i : Nat} {v vs} : Has (childE es q n t) i v vs ↔ (i = n ∧ v = t ∧ vs = []) ∨ (i = q ∧ v = u ∧ vs = us ++ [(n : Int)]) ∨ (i ≠ n ∧ i ≠ q ∧ Has es i v vs) := by
  have hlt := lt_of_get hn
  have hne : n ≠ q := fun e => by subst e; unfold Has at hq; rw [hn] at hq; cases hq
  have e0 : childE es q n t = (es.set n (some (t, []))).set q (some (u, us ++ [(n : Int)])) := by unfold childE; rw [hq]
  rw [e0, has_set (by rw [List.length_set]; exact hq.lt), has_set hlt]
  constructor
  · rintro (⟨a, b⟩ | ⟨a, ⟨b, c⟩ | ⟨b, c⟩⟩)
    · cases b; exact .inr (.inl ⟨a, rfl, rfl⟩)
    · cases c; exact .inl ⟨b, rfl, rfl⟩
    · exact .inr (.inr ⟨b, a, c⟩)
  · rintro (⟨a, b, c⟩ | ⟨a, b, c⟩ | ⟨a, b, c⟩)
    · subst a b c; exact .inr ⟨hne, .inl ⟨rfl, rfl⟩⟩
    · subst a b c; exact .inl ⟨rfl, rfl⟩
    · exact .inr ⟨b, .inr ⟨a, c⟩⟩
theorem CWF.child {es : List En} (w : CWF es) {q n : Nat} {u us} (hq : Has es q u us) (hn : es[n]? = some none) {c : S_api_Cap} {r : Int} (ho : u.Cap.Obj = c.Obj) (hp : partOf r u.Rights = true) (hr : 1 ≤ r ∧ r ≤ 31) (h0 : ∀ i t ks, Has es i t ks → t.Cap ≠ c) : CWF (childE es q n ⟨c, r, q⟩) := by
  have H := fun {i v vs} => has_child (t := ⟨c, r, q⟩) (i := i) (v := v) (vs := vs) hq hn
  have neN : ∀ {i t ks}, Has es i t ks → i ≠ n := fun h e => by subst e; unfold Has at h; rw [hn] at h; cases h
  have hqn : q ≠ n := neN hq
  have old : ∀ {i v vs}, Has es i v vs → ∃ vs', Has (childE es q n ⟨c, r, q⟩) i v vs' ∧ (∀ k ∈ vs, k ∈ vs') := fun {i v vs} h => by
    by_cases e : i = q
    · subst e
      obtain ⟨rfl, rfl⟩ := hq.uniq h
      exact ⟨_, H.2 (.inr (.inl ⟨rfl, rfl, rfl⟩)), fun k hk => List.mem_append_left _ hk⟩
    · exact ⟨vs, H.2 (.inr (.inr ⟨neN h, e, h⟩)), fun k hk => hk⟩
  have back : ∀ {i v vs}, Has (childE es q n ⟨c, r, q⟩) i v vs → i ≠ n → ∃ vs', Has es i v vs' := fun {i v vs} h e => by
    rcases H.1 h with ⟨a, _⟩ | ⟨rfl, rfl, _⟩ | ⟨_, _, h⟩
    · exact absurd a e
    · exact ⟨_, hq⟩
    · exact ⟨_, h⟩
  have newc : ∀ {i v vs}, Has (childE es q n ⟨c, r, q⟩) i v vs → i = n → v = ⟨c, r, q⟩ := fun {i v vs} h e => by
    rcases H.1 h with ⟨_, a, _⟩ | ⟨a, _, _⟩ | ⟨a, _, _⟩
    · exact a
    · exact absurd (a.symm.trans e) hqn
    · exact absurd e a
  refine ⟨?_, fun i t ks h => ?_, fun i t ks h k hk => ?_, fun j v vs h => ?_, ?_, fun i j t ks v vs a b e => ?_, fun i j t ks v vs a b e e' e'' => ?_, fun i t ks h => ?_⟩
  · unfold childE; rw [hq]; simp only [List.length_set]; exact w.len
  · rcases H.1 h with ⟨_, _, rfl⟩ | ⟨rfl, rfl, rfl⟩ | ⟨_, _, h⟩
    · exact List.nodup_nil
    · rw [List.nodup_append]
      refine ⟨w.nd _ _ _ hq, by simp, fun a ha b hb e => ?_⟩
      obtain rfl := List.mem_singleton.1 hb
      subst e
      exact w.kid hn hq ha
    · exact w.nd i t ks h
  · have lift : ∀ {k : Int} {i : Nat} {t ks}, Has es i t ks → k ∈ ks → ∃ (j : Nat) (u : S_api_Token) (us : List Int), k = j ∧ Has (childE es q n ⟨c, r, q⟩) j u us ∧ u.Parent = i := fun hi hk => by
      obtain ⟨j, v, vs, a, b, c⟩ := w.down _ _ _ hi _ hk
      obtain ⟨vs', b', _⟩ := old b
      exact ⟨j, v, vs', a, b', c⟩
    rcases H.1 h with ⟨_, _, rfl⟩ | ⟨rfl, rfl, rfl⟩ | ⟨_, _, h⟩
    · cases hk
    · rcases List.mem_append.1 hk with hk | hk
      · exact lift hq hk
      · obtain rfl := List.mem_singleton.1 hk
        exact ⟨n, _, _, rfl, H.2 (.inl ⟨rfl, rfl, rfl⟩), rfl⟩
    · exact lift h hk
  · by_cases e : j = n
    · have := newc h e
      subst this; subst e
      refine .inr ⟨q, u, us ++ [(j : Int)], rfl, H.2 (.inr (.inl ⟨rfl, rfl, rfl⟩)), ?_, ho, hp⟩
      simp
    · obtain ⟨vs', h⟩ := back h e
      rcases w.up j v vs' h with z | ⟨i, t, ks, z, hi, m, z'⟩
      · exact .inl z
      · obtain ⟨ks', hi', sub⟩ := old hi
        exact .inr ⟨i, t, ks', z, hi', sub _ m, z'⟩
  · obtain ⟨wt, B, hw⟩ := w.rank
    refine ⟨fun i => if i = n then wt q + 1 else wt i, B + 1, fun j v vs h => ?_⟩
    by_cases e : j = n
    · have := newc h e
      subst this; subst e
      refine ⟨by dsimp only; rw [if_pos rfl]; have := (hw q u us hq).1; omega, fun i e => ?_⟩
      dsimp only
      have e : (q : Int) = i := e
      obtain rfl : q = i := by omega
      rw [if_neg hqn, if_pos rfl]; omega
    · obtain ⟨vs', h⟩ := back h e
      obtain ⟨a, b⟩ := hw j v vs' h
      refine ⟨by dsimp only; rw [if_neg e]; omega, fun i z => ?_⟩
      dsimp only
      rw [if_neg (fun q : i = n => w.parent hn h (q ▸ z)), if_neg e]
      exact b i z
  · by_cases e1 : i = n
    · by_cases e2 : j = n
      · omega
      · obtain ⟨vs', b⟩ := back b e2
        have := newc a e1
        subst this
        exact absurd e.symm (h0 _ _ _ b)
    · obtain ⟨ks', a⟩ := back a e1
      by_cases e2 : j = n
      · have := newc b e2
        subst this
        exact absurd e (h0 _ _ _ a)
      · obtain ⟨vs', b⟩ := back b e2
        exact w.cap _ _ _ _ _ _ a b e
  · by_cases e1 : i = n
    · have := newc a e1
      subst this
      have e : (q : Int) = -1 := e
      omega
    · obtain ⟨ks', a⟩ := back a e1
      by_cases e2 : j = n
      · have := newc b e2
        subst this
        have e' : (q : Int) = -1 := e'
        omega
      · obtain ⟨vs', b⟩ := back b e2
        exact w.one _ _ _ _ _ _ a b e e' e''
  · by_cases e : i = n
    · have := newc h e
      subst this; exact hr
    · obtain ⟨ks', h⟩ := back h e
      exact w.right _ _ _ h
theorem nds_child {es : List En} {q n : Nat} {t : S_api_Token} (ht : t.Parent = q) {u us} (hq : Has es q u us) : nds (childE es q n t) = childN (nds es) q n := by
  unfold childN
  rw [nds_get hq]
  unfold childE
  rw [hq]
  simp only [nds]
  rw [List.map_set, List.map_set]
  show ((es.map ndOf).set n ⟨true, t.Parent, []⟩).set q ⟨true, u.Parent, us ++ [(n : Int)]⟩ = _
  rw [ht]
/-! Cutting. -/
def cutE (S : List Int) (es : List En) : List En := es.mapIdx fun i e => if (i : Int) ∈ S then none else e.map fun p => (p.1, p.2.filter fun k => decide (k ∉ S))
theorem cutE_len (S : List Int) (es : List En) : (cutE S es).length = es.length := by unfold cutE; rw [List.length_mapIdx]
theorem cutE_get (S : List Int) (es : List En) (i : Nat) : (cutE S es)[i]? = (es[i]?).map fun e => if (i : Int) ∈ S then none else e.map fun p => (p.1, p.2.filter fun k => decide (k ∉ S)) := by
  unfold cutE; rw [List.getElem?_mapIdx]
theorem cutE_congr {S T : List Int} (h : ∀ z, z ∈ S ↔ z ∈ T) (es : List En) : cutE S es = cutE T es := by
  apply List.ext_getElem?
  intro i
  rw [cutE_get, cutE_get]
  simp only [h]
theorem cutE_nil (es : List En) : cutE [] es = es := by
  apply List.ext_getElem?
  intro i
  rw [cutE_get]
  cases es[i]? with
  | none => rfl
  | some e =>
    cases e with
    | none => simp
    | some p => obtain ⟨t, ks⟩ := p; simp
theorem has_cut {S : List Int} {es : List En} {i : Nat} {t vs} : Has (cutE S es) i t vs ↔ (i : Int) ∉ S ∧ ∃ ks, Has es i t ks ∧ vs = ks.filter fun k => decide (k ∉ S) := by
  unfold Has
  rw [cutE_get]
  cases es[i]? with
  | none => simp
  | some e =>
    cases e with
    | none => simp
    | some p =>
      obtain ⟨u, us⟩ := p
      by_cases q : (i : Int) ∈ S
      · simp [q]
      · simp only [Option.map_some, if_neg q, Option.some.injEq, Prod.mk.injEq]
        constructor
        · rintro ⟨a, b⟩; exact ⟨q, us, ⟨a, rfl⟩, b.symm⟩
        · rintro ⟨_, ks, ⟨a, b⟩, c⟩; subst a b; exact ⟨rfl, c.symm⟩
/-- A whole part of the forest goes. -/
theorem CWF.cut {es : List En} (w : CWF es) {S : List Int} (cl : ∀ i t ks, Has es i t ks → (i : Int) ∈ S → ∀ k ∈ ks, k ∈ S) : CWF (cutE S es) := by
  refine ⟨by rw [cutE_len]; exact w.len, fun i t vs h => ?_, fun i t vs h k hk => ?_, fun j u us h => ?_, ?_, fun i j t ks v vs a b e => ?_, fun i j t ks v vs a b e e' e'' => ?_, fun i t ks h => ?_⟩
  · obtain ⟨_, ks, h', rfl⟩ := has_cut.1 h
    exact List.Nodup.sublist List.filter_sublist (w.nd _ _ _ h')
  · obtain ⟨_, ks, h', rfl⟩ := has_cut.1 h
    obtain ⟨hk, hS⟩ := List.mem_filter.1 hk
    obtain ⟨j, u, us, rfl, hj, e⟩ := w.down _ _ _ h' _ hk
    exact ⟨j, u, _, rfl, has_cut.2 ⟨by simpa using hS, us, hj, rfl⟩, e⟩
  · obtain ⟨hS, ks, h', rfl⟩ := has_cut.1 h
    rcases w.up _ _ _ h' with q | ⟨i, t, vs, q, hi, m, z⟩
    · exact .inl q
    · refine .inr ⟨i, t, _, q, has_cut.2 ⟨fun hi' => hS (cl _ _ _ hi hi' _ m), vs, hi, rfl⟩, List.mem_filter.2 ⟨m, by simpa using hS⟩, z⟩
  · obtain ⟨wt, B, hw⟩ := w.rank
    refine ⟨wt, B, fun j u us h => ?_⟩
    obtain ⟨_, ks, h', rfl⟩ := has_cut.1 h
    exact hw _ _ _ h'
  · obtain ⟨_, _, a', rfl⟩ := has_cut.1 a
    obtain ⟨_, _, b', rfl⟩ := has_cut.1 b
    exact w.cap _ _ _ _ _ _ a' b' e
  · obtain ⟨_, _, a', rfl⟩ := has_cut.1 a
    obtain ⟨_, _, b', rfl⟩ := has_cut.1 b
    exact w.one _ _ _ _ _ _ a' b' e e' e''
  · obtain ⟨_, _, h', rfl⟩ := has_cut.1 h
    exact w.right _ _ _ h'
/-- One more node goes: a leaf by now. -/
structure CutStep (es : List En) (S : List Int) (m : Nat) (t : S_api_Token) : Prop where
  leaf : Has (cutE S es) m t []
  nds : nds (cutE (S ++ [(m : Int)]) es) = cutN (nds (cutE S es)) m
  use : (cutE (S ++ [(m : Int)]) es).map Option.isSome = ((cutE S es).map Option.isSome).set m false
  caps : (capsG 0 (cutE S es)).Perm ((t.Cap, (m : Int)) :: capsG 0 (cutE (S ++ [(m : Int)]) es))
  par : 0 ≤ t.Parent → t.Parent.toNat ≠ m ∧ ∃ dq, (Go.Proofs.Ytiajjcboddaenaa.K.nds (cutE S es))[t.Parent.toNat]? = some dq ∧ (m : Int) ∈ dq.kids ∧ dq.kids.length ≤ 256
theorem CWF.kids_le {es : List En} (w : CWF es) {i t ks} (h : Has es i t ks) : ks.length ≤ es.length := by
  refine nodup_le _ _ (w.nd _ _ _ h) fun z hz => ?_
  obtain ⟨j, u, us, rfl, hj, _⟩ := w.down _ _ _ h _ hz
  exact ⟨j, hj.lt, rfl⟩
theorem CWF.cutStep {es : List En} (w : CWF es) {S : List Int} {m : Nat} {t ks} (hm : Has es m t ks) (hS : (m : Int) ∉ S) (hk : ∀ k ∈ ks, k ∈ S) (hp : ∀ q : Nat, t.Parent = q → (q : Int) ∉ S) : CutStep es S m t := by
  have leaf : Has (cutE S es) m t [] := has_cut.2 ⟨hS, ks, hm, by rw [List.filter_eq_nil_iff.2]; intro a ha; simpa using hk a ha⟩
  have hmS : (m : Int) ∈ S ++ [(m : Int)] := by simp
  have memS : ∀ z : Int, z ∈ S ++ [(m : Int)] ↔ z ∈ S ∨ z = m := fun z => by rw [List.mem_append, List.mem_singleton]
  -- who holds the node among the children
  have own : ∀ {i u us}, Has es i u us → (m : Int) ∈ us → t.Parent = i := fun {i u us} h hmem => by
    obtain ⟨j, v, vs, e, hj, p⟩ := w.down _ _ _ h _ hmem
    obtain rfl : m = j := by omega
    obtain ⟨rfl, _⟩ := hm.uniq hj
    exact p
  have same : ∀ {i : Nat} {u us}, Has es i u us → t.Parent ≠ i → (us.filter fun k => decide (k ∉ S ++ [(m : Int)])) = us.filter fun k => decide (k ∉ S) := fun {i u us} h hne => by
    refine List.filter_congr fun k hkm => ?_
    rw [decide_eq_decide, memS]
    constructor
    · exact fun a b => a (.inl b)
    · rintro a (b | b)
      · exact a b
      · subst b; exact hne (own h hkm)
  have get2 : ∀ i : Nat, (nds (cutE (S ++ [(m : Int)]) es))[i]? = (es[i]?).map fun e => ndOf (if (i : Int) ∈ S ++ [(m : Int)] then none else e.map fun p => (p.1, p.2.filter fun k => decide (k ∉ S ++ [(m : Int)]))) := fun i => by
    unfold nds; rw [List.getElem?_map, cutE_get, Option.map_map]; rfl
  have get1 : ∀ i : Nat, (nds (cutE S es))[i]? = (es[i]?).map fun e => ndOf (if (i : Int) ∈ S then none else e.map fun p => (p.1, p.2.filter fun k => decide (k ∉ S))) := fun i => by
    unfold nds; rw [List.getElem?_map, cutE_get, Option.map_map]; rfl
  have hlm := hm.lt
  have hl1 : m < (nds (cutE S es)).length := by rw [nds_len, cutE_len]; exact hlm
  -- the node itself, and those with nothing to do with it
  have at_m : (nds (cutE (S ++ [(m : Int)]) es))[m]? = some nd0 := by
    rw [get2, hm, Option.map_some, if_pos hmS]; rfl
  have other : ∀ i : Nat, i ≠ m → t.Parent ≠ i → (nds (cutE (S ++ [(m : Int)]) es))[i]? = (nds (cutE S es))[i]? := fun i h1 h2 => by
    rw [get1, get2]
    cases e : es[i]? with
    | none => rfl
    | some o =>
      rw [Option.map_some, Option.map_some]
      have hi : ((i : Int) ∈ S ++ [(m : Int)]) ↔ (i : Int) ∈ S := by
        rw [memS]
        constructor
        · rintro (a | a)
          · exact a
          · exact absurd (by omega) h1
        · exact .inl
      simp only [hi]
      cases o with
      | none => rfl
      | some p =>
        obtain ⟨u, us⟩ := p
        simp only [Option.map_some]
        rw [same e h2]
  refine ⟨leaf, ?_, ?_, ?_, fun h0 => ?_⟩
  · unfold cutN
    rw [nds_get leaf]
    simp only
    split
    · rename_i hneg
      apply List.ext_getElem?
      intro i
      rw [List.getElem?_set]
      by_cases e : m = i
      · subst e; rw [if_pos rfl, if_pos hl1, at_m]
      · rw [if_neg e]; exact other i (fun q => e q.symm) (by omega)
    · rename_i hpos
      rcases w.up _ _ _ hm with z | ⟨q, u, us, z, hq, hmem, _⟩
      · omega
      · have hqS := hp q z
        have h1 : Has (cutE S es) q u _ := has_cut.2 ⟨hqS, us, hq, rfl⟩
        have hqm : q ≠ m := fun e => by
          obtain ⟨wt, B, hw⟩ := w.rank
          have := (hw _ _ _ hm).2 q z
          rw [e] at this; omega
        rw [show t.Parent.toNat = q by omega, nds_get h1]
        simp only
        have hl2 : q < (nds (cutE S es)).length := by rw [nds_len, cutE_len]; exact hq.lt
        apply List.ext_getElem?
        intro i
        rw [List.getElem?_set, List.getElem?_set, List.length_set]
        by_cases e : m = i
        · subst e; rw [if_pos rfl, if_pos hl1, at_m]
        · rw [if_neg e]
          by_cases e2 : q = i
          · subst e2
            rw [if_pos rfl, if_pos hl2, get2, hq, Option.map_some]
            rw [if_neg (fun a => ((memS _).1 a).elim hqS fun b => hqm (by omega))]
            show some (Nd.mk true u.Parent _) = some (Nd.mk true u.Parent _)
            have nd := w.nd _ _ _ hq
            rw [List.Nodup.erase_eq_filter (List.Nodup.sublist List.filter_sublist nd), List.filter_filter]
            congr 2
            refine List.filter_congr fun k hkm => ?_
            rw [Bool.eq_iff_iff, decide_eq_true_eq, Bool.and_eq_true, decide_eq_true_eq, memS, bne_iff_ne]
            constructor
            · exact fun a => ⟨fun b => a (.inr b), fun b => a (.inl b)⟩
            · rintro ⟨a, b⟩ (c | c)
              · exact b c
              · exact a c
          · rw [if_neg e2]; exact other i (fun q => e q.symm) (by omega)
  · apply List.ext_getElem?
    intro i
    rw [List.getElem?_set, List.getElem?_map, List.getElem?_map, cutE_get, cutE_get, List.length_map, cutE_len]
    by_cases e : m = i
    · subst e; rw [if_pos rfl, if_pos hlm, hm]; simp
    · rw [if_neg e]
      have hi : ((i : Int) ∈ S ++ [(m : Int)]) ↔ (i : Int) ∈ S := by
        rw [memS]
        constructor
        · rintro (a | a)
          · exact a
          · exact absurd (by omega) e
        · exact .inl
      simp only [hi]
      cases es[i]? with
      | none => rfl
      | some o =>
        simp only [Option.map_some]
        split
        · rfl
        · cases o <;> rfl
  · have := capsG_kill (k := 0) leaf
    rw [Nat.zero_add] at this
    have e : capsG 0 ((cutE S es).set m none) = capsG 0 (cutE (S ++ [(m : Int)]) es) := by
      refine capsG_congr ?_
      apply List.ext_getElem?
      intro i
      rw [List.getElem?_map, List.getElem?_map, List.getElem?_set, cutE_get, cutE_get, cutE_len]
      by_cases e : m = i
      · subst e; rw [if_pos rfl, if_pos hlm, hm]; simp
      · rw [if_neg e]
        have hi : ((i : Int) ∈ S ++ [(m : Int)]) ↔ (i : Int) ∈ S := by
          rw [memS]
          constructor
          · rintro (a | a)
            · exact a
            · exact absurd (by omega) e
          · exact .inl
        simp only [hi]
        cases es[i]? with
        | none => rfl
        | some o =>
          simp only [Option.map_some]
          split
          · rfl
          · cases o <;> rfl
    rw [e] at this
    exact this
  · rcases w.up _ _ _ hm with z | ⟨q, u, us, z, hq, hmem, _⟩
    · omega
    · have hqS := hp q z
      have h1 : Has (cutE S es) q u _ := has_cut.2 ⟨hqS, us, hq, rfl⟩
      refine ⟨fun e => ?_, ⟨true, u.Parent, us.filter fun k => decide (k ∉ S)⟩, by rw [show t.Parent.toNat = q by omega]; exact nds_get h1, List.mem_filter.2 ⟨hmem, by simpa using hS⟩, ?_⟩
      · obtain ⟨wt, B, hw⟩ := w.rank
        have := (hw _ _ _ hm).2 q z
        have : q = m := by omega
        subst this; omega
      · have h2 := w.kids_le hq
        have h3 : (us.filter fun k => decide (k ∉ S)).length ≤ us.length := List.length_filter_le _ _
        have := w.len
        show (us.filter fun k => decide (k ∉ S)).length ≤ 256
        omega
end Go.Proofs.Ytiajjcboddaenaa.K
