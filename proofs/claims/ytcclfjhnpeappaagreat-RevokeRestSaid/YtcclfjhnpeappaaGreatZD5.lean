/- revokeRest: true at every input, the arguments as they were: no condition. Part 5 of 7. -/
import Derived.Test.YtcclfjhnpeappaaGreatZD4
namespace Go.Proofs.YtcclfjhnpeappaaGreat.K
open Go
abbrev En := Option (S_api_Token × List Int)
def ndOf : En → Nd
  | none => nd0
  | some (t, ks) => ⟨true, t.Parent, ks⟩
def nds (es : List En) : List Nd := es.map ndOf
abbrev Has (es : List En) (i : Nat) (t : S_api_Token) (ks : List Int) : Prop := es[i]? = some (some (t, ks))
structure CWF (es : List En) : Prop where
  len : 1 ≤ es.length ∧ es.length ≤ 256
  nd : ∀ i t ks, Has es i t ks → ks.Nodup
  down : ∀ i t ks, Has es i t ks → ∀ k ∈ ks, ∃ (j : Nat) (u : S_api_Token) (us : List Int), k = j ∧ Has es j u us ∧ u.Parent = i
  up : ∀ j u us, Has es j u us → u.Parent = -1 ∨ ∃ (i : Nat) (t : S_api_Token) (ks : List Int), u.Parent = i ∧ Has es i t ks ∧ (j : Int) ∈ ks ∧ t.Cap.Obj = u.Cap.Obj ∧ partOf u.Rights t.Rights = true
  rank : ∃ (w : Nat → Nat) (B : Nat), ∀ j u us, Has es j u us → w j ≤ B ∧ ∀ i : Nat, u.Parent = i → w i < w j
  cap : ∀ i j t ks u us, Has es i t ks → Has es j u us → t.Cap = u.Cap → i = j
  one : ∀ i j t ks u us, Has es i t ks → Has es j u us → t.Parent = -1 → u.Parent = -1 → t.Cap.Obj = u.Cap.Obj → i = j
  right : ∀ i t ks, Has es i t ks → 1 ≤ t.Rights ∧ t.Rights ≤ 31
theorem Has.lt {es : List En} {i : Nat} {t ks} (x : Has es i t ks) : i < es.length := lt_of_get x
theorem Has.uniq {es : List En} {i : Nat} {t ks u us} (x : Has es i t ks) (y : Has es i u us) : t = u ∧ ks = us := by
  have := x.symm.trans y
  simpa using this
theorem nds_get {es : List En} {i : Nat} {t ks} (x : Has es i t ks) : (nds es)[i]? = some ⟨true, t.Parent, ks⟩ := by
  unfold nds
  rw [List.getElem?_map, x]; rfl
theorem nds_len (es : List En) : (nds es).length = es.length := List.length_map ..
theorem hasN_nds {es : List En} {z : Int} : hasN (nds es) z = true ↔ ∃ (i : Nat) (t : S_api_Token) (ks : List Int), z = i ∧ Has es i t ks := by
  constructor
  · intro x
    obtain ⟨i, d, rfl, hd, ht, _⟩ := hasN_nat x
    unfold nds at hd
    rw [List.getElem?_map] at hd
    cases e : es[i]? with
    | none => rw [e] at hd; cases hd
    | some o =>
      cases o with
      | none => rw [e] at hd; cases hd; cases ht
      | some p => obtain ⟨t, ks⟩ := p; exact ⟨i, t, ks, rfl, e⟩
  · rintro ⟨i, t, ks, rfl, x⟩
    exact hasN_iff.2 ⟨_, nds_get x, rfl⟩
theorem chN_nds {es : List En} {i : Nat} {t ks} (x : Has es i t ks) : chN (nds es) (i : Int) = ks := by
  rw [chN_nat, nds_get x]; rfl
theorem chN_mem {es : List En} {z k : Int} (x : k ∈ chN (nds es) z) : ∃ (i : Nat) (t : S_api_Token) (ks : List Int), z = i ∧ Has es i t ks ∧ k ∈ ks := by
  by_cases h0 : 0 ≤ z
  · obtain ⟨i, rfl⟩ : ∃ i : Nat, z = i := ⟨z.toNat, by omega⟩
    rw [chN_nat] at x
    unfold nds at x
    rw [List.getElem?_map] at x
    cases e : es[i]? with
    | none => rw [e] at x; cases x
    | some o =>
      cases o with
      | none => rw [e] at x; cases x
      | some p => obtain ⟨t, ks⟩ := p; rw [e] at x; exact ⟨i, t, ks, rfl, e, x⟩
  · unfold chN at x
    rw [if_neg h0] at x; cases x
theorem CWF.forest {es : List En} (w : CWF es) : Forest (chN (nds es)) := by
  refine ⟨fun x y z hx hy => ?_, fun x => ?_, ?_⟩
  · obtain ⟨i, t, ks, rfl, h1, m1⟩ := chN_mem hx
    obtain ⟨j, u, us, rfl, h2, m2⟩ := chN_mem hy
    obtain ⟨a, v, vs, rfl, h3, p3⟩ := w.down i t ks h1 z m1
    obtain ⟨b, v', vs', e, h4, p4⟩ := w.down j u us h2 _ m2
    obtain rfl : a = b := by omega
    obtain ⟨rfl, rfl⟩ := h3.uniq h4
    omega
  · by_cases h : ∃ k, k ∈ chN (nds es) x
    · obtain ⟨k, hk⟩ := h
      obtain ⟨i, t, ks, rfl, h1, m1⟩ := chN_mem hk
      rw [chN_nds h1]; exact w.nd i t ks h1
    · rw [List.eq_nil_iff_forall_not_mem.2 fun a ha => h ⟨a, ha⟩]; exact List.nodup_nil
  · obtain ⟨r, B, hr⟩ := w.rank
    refine ⟨fun z => r z.toNat, B, fun x y hy => ?_⟩
    obtain ⟨i, t, ks, rfl, h1, m1⟩ := chN_mem hy
    obtain ⟨j, u, us, rfl, h2, p2⟩ := w.down i t ks h1 y m1
    obtain ⟨a, b⟩ := hr j u us h2
    have := b i p2
    dsimp only
    rw [Int.toNat_natCast, Int.toNat_natCast]
    omega
theorem CWF.below {es : List En} (w : CWF es) {x z : Int} (hx : hasN (nds es) x = true) (d : Desc (chN (nds es)) x z) : hasN (nds es) z = true := by
  cases d with
  | refl => exact hx
  | snoc d hz =>
    obtain ⟨i, t, ks, rfl, h1, m1⟩ := chN_mem hz
    obtain ⟨j, u, us, rfl, h2, _⟩ := w.down i t ks h1 z m1
    exact hasN_nds.2 ⟨j, u, us, rfl, h2⟩
theorem nodup_le : ∀ (n : Nat) (l : List Int), l.Nodup → (∀ z ∈ l, ∃ i : Nat, i < n ∧ z = i) → l.length ≤ n := by
  intro n
  induction n with
  | zero =>
    intro l _ h
    cases l with
    | nil => exact Nat.le_refl _
    | cons a r => obtain ⟨i, hi, _⟩ := h a (List.mem_cons_self ..); omega
  | succ n ih =>
    intro l hn h
    have := ih (l.erase (n : Int)) (hn.erase _) fun z hz => by
      obtain ⟨q1, q2⟩ := (List.Nodup.mem_erase_iff hn).1 hz
      obtain ⟨i, hi, rfl⟩ := h z q2
      exact ⟨i, by omega, rfl⟩
    rw [List.length_erase] at this
    split at this <;> omega
structure Below (es : List En) (n : Nat) (l : List Int) : Prop where
  pre : PreL (chN (nds es)) [(n : Int)] l
  live : LiveL (nds es) l
  nd : l.Nodup
  len : l.length ≤ es.length
theorem CWF.belowL {es : List En} (w : CWF es) {n : Nat} {t ks} (hn : Has es n t ks) {ch : Int → List Int} (hch : ∀ z k, k ∈ ch z ↔ k ∈ chN (nds es) z) (fo : Forest ch) {l : List Int} (hl : PreL ch [(n : Int)] l) : LiveL (nds es) l ∧ l.Nodup ∧ l.length ≤ es.length := by
  have live : LiveL (nds es) l := fun z hz => by
    obtain ⟨r, hr, d⟩ := hl.mem.1 hz
    obtain rfl := List.mem_singleton.1 hr
    have conv : ∀ {a b}, Desc ch a b → Desc (chN (nds es)) a b := fun d => by
      induction d with
      | refl => exact .refl
      | snoc _ h ih => exact .snoc ih ((hch _ _).1 h)
    exact w.below (hasN_nds.2 ⟨n, t, ks, rfl, hn⟩) (conv d)
  have nd := hl.nodup1 fo
  refine ⟨live, nd, nodup_le _ _ nd fun z hz => ?_⟩
  obtain ⟨i, u, us, rfl, h⟩ := hasN_nds.1 (live z hz)
  exact ⟨i, h.lt, rfl⟩
theorem CWF.ex {es : List En} (w : CWF es) {n : Nat} {t ks} (hn : Has es n t ks) : ∃ l, Below es n l := by
  obtain ⟨l, hl⟩ := PreL.ex w.forest [(n : Int)]
  obtain ⟨a, b, c⟩ := w.belowL hn (fun _ _ => Iff.rfl) w.forest hl
  exact ⟨l, hl, a, b, c⟩
def capsG : Nat → List En → List (S_api_Cap × Int)
  | _, [] => []
  | k, none :: r => capsG (k + 1) r
  | k, some (t, _) :: r => (t.Cap, (k : Int)) :: capsG (k + 1) r
theorem capsG_mem {c : S_api_Cap} {v : Int} : ∀ {es : List En} {k : Nat}, (c, v) ∈ capsG k es ↔ ∃ (i : Nat) (t : S_api_Token) (ks : List Int), Has es i t ks ∧ t.Cap = c ∧ v = ((k + i : Nat) : Int) := by
  intro es
  induction es with
  | nil =>
    intro k
    constructor
    · intro h; cases h
    · rintro ⟨i, t, ks, h, _⟩; cases h
  | cons e r ih =>
    intro k
    cases e with
    | none =>
      rw [capsG, ih]
      constructor
      · rintro ⟨i, t, ks, a, b, c⟩; exact ⟨i + 1, t, ks, a, b, by omega⟩
      · rintro ⟨i, t, ks, a, b, c⟩
        cases i with
        | zero => cases a
        | succ i => exact ⟨i, t, ks, a, b, by omega⟩
    | some p =>
      obtain ⟨u, us⟩ := p
      rw [capsG, List.mem_cons, ih]
      constructor
      · rintro (a | ⟨i, t, ks, a, b, c⟩)
        · cases a; exact ⟨0, u, us, rfl, rfl, by simp⟩
        · exact ⟨i + 1, t, ks, a, b, by omega⟩
      · rintro ⟨i, t, ks, a, b, c⟩
        cases i with
        | zero =>
          have a : some (some (u, us)) = some (some (t, ks)) := a
          cases a; left; rw [b, c]; simp
        | succ i => exact .inr ⟨i, t, ks, a, b, by omega⟩
theorem capsG_new {t : S_api_Token} {ks : List Int} : ∀ {es : List En} {i k : Nat}, es[i]? = some none → (capsG k (es.set i (some (t, ks)))).Perm ((t.Cap, ((k + i : Nat) : Int)) :: capsG k es) := by
  intro es
  induction es with
  | nil => intro i k h; cases h
  | cons e r ih =>
    intro i k h
    cases i with
    | zero => cases h; exact .refl _
    | succ i =>
      have h : r[i]? = some none := h
      have := ih (k := k + 1) h
      rw [List.set_cons_succ]
      rw [show k + 1 + i = k + (i + 1) by omega] at this
      cases e with
      | none => exact this
      | some p =>
        obtain ⟨u, us⟩ := p
        exact (this.cons _).trans (.swap ..)
theorem capsG_kill {t : S_api_Token} {ks : List Int} : ∀ {es : List En} {i k : Nat}, Has es i t ks → (capsG k es).Perm ((t.Cap, ((k + i : Nat) : Int)) :: capsG k (es.set i none)) := by
  intro es
  induction es with
  | nil => intro i k h; cases h
  | cons e r ih =>
    intro i k h
    cases i with
    | zero => cases h; exact .refl _
    | succ i =>
      have h : Has r i t ks := h
      have := ih (k := k + 1) h
      rw [List.set_cons_succ]
      rw [show k + 1 + i = k + (i + 1) by omega] at this
      cases e with
      | none => exact this
      | some p =>
        obtain ⟨u, us⟩ := p
        exact (this.cons _).trans (.swap ..)
theorem capsG_congr : ∀ {es es' : List En} {k : Nat}, es.map (Option.map Prod.fst) = es'.map (Option.map Prod.fst) → capsG k es = capsG k es' := by
  intro es
  induction es with
  | nil =>
    intro es' k h
    cases es' with
    | nil => rfl
    | cons a r => cases h
  | cons e r ih =>
    intro es' k h
    cases es' with
    | nil => cases h
    | cons e' r' =>
      rw [List.map_cons, List.map_cons, List.cons.injEq] at h
      have := ih (k := k + 1) h.2
      cases e with
      | none =>
        cases e' with
        | none => exact this
        | some p => cases h.1
      | some p =>
        cases e' with
        | none => cases h.1
        | some p' =>
          obtain ⟨u, us⟩ := p; obtain ⟨u', us'⟩ := p'
          have h1 : some u = some u' := h.1
          cases h1
          rw [capsG, capsG, this]
def cnt (es : List En) (o : Int) : Nat := (capsG 0 es).countP fun p => decide (p.1.Obj = o)
theorem cnt_le (es : List En) (o : Int) : cnt es o ≤ es.length := by
  have h : ∀ (es : List En) (k : Nat), (capsG k es).length ≤ es.length := by
    intro es
    induction es with
    | nil => exact fun _ => Nat.le_refl _
    | cons e r ih =>
      intro k
      have := ih (k + 1)
      cases e with
      | none => rw [capsG]; simp only [List.length_cons]; omega
      | some p => obtain ⟨u, us⟩ := p; rw [capsG]; simp only [List.length_cons]; omega
  exact Nat.le_trans List.countP_le_length (h es 0)
theorem cnt_pos {es : List En} {o : Int} : 0 < cnt es o ↔ ∃ (i : Nat) (t : S_api_Token) (ks : List Int), Has es i t ks ∧ t.Cap.Obj = o := by
  unfold cnt
  rw [List.countP_pos_iff]
  constructor
  · rintro ⟨⟨c, v⟩, hm, e⟩
    obtain ⟨i, t, ks, a, b, _⟩ := capsG_mem.1 hm
    exact ⟨i, t, ks, a, by rw [b]; simpa using e⟩
  · rintro ⟨i, t, ks, a, b⟩
    exact ⟨(t.Cap, ((0 + i : Nat) : Int)), capsG_mem.2 ⟨i, t, ks, a, rfl, rfl⟩, by simpa using b⟩
theorem CWF.empty {n : Nat} (h1 : 1 ≤ n) (h2 : n ≤ 256) : CWF (List.replicate n none) := by
  have no : ∀ {i t ks}, ¬ Has (List.replicate n none) i t ks := fun h => by
    have := List.eq_of_mem_replicate (List.mem_of_getElem? h)
    cases this
  exact ⟨by rw [List.length_replicate]; exact ⟨h1, h2⟩, fun _ _ _ h => (no h).elim, fun _ _ _ h => (no h).elim, fun _ _ _ h => (no h).elim, ⟨fun _ => 0, 0, fun _ _ _ h => (no h).elim⟩, fun _ _ _ _ _ _ h => (no h).elim, fun _ _ _ _ _ _ h => (no h).elim, fun _ _ _ h => (no h).elim⟩
def rootE (es : List En) (n : Nat) (t : S_api_Token) : List En := es.set n (some (t, []))
def childE (es : List En) (q n : Nat) (t : S_api_Token) : List En := match es[q]? with
  | some (some (u, us)) => (es.set n (some (t, []))).set q (some (u, us ++ [(n : Int)]))
  | _ => es
theorem CWF.parent {es : List En} (w : CWF es) {n : Nat} (hn : es[n]? = some none) {j u us} (h : Has es j u us) : u.Parent ≠ n := fun e => by
  rcases w.up j u us h with q | ⟨i, t, ks, q, hi, _⟩
  · omega
  · obtain rfl : i = n := by omega
    unfold Has at hi; rw [hn] at hi; cases hi
theorem CWF.kid {es : List En} (w : CWF es) {n : Nat} (hn : es[n]? = some none) {j u us} (h : Has es j u us) : (n : Int) ∉ us := fun e => by
  obtain ⟨i, t, ks, q, hi, _⟩ := w.down j u us h _ e
  obtain rfl : n = i := by omega
  unfold Has at hi; rw [hn] at hi; cases hi
theorem has_set {es : List En} {n : Nat} (hn : n < es.length) {e : En} {i : Nat} {t ks} : Has (es.set n e) i t ks ↔ (i = n ∧ e = some (t, ks)) ∨ (i ≠ n ∧ Has es i t ks) := by
  unfold Has
  rw [List.getElem?_set]
  by_cases q : n = i
  · subst q
    rw [if_pos rfl, if_pos hn]
    constructor
    · intro h; cases h; exact .inl ⟨rfl, rfl⟩
    · rintro (⟨_, h⟩ | ⟨h, _⟩)
      · rw [h]
      · exact absurd rfl h
  · rw [if_neg q]
    constructor
    · intro h; exact .inr ⟨fun z => q z.symm, h⟩
    · rintro (⟨h, _⟩ | ⟨_, h⟩)
      · exact absurd h.symm q
      · exact h
theorem CWF.root {es : List En} (w : CWF es) {n : Nat} (hn : es[n]? = some none) {c : S_api_Cap} {r : Int} (hr : 1 ≤ r ∧ r ≤ 31) (h0 : cnt es c.Obj = 0) : CWF (rootE es n ⟨c, r, -1⟩) := by
  have hlt := lt_of_get hn
  have no : ∀ {i t ks}, Has es i t ks → t.Cap.Obj ≠ c.Obj := fun h e => by
    have := cnt_pos.2 ⟨_, _, _, h, e⟩
    omega
  have neN : ∀ {i t ks}, Has es i t ks → i ≠ n := fun h e => by subst e; unfold Has at h; rw [hn] at h; cases h
  refine ⟨by unfold rootE; rw [List.length_set]; exact w.len, fun i t ks h => ?_, fun i t ks h k hk => ?_, fun j u us h => ?_, ?_, fun i j t ks u us a b e => ?_, fun i j t ks u us a b e e' e'' => ?_, fun i t ks h => ?_⟩
  · rcases (has_set hlt).1 h with ⟨rfl, q⟩ | ⟨_, h⟩
    · cases q; exact List.nodup_nil
    · exact w.nd i t ks h
  · rcases (has_set hlt).1 h with ⟨rfl, q⟩ | ⟨_, h⟩
    · cases q; cases hk
    · obtain ⟨j, u, us, a, b, c⟩ := w.down i t ks h k hk
      exact ⟨j, u, us, a, (has_set hlt).2 (.inr ⟨neN b, b⟩), c⟩
  · rcases (has_set hlt).1 h with ⟨rfl, q⟩ | ⟨_, h⟩
    · cases q; exact .inl rfl
    · rcases w.up j u us h with q | ⟨i, t, ks, q, hi, z⟩
      · exact .inl q
      · exact .inr ⟨i, t, ks, q, (has_set hlt).2 (.inr ⟨neN hi, hi⟩), z⟩
  · obtain ⟨wt, B, hw⟩ := w.rank
    refine ⟨fun i => if i = n then 0 else wt i, B, fun j u us h => ?_⟩
    rcases (has_set hlt).1 h with ⟨rfl, q⟩ | ⟨hne, h⟩
    · cases q
      exact ⟨by dsimp only; rw [if_pos rfl]; omega, fun i e => by have e : (-1 : Int) = i := e; omega⟩
    · obtain ⟨a, b⟩ := hw j u us h
      refine ⟨by dsimp only; rw [if_neg hne]; exact a, fun i e => ?_⟩
      dsimp only
      rw [if_neg (fun q : i = n => w.parent hn h (q ▸ e)), if_neg hne]
      exact b i e
  · rcases (has_set hlt).1 a with ⟨rfl, q⟩ | ⟨_, a'⟩
    · cases q
      rcases (has_set hlt).1 b with ⟨rfl, _⟩ | ⟨_, b'⟩
      · rfl
      · exact absurd (by rw [← e]) (no b')
    · rcases (has_set hlt).1 b with ⟨rfl, q⟩ | ⟨_, b'⟩
      · cases q; exact absurd (by rw [e]) (no a')
      · exact w.cap i j t ks u us a' b' e
  · rcases (has_set hlt).1 a with ⟨rfl, q⟩ | ⟨_, a'⟩
    · cases q
      rcases (has_set hlt).1 b with ⟨rfl, _⟩ | ⟨_, b'⟩
      · rfl
      · exact absurd e''.symm (no b')
    · rcases (has_set hlt).1 b with ⟨rfl, q⟩ | ⟨_, b'⟩
      · cases q; exact absurd e'' (no a')
      · exact w.one i j t ks u us a' b' e e' e''
  · rcases (has_set hlt).1 h with ⟨rfl, q⟩ | ⟨_, h⟩
    · cases q; exact hr
    · exact w.right i t ks h
theorem nds_root {es : List En} {n : Nat} {c : S_api_Cap} {r : Int} : nds (rootE es n ⟨c, r, -1⟩) = rootN (nds es) n := by
  unfold nds rootE rootN
  rw [List.map_set]; rfl
theorem has_child {es : List En} {q n : Nat} {t : S_api_Token} {u us} (hq : Has es q u us) (hn : es[n]? = some none) {i : Nat} {v vs} : Has (childE es q n t) i v vs ↔ (i = n ∧ v = t ∧ vs = []) ∨ (i = q ∧ v = u ∧ vs = us ++ [(n : Int)]) ∨ (i ≠ n ∧ i ≠ q ∧ Has es i v vs) := by
  have hlt := lt_of_get hn
  have hne : n ≠ q := fun e => by subst e; unfold Has at hq; rw [hn] at hq; cases hq
  have e0 : childE es q n t = (es.set n (some (t, []))).set q (some (u, us ++ [(n : Int)])) := by unfold childE; rw [hq]
  rw [e0, has_set (by rw [List.length_set]; exact hq.lt), has_set hlt]
  constructor
  · rintro (⟨a, b⟩ | ⟨a, ⟨b, c⟩ | ⟨b, c⟩⟩)
    · cases b; exact .inr (.inl ⟨a, rfl, rfl⟩)
    · cases c; exact .inl ⟨b, rfl, rfl⟩
    · exact .inr (.inr ⟨b, a, c⟩)
  · rintro (⟨a, b, c⟩ | ⟨a, b, c⟩ | ⟨a, b, c⟩)
    · subst a b c; exact .inr ⟨hne, .inl ⟨rfl, rfl⟩⟩
    · subst a b c; exact .inl ⟨rfl, rfl⟩
    · exact .inr ⟨b, .inr ⟨a, c⟩⟩
theorem CWF.child {es : List En} (w : CWF es) {q n : Nat} {u us} (hq : Has es q u us) (hn : es[n]? = some none) {c : S_api_Cap} {r : Int} (ho : u.Cap.Obj = c.Obj) (hp : partOf r u.Rights = true) (hr : 1 ≤ r ∧ r ≤ 31) (h0 : ∀ i t ks, Has es i t ks → t.Cap ≠ c) : CWF (childE es q n ⟨c, r, q⟩) := by
  have H := fun {i v vs} => has_child (t := ⟨c, r, q⟩) (i := i) (v := v) (vs := vs) hq hn
  have neN : ∀ {i t ks}, Has es i t ks → i ≠ n := fun h e => by subst e; unfold Has at h; rw [hn] at h; cases h
  have hqn : q ≠ n := neN hq
  have old : ∀ {i v vs}, Has es i v vs → ∃ vs', Has (childE es q n ⟨c, r, q⟩) i v vs' ∧ (∀ k ∈ vs, k ∈ vs') := fun {i v vs} h => by
    by_cases e : i = q
    · subst e
      obtain ⟨rfl, rfl⟩ := hq.uniq h
      exact ⟨_, H.2 (.inr (.inl ⟨rfl, rfl, rfl⟩)), fun k hk => List.mem_append_left _ hk⟩
    · exact ⟨vs, H.2 (.inr (.inr ⟨neN h, e, h⟩)), fun k hk => hk⟩
  have back : ∀ {i v vs}, Has (childE es q n ⟨c, r, q⟩) i v vs → i ≠ n → ∃ vs', Has es i v vs' := fun {i v vs} h e => by
    rcases H.1 h with ⟨a, _⟩ | ⟨rfl, rfl, _⟩ | ⟨_, _, h⟩
    · exact absurd a e
    · exact ⟨_, hq⟩
    · exact ⟨_, h⟩
  have newc : ∀ {i v vs}, Has (childE es q n ⟨c, r, q⟩) i v vs → i = n → v = ⟨c, r, q⟩ := fun {i v vs} h e => by
    rcases H.1 h with ⟨_, a, _⟩ | ⟨a, _, _⟩ | ⟨a, _, _⟩
    · exact a
    · exact absurd (a.symm.trans e) hqn
    · exact absurd e a
  refine ⟨?_, fun i t ks h => ?_, fun i t ks h k hk => ?_, fun j v vs h => ?_, ?_, fun i j t ks v vs a b e => ?_, fun i j t ks v vs a b e e' e'' => ?_, fun i t ks h => ?_⟩
  · unfold childE; rw [hq]; simp only [List.length_set]; exact w.len
  · rcases H.1 h with ⟨_, _, rfl⟩ | ⟨rfl, rfl, rfl⟩ | ⟨_, _, h⟩
    · exact List.nodup_nil
    · rw [List.nodup_append]
      refine ⟨w.nd _ _ _ hq, by simp, fun a ha b hb e => ?_⟩
      obtain rfl := List.mem_singleton.1 hb
      subst e
      exact w.kid hn hq ha
    · exact w.nd i t ks h
  · have lift : ∀ {k : Int} {i : Nat} {t ks}, Has es i t ks → k ∈ ks → ∃ (j : Nat) (u : S_api_Token) (us : List Int), k = j ∧ Has (childE es q n ⟨c, r, q⟩) j u us ∧ u.Parent = i := fun hi hk => by
      obtain ⟨j, v, vs, a, b, c⟩ := w.down _ _ _ hi _ hk
      obtain ⟨vs', b', _⟩ := old b
      exact ⟨j, v, vs', a, b', c⟩
    rcases H.1 h with ⟨_, _, rfl⟩ | ⟨rfl, rfl, rfl⟩ | ⟨_, _, h⟩
    · cases hk
    · rcases List.mem_append.1 hk with hk | hk
      · exact lift hq hk
      · obtain rfl := List.mem_singleton.1 hk
        exact ⟨n, _, _, rfl, H.2 (.inl ⟨rfl, rfl, rfl⟩), rfl⟩
    · exact lift h hk
  · by_cases e : j = n
    · have := newc h e
      subst this; subst e
      refine .inr ⟨q, u, us ++ [(j : Int)], rfl, H.2 (.inr (.inl ⟨rfl, rfl, rfl⟩)), ?_, ho, hp⟩
      simp
    · obtain ⟨vs', h⟩ := back h e
      rcases w.up j v vs' h with z | ⟨i, t, ks, z, hi, m, z'⟩
      · exact .inl z
      · obtain ⟨ks', hi', sub⟩ := old hi
        exact .inr ⟨i, t, ks', z, hi', sub _ m, z'⟩
  · obtain ⟨wt, B, hw⟩ := w.rank
    refine ⟨fun i => if i = n then wt q + 1 else wt i, B + 1, fun j v vs h => ?_⟩
    by_cases e : j = n
    · have := newc h e
      subst this; subst e
      refine ⟨by dsimp only; rw [if_pos rfl]; have := (hw q u us hq).1; omega, fun i e => ?_⟩
      dsimp only
      have e : (q : Int) = i := e
      obtain rfl : q = i := by omega
      rw [if_neg hqn, if_pos rfl]; omega
    · obtain ⟨vs', h⟩ := back h e
      obtain ⟨a, b⟩ := hw j v vs' h
      refine ⟨by dsimp only; rw [if_neg e]; omega, fun i z => ?_⟩
      dsimp only
      rw [if_neg (fun q : i = n => w.parent hn h (q ▸ z)), if_neg e]
      exact b i z
  · by_cases e1 : i = n
    · by_cases e2 : j = n
      · omega
      · obtain ⟨vs', b⟩ := back b e2
        have := newc a e1
        subst this
        exact absurd e.symm (h0 _ _ _ b)
    · obtain ⟨ks', a⟩ := back a e1
      by_cases e2 : j = n
      · have := newc b e2
        subst this
        exact absurd e (h0 _ _ _ a)
      · obtain ⟨vs', b⟩ := back b e2
        exact w.cap _ _ _ _ _ _ a b e
  · by_cases e1 : i = n
    · have := newc a e1
      subst this
      have e : (q : Int) = -1 := e
      omega
    · obtain ⟨ks', a⟩ := back a e1
      by_cases e2 : j = n
      · have := newc b e2
        subst this
        have e' : (q : Int) = -1 := e'
        omega
      · obtain ⟨vs', b⟩ := back b e2
        exact w.one _ _ _ _ _ _ a b e e' e''
  · by_cases e : i = n
    · have := newc h e
      subst this; exact hr
    · obtain ⟨ks', h⟩ := back h e
      exact w.right _ _ _ h
theorem nds_child {es : List En} {q n : Nat} {t : S_api_Token} (ht : t.Parent = q) {u us} (hq : Has es q u us) : nds (childE es q n t) = childN (nds es) q n := by
  unfold childN
  rw [nds_get hq]
  unfold childE
  rw [hq]
  simp only [nds]
  rw [List.map_set, List.map_set]
  show ((es.map ndOf).set n ⟨true, t.Parent, []⟩).set q ⟨true, u.Parent, us ++ [(n : Int)]⟩ = _
  rw [ht]
def cutE (S : List Int) (es : List En) : List En := es.mapIdx fun i e => if (i : Int) ∈ S then none else e.map fun p => (p.1, p.2.filter fun k => decide (k ∉ S))
theorem cutE_len (S : List Int) (es : List En) : (cutE S es).length = es.length := by unfold cutE; rw [List.length_mapIdx]
theorem cutE_get (S : List Int) (es : List En) (i : Nat) : (cutE S es)[i]? = (es[i]?).map fun e => if (i : Int) ∈ S then none else e.map fun p => (p.1, p.2.filter fun k => decide (k ∉ S)) := by
  unfold cutE; rw [List.getElem?_mapIdx]
theorem cutE_congr {S T : List Int} (h : ∀ z, z ∈ S ↔ z ∈ T) (es : List En) : cutE S es = cutE T es := by
  apply List.ext_getElem?
  intro i
  rw [cutE_get, cutE_get]
  simp only [h]
theorem cutE_nil (es : List En) : cutE [] es = es := by
  apply List.ext_getElem?
  intro i
  rw [cutE_get]
  cases es[i]? with
  | none => rfl
  | some e =>
    cases e with
    | none => simp
    | some p => obtain ⟨t, ks⟩ := p; simp
theorem has_cut {S : List Int} {es : List En} {i : Nat} {t vs} : Has (cutE S es) i t vs ↔ (i : Int) ∉ S ∧ ∃ ks, Has es i t ks ∧ vs = ks.filter fun k => decide (k ∉ S) := by
  unfold Has
  rw [cutE_get]
  cases es[i]? with
  | none => simp
  | some e =>
    cases e with
    | none => simp
    | some p =>
      obtain ⟨u, us⟩ := p
      by_cases q : (i : Int) ∈ S
      · simp [q]
      · simp only [Option.map_some, if_neg q, Option.some.injEq, Prod.mk.injEq]
        constructor
        · rintro ⟨a, b⟩; exact ⟨q, us, ⟨a, rfl⟩, b.symm⟩
        · rintro ⟨_, ks, ⟨a, b⟩, c⟩; subst a b; exact ⟨rfl, c.symm⟩
theorem CWF.cut {es : List En} (w : CWF es) {S : List Int} (cl : ∀ i t ks, Has es i t ks → (i : Int) ∈ S → ∀ k ∈ ks, k ∈ S) : CWF (cutE S es) := by
  refine ⟨by rw [cutE_len]; exact w.len, fun i t vs h => ?_, fun i t vs h k hk => ?_, fun j u us h => ?_, ?_, fun i j t ks v vs a b e => ?_, fun i j t ks v vs a b e e' e'' => ?_, fun i t ks h => ?_⟩
  · obtain ⟨_, ks, h', rfl⟩ := has_cut.1 h
    exact List.Nodup.sublist List.filter_sublist (w.nd _ _ _ h')
  · obtain ⟨_, ks, h', rfl⟩ := has_cut.1 h
    obtain ⟨hk, hS⟩ := List.mem_filter.1 hk
    obtain ⟨j, u, us, rfl, hj, e⟩ := w.down _ _ _ h' _ hk
    exact ⟨j, u, _, rfl, has_cut.2 ⟨by simpa using hS, us, hj, rfl⟩, e⟩
  · obtain ⟨hS, ks, h', rfl⟩ := has_cut.1 h
    rcases w.up _ _ _ h' with q | ⟨i, t, vs, q, hi, m, z⟩
    · exact .inl q
    · refine .inr ⟨i, t, _, q, has_cut.2 ⟨fun hi' => hS (cl _ _ _ hi hi' _ m), vs, hi, rfl⟩, List.mem_filter.2 ⟨m, by simpa using hS⟩, z⟩
  · obtain ⟨wt, B, hw⟩ := w.rank
    refine ⟨wt, B, fun j u us h => ?_⟩
    obtain ⟨_, ks, h', rfl⟩ := has_cut.1 h
    exact hw _ _ _ h'
  · obtain ⟨_, _, a', rfl⟩ := has_cut.1 a
    obtain ⟨_, _, b', rfl⟩ := has_cut.1 b
    exact w.cap _ _ _ _ _ _ a' b' e
  · obtain ⟨_, _, a', rfl⟩ := has_cut.1 a
    obtain ⟨_, _, b', rfl⟩ := has_cut.1 b
    exact w.one _ _ _ _ _ _ a' b' e e' e''
  · obtain ⟨_, _, h', rfl⟩ := has_cut.1 h
    exact w.right _ _ _ h'
structure CutStep (es : List En) (S : List Int) (m : Nat) (t : S_api_Token) : Prop where
  leaf : Has (cutE S es) m t []
  nds : nds (cutE (S ++ [(m : Int)]) es) = cutN (nds (cutE S es)) m
  use : (cutE (S ++ [(m : Int)]) es).map Option.isSome = ((cutE S es).map Option.isSome).set m false
  caps : (capsG 0 (cutE S es)).Perm ((t.Cap, (m : Int)) :: capsG 0 (cutE (S ++ [(m : Int)]) es))
  par : 0 ≤ t.Parent → t.Parent.toNat ≠ m ∧ ∃ dq, (Go.Proofs.YtcclfjhnpeappaaGreat.K.nds (cutE S es))[t.Parent.toNat]? = some dq ∧ (m : Int) ∈ dq.kids ∧ dq.kids.length ≤ 256
theorem CWF.kids_le {es : List En} (w : CWF es) {i t ks} (h : Has es i t ks) : ks.length ≤ es.length := by
  refine nodup_le _ _ (w.nd _ _ _ h) fun z hz => ?_
  obtain ⟨j, u, us, rfl, hj, _⟩ := w.down _ _ _ h _ hz
  exact ⟨j, hj.lt, rfl⟩
theorem CWF.cutStep {es : List En} (w : CWF es) {S : List Int} {m : Nat} {t ks} (hm : Has es m t ks) (hS : (m : Int) ∉ S) (hk : ∀ k ∈ ks, k ∈ S) (hp : ∀ q : Nat, t.Parent = q → (q : Int) ∉ S) : CutStep es S m t := by
  have leaf : Has (cutE S es) m t [] := has_cut.2 ⟨hS, ks, hm, by rw [List.filter_eq_nil_iff.2]; intro a ha; simpa using hk a ha⟩
  have hmS : (m : Int) ∈ S ++ [(m : Int)] := by simp
  have memS : ∀ z : Int, z ∈ S ++ [(m : Int)] ↔ z ∈ S ∨ z = m := fun z => by rw [List.mem_append, List.mem_singleton]
  have own : ∀ {i u us}, Has es i u us → (m : Int) ∈ us → t.Parent = i := fun {i u us} h hmem => by
    obtain ⟨j, v, vs, e, hj, p⟩ := w.down _ _ _ h _ hmem
    obtain rfl : m = j := by omega
    obtain ⟨rfl, _⟩ := hm.uniq hj
    exact p
  have same : ∀ {i : Nat} {u us}, Has es i u us → t.Parent ≠ i → (us.filter fun k => decide (k ∉ S ++ [(m : Int)])) = us.filter fun k => decide (k ∉ S) := fun {i u us} h hne => by
    refine List.filter_congr fun k hkm => ?_
    rw [decide_eq_decide, memS]
    constructor
    · exact fun a b => a (.inl b)
    · rintro a (b | b)
      · exact a b
      · subst b; exact hne (own h hkm)
  have get2 : ∀ i : Nat, (nds (cutE (S ++ [(m : Int)]) es))[i]? = (es[i]?).map fun e => ndOf (if (i : Int) ∈ S ++ [(m : Int)] then none else e.map fun p => (p.1, p.2.filter fun k => decide (k ∉ S ++ [(m : Int)]))) := fun i => by
    unfold nds; rw [List.getElem?_map, cutE_get, Option.map_map]; rfl
  have get1 : ∀ i : Nat, (nds (cutE S es))[i]? = (es[i]?).map fun e => ndOf (if (i : Int) ∈ S then none else e.map fun p => (p.1, p.2.filter fun k => decide (k ∉ S))) := fun i => by
    unfold nds; rw [List.getElem?_map, cutE_get, Option.map_map]; rfl
  have hlm := hm.lt
  have hl1 : m < (nds (cutE S es)).length := by rw [nds_len, cutE_len]; exact hlm
  have at_m : (nds (cutE (S ++ [(m : Int)]) es))[m]? = some nd0 := by
    rw [get2, hm, Option.map_some, if_pos hmS]; rfl
  have other : ∀ i : Nat, i ≠ m → t.Parent ≠ i → (nds (cutE (S ++ [(m : Int)]) es))[i]? = (nds (cutE S es))[i]? := fun i h1 h2 => by
    rw [get1, get2]
    cases e : es[i]? with
    | none => rfl
    | some o =>
      rw [Option.map_some, Option.map_some]
      have hi : ((i : Int) ∈ S ++ [(m : Int)]) ↔ (i : Int) ∈ S := by
        rw [memS]
        constructor
        · rintro (a | a)
          · exact a
          · exact absurd (by omega) h1
        · exact .inl
      simp only [hi]
      cases o with
      | none => rfl
      | some p =>
        obtain ⟨u, us⟩ := p
        simp only [Option.map_some]
        rw [same e h2]
  refine ⟨leaf, ?_, ?_, ?_, fun h0 => ?_⟩
  · unfold cutN
    rw [nds_get leaf]
    simp only
    split
    · rename_i hneg
      apply List.ext_getElem?
      intro i
      rw [List.getElem?_set]
      by_cases e : m = i
      · subst e; rw [if_pos rfl, if_pos hl1, at_m]
      · rw [if_neg e]; exact other i (fun q => e q.symm) (by omega)
    · rename_i hpos
      rcases w.up _ _ _ hm with z | ⟨q, u, us, z, hq, hmem, _⟩
      · omega
      · have hqS := hp q z
        have h1 : Has (cutE S es) q u _ := has_cut.2 ⟨hqS, us, hq, rfl⟩
        have hqm : q ≠ m := fun e => by
          obtain ⟨wt, B, hw⟩ := w.rank
          have := (hw _ _ _ hm).2 q z
          rw [e] at this; omega
        rw [show t.Parent.toNat = q by omega, nds_get h1]
        simp only
        have hl2 : q < (nds (cutE S es)).length := by rw [nds_len, cutE_len]; exact hq.lt
        apply List.ext_getElem?
        intro i
        rw [List.getElem?_set, List.getElem?_set, List.length_set]
        by_cases e : m = i
        · subst e; rw [if_pos rfl, if_pos hl1, at_m]
        · rw [if_neg e]
          by_cases e2 : q = i
          · subst e2
            rw [if_pos rfl, if_pos hl2, get2, hq, Option.map_some]
            rw [if_neg (fun a => ((memS _).1 a).elim hqS fun b => hqm (by omega))]
            show some (Nd.mk true u.Parent _) = some (Nd.mk true u.Parent _)
            have nd := w.nd _ _ _ hq
            rw [List.Nodup.erase_eq_filter (List.Nodup.sublist List.filter_sublist nd), List.filter_filter]
            congr 2
            refine List.filter_congr fun k hkm => ?_
            rw [Bool.eq_iff_iff, decide_eq_true_eq, Bool.and_eq_true, decide_eq_true_eq, memS, bne_iff_ne]
            constructor
            · exact fun a => ⟨fun b => a (.inr b), fun b => a (.inl b)⟩
            · rintro ⟨a, b⟩ (c | c)
              · exact b c
              · exact a c
          · rw [if_neg e2]; exact other i (fun q => e q.symm) (by omega)
  · apply List.ext_getElem?
    intro i
    rw [List.getElem?_set, List.getElem?_map, List.getElem?_map, cutE_get, cutE_get, List.length_map, cutE_len]
    by_cases e : m = i
    · subst e; rw [if_pos rfl, if_pos hlm, hm]; simp
    · rw [if_neg e]
      have hi : ((i : Int) ∈ S ++ [(m : Int)]) ↔ (i : Int) ∈ S := by
        rw [memS]
        constructor
        · rintro (a | a)
          · exact a
          · exact absurd (by omega) e
        · exact .inl
      simp only [hi]
      cases es[i]? with
      | none => rfl
      | some o =>
        simp only [Option.map_some]
        split
        · rfl
        · cases o <;> rfl
  · have := capsG_kill (k := 0) leaf
    rw [Nat.zero_add] at this
    have e : capsG 0 ((cutE S es).set m none) = capsG 0 (cutE (S ++ [(m : Int)]) es) := by
      refine capsG_congr ?_
      apply List.ext_getElem?
      intro i
      rw [List.getElem?_map, List.getElem?_map, List.getElem?_set, cutE_get, cutE_get, cutE_len]
      by_cases e : m = i
      · subst e; rw [if_pos rfl, if_pos hlm, hm]; simp
      · rw [if_neg e]
        have hi : ((i : Int) ∈ S ++ [(m : Int)]) ↔ (i : Int) ∈ S := by
          rw [memS]
          constructor
          · rintro (a | a)
            · exact a
            · exact absurd (by omega) e
          · exact .inl
        simp only [hi]
        cases es[i]? with
        | none => rfl
        | some o =>
          simp only [Option.map_some]
          split
          · rfl
          · cases o <;> rfl
    rw [e] at this
    exact this
  · rcases w.up _ _ _ hm with z | ⟨q, u, us, z, hq, hmem, _⟩
    · omega
    · have hqS := hp q z
      have h1 : Has (cutE S es) q u _ := has_cut.2 ⟨hqS, us, hq, rfl⟩
      refine ⟨fun e => ?_, ⟨true, u.Parent, us.filter fun k => decide (k ∉ S)⟩, by rw [show t.Parent.toNat = q by omega]; exact nds_get h1, List.mem_filter.2 ⟨hmem, by simpa using hS⟩, ?_⟩
      · obtain ⟨wt, B, hw⟩ := w.rank
        have := (hw _ _ _ hm).2 q z
        have : q = m := by omega
        subst this; omega
      · have h2 := w.kids_le hq
        have h3 : (us.filter fun k => decide (k ∉ S)).length ≤ us.length := List.length_filter_le _ _
        have := w.len
        show (us.filter fun k => decide (k ∉ S)).length ≤ 256
        omega
theorem keyN {t : TypeId} (hu : Tryz.prog.underlying t = some (.int .i64)) : KeyEq (eqV Tryz.prog 40 t) (Value.int .i64) := fun a b => by
  show eqV Tryz.prog (39 + 1) t _ _ = _
  rw [eqV.eq_2, hu]
  rfl
theorem keyNi : KeyEq (eqV Tryz.prog 40 3) (Value.int .i64) := keyN (by kernel_rfl)
structure CL where
  tp : Nat
  ts : Sl
  kp : Nat
  ks : Sl
  F : Nat → Prop
  tk : Sl
  us : Sl
  rb : Nat
  cb : Nat
def CL.obj (L : CL) : S_catalogue_Catalogue := ⟨⟨some ⟨L.tp, 0, none⟩, some ⟨L.kp, 0, none⟩⟩, L.tk, L.us, some L.rb, some L.cb⟩
abbrev cTok := S_api_Token.cells
theorem tok_len : ∀ x, (cTok x).length = 5 := fun _ => rfl
theorem tok_plain : ∀ x, (cTok x).all plainVal = true := fun _ => rfl
theorem cap_len : ∀ x, (S_api_Cap.cells x).length = 3 := fun _ => rfl
theorem cap_plain : ∀ x, (S_api_Cap.cells x).all plainVal = true := fun _ => rfl
structure CatRaw (h : H) (p : Nat) (L : CL) (most knob : Int) (l : List (S_api_Cap × Int)) (ns : List Nd) (ts : List S_api_Token) (us : List Bool) (lr lc : List (Int × Int)) : Prop where
  cell : h p = some (.cells (S_catalogue_Catalogue.cells L.obj).toArray N_catalogue_Catalogue (0, 0))
  tab : Tab h L.tp L.ts most knob l
  tree : Tree h L.kp L.ks L.F ns
  tok : Buf cTok 5 N_api_Token h L.tk ts
  use : Buf cBool 1 4 h L.us us
  roots : MapOf (Value.int .i64) (Value.int .i64) h L.rb lr
  count : MapOf (Value.int .i64) (Value.int .i64) h L.cb lc
  ne : L.rb ≠ L.cb
def comp (p : Nat) (L : CL) : Nat → Nat → Prop
  | 0, c => c = p
  | 1, c => c = L.tp ∨ L.ts.foot c
  | 2, c => L.F c
  | 3, c => L.tk.foot c
  | 4, c => L.us.foot c
  | 5, c => c = L.rb
  | 6, c => c = L.cb
  | _, _ => False
def CFoot (p : Nat) (L : CL) (c : Nat) : Prop := ∃ i, i < 7 ∧ comp p L i c
def ctys : Nat → List TypeId
  | 0 => [N_catalogue_Catalogue]
  | 1 => [N_slots_Table_int, N_slots_place_int]
  | 2 => [N_kin_Tree, N_kin_node, N_int]
  | 3 => [N_api_Token]
  | 4 => [4]
  | _ => []
section
variable {h : H} {p : Nat} {L : CL} {most knob : Int} {l : List (S_api_Cap × Int)} {ns : List Nd} {ts : List S_api_Token} {us : List Bool} {lr lc : List (Int × Int)}
theorem CatRaw.kind (x : CatRaw h p L most knob l ns ts us lr lc) {i c : Nat} (hi : i < 5) (hc : comp p L i c) : ∃ e, e ∈ ctys i ∧ Typed h e c := by
  match i, hi, hc with
  | 0, _, hc => exact ⟨_, List.mem_singleton_self _, by cases hc; exact Typed.of x.cell⟩
  | 1, _, hc =>
    rcases x.tab.typed hc with q | q
    · exact ⟨_, List.mem_cons_self .., q⟩
    · exact ⟨_, List.mem_cons_of_mem _ (List.mem_cons_self ..), q⟩
  | 2, _, hc =>
    rcases x.tree.typed hc with q | q | q
    · exact ⟨_, List.mem_cons_self .., q⟩
    · exact ⟨_, List.mem_cons_of_mem _ (List.mem_cons_self ..), q⟩
    · exact ⟨_, List.mem_cons_of_mem _ (List.mem_cons_of_mem _ (List.mem_cons_self ..)), q⟩
  | 3, _, hc => exact ⟨_, List.mem_singleton_self _, x.tok.typed hc⟩
  | 4, _, hc => exact ⟨_, List.mem_singleton_self _, x.use.typed hc⟩
theorem ctys_apart : ∀ i, i < 5 → ∀ j, j < 5 → i ≠ j → ∀ e ∈ ctys i, ∀ e' ∈ ctys j, (e : Nat) ≠ e' := by decide
theorem CatRaw.excl (x : CatRaw h p L most knob l ns ts us lr lc) {i j c : Nat} (hi : comp p L i c) (hj : comp p L j c) : i = j := by
  have bnd : ∀ {i}, comp p L i c → i < 7 := fun {i} q => by
    match i, q with
    | 0, _ => omega
    | 1, _ => omega
    | 2, _ => omega
    | 3, _ => omega
    | 4, _ => omega
    | 5, _ => omega
    | 6, _ => omega
    | _ + 7, q => exact q.elim
  have b1 := bnd hi
  have b2 := bnd hj
  have low : ∀ {i j}, i < 5 → 5 ≤ j → j < 7 → comp p L i c → comp p L j c → False := fun {i j} a b b' q r => by
    obtain ⟨e, _, t⟩ := x.kind a q
    rcases (by omega : j = 5 ∨ j = 6) with rfl | rfl
    · exact x.roots.untyped t r
    · exact x.count.untyped t r
  rcases Nat.lt_or_ge i 5 with q1 | q1
  · rcases Nat.lt_or_ge j 5 with q2 | q2
    · rcases Nat.decEq i j with n | n
      · obtain ⟨e, he, t⟩ := x.kind q1 hi
        obtain ⟨e', he', t'⟩ := x.kind q2 hj
        exact absurd rfl (t.ne t' (ctys_apart i q1 j q2 n e he e' he'))
      · exact n
    · exact (low q1 q2 b2 hi hj).elim
  · rcases Nat.lt_or_ge j 5 with q2 | q2
    · exact (low q2 q1 b1 hj hi).elim
    · rcases (by omega : i = 5 ∨ i = 6) with rfl | rfl <;> rcases (by omega : j = 5 ∨ j = 6) with rfl | rfl
      · rfl
      · exact absurd (hi.symm.trans hj) x.ne
      · exact absurd (hj.symm.trans hi) x.ne
      · rfl
theorem CatRaw.keep {h' : H} (x : CatRaw h p L most knob l ns ts us lr lc) (k : Keeps h h') : CatRaw h' p L most knob l ns ts us lr lc := ⟨k _ _ x.cell, x.tab.keep k, x.tree.keep k, x.tok.keep k, x.use.keep k, x.roots.keep k, x.count.keep k, x.ne⟩
theorem CatRaw.but {h' : H} {E : Nat → Prop} (x : CatRaw h p L most knob l ns ts us lr lc) (k : But E h h') (f : ∀ c, E c → ¬ CFoot p L c) : CatRaw h' p L most knob l ns ts us lr lc :=
  ⟨k _ _ x.cell fun q => f _ q ⟨0, by omega, rfl⟩, x.tab.but k fun c q => ⟨fun r => f _ q ⟨1, by omega, .inl r⟩, fun r => f _ q ⟨1, by omega, .inr r⟩⟩, x.tree.but k fun c q r => f _ q ⟨2, by omega, r⟩, x.tok.but k fun a ha q => f _ q ⟨3, by omega, ⟨a, ha, rfl⟩⟩, x.use.but k fun a ha q => f _ q ⟨4, by omega, ⟨a, ha, rfl⟩⟩, x.roots.but k fun q => f _ q ⟨5, by omega, rfl⟩, x.count.but k fun q => f _ q ⟨6, by omega, rfl⟩, x.ne⟩
theorem CatRaw.has (x : CatRaw h p L most knob l ns ts us lr lc) {c : Nat} (f : CFoot p L c) : h c ≠ none := by
  obtain ⟨i, hi, hc⟩ := f
  rcases Nat.lt_or_ge i 5 with q | q
  · obtain ⟨e, _, t⟩ := x.kind q hc
    exact t.has
  · rcases (by omega : i = 5 ∨ i = 6) with rfl | rfl
    · obtain ⟨es, cl, e, _⟩ := x.roots.ex
      cases hc; rw [e]; exact fun q => by cases q
    · obtain ⟨es, cl, e, _⟩ := x.count.ex
      cases hc; rw [e]; exact fun q => by cases q
section
variable {h' : H} {E : Nat → Prop}
theorem CatRaw.setTab (x : CatRaw h p L most knob l ns ts us lr lc) (k : But E h h') (hE : ∀ c, E c → comp p L 1 c) {l' : List (S_api_Cap × Int)} (t : Tab h' L.tp L.ts most knob l') : CatRaw h' p L most knob l' ns ts us lr lc := by
  have no : ∀ {j c}, j ≠ 1 → comp p L j c → ¬ E c := fun hj hc e => hj (x.excl hc (hE _ e))
  exact ⟨k _ _ x.cell (no (j := 0) (by decide) rfl), t, x.tree.but k fun c q r => no (j := 2) (by decide) r q, x.tok.but k fun a ha => no (j := 3) (by decide) ⟨a, ha, rfl⟩, x.use.but k fun a ha => no (j := 4) (by decide) ⟨a, ha, rfl⟩, x.roots.but k (no (j := 5) (by decide) rfl), x.count.but k (no (j := 6) (by decide) rfl), x.ne⟩
def CL.withF (L : CL) (F : Nat → Prop) : CL := { L with F := F }
theorem CatRaw.setTree (x : CatRaw h p L most knob l ns ts us lr lc) (k : But E h h') (hE : ∀ c, E c → comp p L 2 c) {ns' : List Nd} {F' : Nat → Prop} (t : Tree h' L.kp L.ks F' ns') : CatRaw h' p (L.withF F') most knob l ns' ts us lr lc := by
  have no : ∀ {j c}, j ≠ 2 → comp p L j c → ¬ E c := fun hj hc e => hj (x.excl hc (hE _ e))
  exact ⟨k _ _ x.cell (no (j := 0) (by decide) rfl), x.tab.but k fun c q => ⟨fun r => no (j := 1) (by decide) (.inl r) q, fun r => no (j := 1) (by decide) (.inr r) q⟩, t, x.tok.but k fun a ha => no (j := 3) (by decide) ⟨a, ha, rfl⟩, x.use.but k fun a ha => no (j := 4) (by decide) ⟨a, ha, rfl⟩, x.roots.but k (no (j := 5) (by decide) rfl), x.count.but k (no (j := 6) (by decide) rfl), x.ne⟩
theorem CatRaw.setTok (x : CatRaw h p L most knob l ns ts us lr lc) (k : But E h h') (hE : ∀ c, E c → comp p L 3 c) {ts' : List S_api_Token} (t : Buf cTok 5 N_api_Token h' L.tk ts') : CatRaw h' p L most knob l ns ts' us lr lc := by
  have no : ∀ {j c}, j ≠ 3 → comp p L j c → ¬ E c := fun hj hc e => hj (x.excl hc (hE _ e))
  exact ⟨k _ _ x.cell (no (j := 0) (by decide) rfl), x.tab.but k fun c q => ⟨fun r => no (j := 1) (by decide) (.inl r) q, fun r => no (j := 1) (by decide) (.inr r) q⟩, x.tree.but k fun c q r => no (j := 2) (by decide) r q, t, x.use.but k fun a ha => no (j := 4) (by decide) ⟨a, ha, rfl⟩, x.roots.but k (no (j := 5) (by decide) rfl), x.count.but k (no (j := 6) (by decide) rfl), x.ne⟩
theorem CatRaw.setUse (x : CatRaw h p L most knob l ns ts us lr lc) (k : But E h h') (hE : ∀ c, E c → comp p L 4 c) {us' : List Bool} (t : Buf cBool 1 4 h' L.us us') : CatRaw h' p L most knob l ns ts us' lr lc := by
  have no : ∀ {j c}, j ≠ 4 → comp p L j c → ¬ E c := fun hj hc e => hj (x.excl hc (hE _ e))
  exact ⟨k _ _ x.cell (no (j := 0) (by decide) rfl), x.tab.but k fun c q => ⟨fun r => no (j := 1) (by decide) (.inl r) q, fun r => no (j := 1) (by decide) (.inr r) q⟩, x.tree.but k fun c q r => no (j := 2) (by decide) r q, x.tok.but k fun a ha => no (j := 3) (by decide) ⟨a, ha, rfl⟩, t, x.roots.but k (no (j := 5) (by decide) rfl), x.count.but k (no (j := 6) (by decide) rfl), x.ne⟩
theorem CatRaw.setRoots (x : CatRaw h p L most knob l ns ts us lr lc) (k : But E h h') (hE : ∀ c, E c → comp p L 5 c) {lr' : List (Int × Int)} (t : MapOf (Value.int .i64) (Value.int .i64) h' L.rb lr') : CatRaw h' p L most knob l ns ts us lr' lc := by
  have no : ∀ {j c}, j ≠ 5 → comp p L j c → ¬ E c := fun hj hc e => hj (x.excl hc (hE _ e))
  exact ⟨k _ _ x.cell (no (j := 0) (by decide) rfl), x.tab.but k fun c q => ⟨fun r => no (j := 1) (by decide) (.inl r) q, fun r => no (j := 1) (by decide) (.inr r) q⟩, x.tree.but k fun c q r => no (j := 2) (by decide) r q, x.tok.but k fun a ha => no (j := 3) (by decide) ⟨a, ha, rfl⟩, x.use.but k fun a ha => no (j := 4) (by decide) ⟨a, ha, rfl⟩, t, x.count.but k (no (j := 6) (by decide) rfl), x.ne⟩
theorem CatRaw.setCount (x : CatRaw h p L most knob l ns ts us lr lc) (k : But E h h') (hE : ∀ c, E c → comp p L 6 c) {lc' : List (Int × Int)} (t : MapOf (Value.int .i64) (Value.int .i64) h' L.cb lc') : CatRaw h' p L most knob l ns ts us lr lc' := by
  have no : ∀ {j c}, j ≠ 6 → comp p L j c → ¬ E c := fun hj hc e => hj (x.excl hc (hE _ e))
  exact ⟨k _ _ x.cell (no (j := 0) (by decide) rfl), x.tab.but k fun c q => ⟨fun r => no (j := 1) (by decide) (.inl r) q, fun r => no (j := 1) (by decide) (.inr r) q⟩, x.tree.but k fun c q r => no (j := 2) (by decide) r q, x.tok.but k fun a ha => no (j := 3) (by decide) ⟨a, ha, rfl⟩, x.use.but k fun a ha => no (j := 4) (by decide) ⟨a, ha, rfl⟩, x.roots.but k (no (j := 5) (by decide) rfl), t, x.ne⟩
end
theorem KChg.part {h' : H} {E : Nat → Prop} {i : Nat} (k : But E h h') (hi : i < 7) (hE : ∀ c, E c → comp p L i c) (d : ∀ c, h' c = none → h c = none) : KChg (CFoot p L) (CFoot p L) h h' := ⟨k.mono fun c e => ⟨i, hi, hE c e⟩, fun _ f => .inl f, d⟩
theorem comp_withF {F' : Nat → Prop} {i c : Nat} (hi : i ≠ 2) : comp p (L.withF F') i c ↔ comp p L i c := by
  match i, hi with
  | 0, _ => exact Iff.rfl
  | 1, _ => exact Iff.rfl
  | 3, _ => exact Iff.rfl
  | 4, _ => exact Iff.rfl
  | 5, _ => exact Iff.rfl
  | 6, _ => exact Iff.rfl
  | _ + 7, _ => exact Iff.rfl
theorem KChg.tree {h' : H} {F' : Nat → Prop} (k : KChg L.F F' h h') : KChg (CFoot p L) (CFoot p (L.withF F')) h h' := by
  refine ⟨k.but.mono fun c e => ⟨2, by omega, e⟩, fun c f => ?_, k.dom⟩
  obtain ⟨i, hi, hc⟩ := f
  by_cases q : i = 2
  · subst q
    exact (k.foot c hc).imp (fun r => ⟨2, by omega, r⟩) id
  · exact .inl ⟨i, hi, (comp_withF q).1 hc⟩
theorem CatRaw.f (x : CatRaw h p L most knob l ns ts us lr lc) {n : Nat} {l1 l2 l3 : List Value} (e : S_catalogue_Catalogue.cells L.obj = l1 ++ l2 ++ l3) (hn : l1.length = n) : At h ((⟨p, 0, none⟩ : Addr).add n) l2 := by
  rw [pt_add]
  exact At.own (t := N_catalogue_Catalogue) (by rw [← e]; exact x.cell) hn
theorem CatRaw.fTab (x : CatRaw h p L most knob l ns ts us lr lc) : At h (((⟨p, 0, none⟩ : Addr).add 0).add 0) (cPtr (some ⟨L.tp, 0, none⟩)) := by
  rw [pt_add]; exact x.f (l1 := []) (l3 := (S_catalogue_Catalogue.cells L.obj).drop 1) rfl rfl
theorem CatRaw.fTree (x : CatRaw h p L most knob l ns ts us lr lc) : At h (((⟨p, 0, none⟩ : Addr).add 0).add 1) (cPtr (some ⟨L.kp, 0, none⟩)) := by
  rw [pt_add]; exact x.f (l1 := (S_catalogue_Catalogue.cells L.obj).take 1) (l3 := (S_catalogue_Catalogue.cells L.obj).drop 2) rfl rfl
theorem CatRaw.fTok (x : CatRaw h p L most knob l ns ts us lr lc) : At h ((⟨p, 0, none⟩ : Addr).add 2) (cSl L.tk) := x.f (l1 := (S_catalogue_Catalogue.cells L.obj).take 2) (l3 := (S_catalogue_Catalogue.cells L.obj).drop 3) rfl rfl
theorem CatRaw.fUse (x : CatRaw h p L most knob l ns ts us lr lc) : At h ((⟨p, 0, none⟩ : Addr).add 3) (cSl L.us) := x.f (l1 := (S_catalogue_Catalogue.cells L.obj).take 3) (l3 := (S_catalogue_Catalogue.cells L.obj).drop 4) rfl rfl
theorem CatRaw.fRoots (x : CatRaw h p L most knob l ns ts us lr lc) : At h ((⟨p, 0, none⟩ : Addr).add 4) (cMap (some L.rb)) := x.f (l1 := (S_catalogue_Catalogue.cells L.obj).take 4) (l3 := (S_catalogue_Catalogue.cells L.obj).drop 5) rfl rfl
theorem CatRaw.fCount (x : CatRaw h p L most knob l ns ts us lr lc) : At h ((⟨p, 0, none⟩ : Addr).add 5) (cMap (some L.cb)) := x.f (l1 := (S_catalogue_Catalogue.cells L.obj).take 5) (l3 := []) rfl rfl
def freeU (us : List Bool) : Option Nat := us.findIdx? fun b => !b
def freeI (us : List Bool) : Int := match freeU us with
  | some n => n
  | none => -1
theorem t_free (x : CatRaw h p L most knob l ns ts us lr lc) (hl : us.length ≤ 2 ^ 40) {K : Int → H → Prop} (y : K (freeI us) h) : m_catalogue_Catalogue_free (some ⟨p, 0, none⟩) K h := by
  unfold m_catalogue_Catalogue_free
  refine w_deref (w_load x.fUse ?_)
  have hlen := x.use.len
  refine w_for us.length (fun i (z : Int) h' => z = (i : Int) ∧ h = h' ∧ ∀ j, j < i → us[j]? = some true) ?_ ⟨rfl, rfl, fun j hj => absurd hj (Nat.not_lt_zero _)⟩
  rintro rec i z h' hi ⟨rfl, rfl, hall⟩ more
  refine w_if' (fun c => ?_) fun c => ?_
  · have c : (i : Int) < (L.us.len : Int) := c
    have hil : i < us.length := by omega
    refine w_get cb_len x.use.arr (List.getElem?_eq_getElem hil) rfl (v' := us[i]) rfl (w_if (fun e => ?_) fun e => ?_)
    · have : freeU us = some i := by
        unfold freeU
        rw [List.findIdx?_eq_some_iff_getElem]
        refine ⟨hil, e, fun j hj => ?_⟩
        have := hall j hj
        rw [List.getElem?_eq_getElem (by omega)] at this
        simp only [Option.some.injEq] at this
        simp [this]
      unfold freeI at y
      rw [this] at y
      exact y
    · refine more _ _ hil ⟨ia1 i (by omega), rfl, fun j hj => ?_⟩
      by_cases q : j = i
      · subst q; rw [List.getElem?_eq_getElem hil]; simpa using e
      · exact hall j (by omega)
  · have c : ¬ (i : Int) < (L.us.len : Int) := c
    have : freeU us = none := by
      unfold freeU
      rw [List.findIdx?_eq_none_iff]
      intro b hb
      obtain ⟨j, hj⟩ := List.mem_iff_getElem?.1 hb
      have := hall j (by have := lt_of_get hj; omega)
      rw [hj] at this
      cases this; rfl
    unfold freeI at y
    rw [this] at y
    exact y
theorem t_Cput (x : CatRaw h p L most knob l ns ts us lr lc) {n : Nat} {t : S_api_Token} (no : alook l t.Cap = none) (room : (l.length : Int) < most) (hn : n < ts.length) (hu : n < us.length) (hc : (alook lc t.Cap.Obj).getD 0 < 2 ^ 40 ∧ 0 ≤ (alook lc t.Cap.Obj).getD 0) {K : Unit → H → Prop}
    (y : ∀ h', CatRaw h' p L most knob (l ++ [(t.Cap, (n : Int))]) ns (ts.set n t) (us.set n true) lr (aset lc t.Cap.Obj ((alook lc t.Cap.Obj).getD 0 + 1)) → KChg (CFoot p L) (CFoot p L) h h' → K () h') : m_catalogue_Catalogue_put (some ⟨p, 0, none⟩) (n : Int) t K h := by
  unfold m_catalogue_Catalogue_put
  refine w_deref (w_load x.fTab (t_TPut x.tab (fun q => absurd no q) (fun _ q => by omega) fun _ _ h1 t1 c1 => ?_))
  have x1 := x.setTab c1.but (fun _ e => e) t1
  have k1 : KChg (CFoot p L) (CFoot p L) h h1 := .part (i := 1) c1.but (by omega) (fun _ e => e) c1.dom
  refine w_deref (w_deref (w_load x1.fTok (w_load x1.fUse ?_)))
  refine w_put tok_len x1.tok hn rfl t rfl fun h2 b2 e2 d2 => ?_
  have x2 := x1.setTok e2 (fun _ e => e) b2
  have k2 := k1.trans (.part (i := 3) e2 (by omega) (fun _ e => e) d2)
  refine w_put cb_len x2.use hu rfl true rfl fun h3 b3 e3 d3 => ?_
  have x3 := x2.setUse e3 (fun _ e => e) b3
  have k3 := k2.trans (.part (i := 4) e3 (by omega) (fun _ e => e) d3)
  refine w_deref (w_load x3.fCount (w_lookup keyNi x3.count ?_))
  rw [iAdd_eq (by omega) (by omega)]
  refine w_mapSet keyNi x3.count rfl rfl fun h4 m4 e4 d4 => ?_
  exact y h4 (x3.setCount e4 (fun _ e => e) m4) (k3.trans (.part (i := 6) e4 (by omega) (fun _ e => e) d4))
end
structure CRel (es : List En) (l : List (S_api_Cap × Int)) (ts : List S_api_Token) (lr lc : List (Int × Int)) : Prop where
  tl : ts.length = es.length
  tok : ∀ i t ks, Has es i t ks → ts[i]? = some t
  caps : l.Perm (capsG 0 es)
  oc : Once lc
  count : ∀ o, alook lc o = if cnt es o = 0 then none else some (cnt es o : Int)
  or : Once lr
  roots : ∀ o r, alook lr o = some r ↔ ∃ (i : Nat) (t : S_api_Token) (ks : List Int), r = i ∧ Has es i t ks ∧ t.Cap.Obj = o ∧ t.Parent = -1
structure Cat (h : H) (p : Nat) (knob : Int) (G : Nat → Prop) (es : List En) : Prop where
  ex : ∃ L l ts lr lc, CatRaw h p L es.length knob l (nds es) ts (es.map Option.isSome) lr lc ∧ (∀ c, G c ↔ CFoot p L c) ∧ CRel es l ts lr lc
  wf : CWF es
section
variable {h : H} {p : Nat} {knob : Int} {G : Nat → Prop} {es : List En}
theorem Cat.keep {h' : H} (x : Cat h p knob G es) (k : Keeps h h') : Cat h' p knob G es := by
  obtain ⟨L, l, ts, lr, lc, a, b, c⟩ := x.ex
  exact ⟨⟨L, l, ts, lr, lc, a.keep k, b, c⟩, x.wf⟩
theorem Cat.but {h' : H} {E : Nat → Prop} (x : Cat h p knob G es) (k : But E h h') (f : ∀ c, E c → ¬ G c) : Cat h' p knob G es := by
  obtain ⟨L, l, ts, lr, lc, a, b, c⟩ := x.ex
  exact ⟨⟨L, l, ts, lr, lc, a.but k fun c e q => f c e ((b c).2 q), b, c⟩, x.wf⟩
theorem Cat.has (x : Cat h p knob G es) {c : Nat} (f : G c) : h c ≠ none := by
  obtain ⟨L, l, ts, lr, lc, a, b, _⟩ := x.ex
  exact a.has ((b c).1 f)
end
def freeE (es : List En) : Option Nat := freeU (es.map Option.isSome)
theorem freeE_some {es : List En} {n : Nat} (h : freeE es = some n) : es[n]? = some none := by
  unfold freeE freeU at h
  rw [List.findIdx?_eq_some_iff_getElem] at h
  obtain ⟨hn, e, _⟩ := h
  rw [List.length_map] at hn
  rw [List.getElem?_eq_getElem hn]
  rw [List.getElem_map] at e
  cases q : es[n] with
  | none => rfl
  | some v => rw [q] at e; cases e
theorem freeI_eq (es : List En) : freeI (es.map Option.isSome) = match freeE es with
  | some n => (n : Int)
  | none => -1 := rfl
def isCap (c : S_api_Cap) : En → Bool
  | some (t, _) => decide (t.Cap = c)
  | none => false
def findE (es : List En) (c : S_api_Cap) : Option Nat := es.findIdx? (isCap c)
theorem findE_has {es : List En} {c : S_api_Cap} {n : Nat} (h : findE es c = some n) : ∃ (t : S_api_Token) (ks : List Int), Has es n t ks ∧ t.Cap = c := by
  unfold findE at h
  rw [List.findIdx?_eq_some_iff_getElem] at h
  obtain ⟨hn, e, _⟩ := h
  cases q : es[n] with
  | none => rw [q] at e; cases e
  | some v =>
    obtain ⟨t, ks⟩ := v
    rw [q] at e
    exact ⟨t, ks, by unfold Has; rw [List.getElem?_eq_getElem hn, q], of_decide_eq_true e⟩
theorem findE_none {es : List En} {c : S_api_Cap} (h : findE es c = none) {i t ks} (x : Has es i t ks) : t.Cap ≠ c := fun e => by
  unfold findE at h
  rw [List.findIdx?_eq_none_iff] at h
  have := h _ (List.mem_of_getElem? x)
  simp [isCap, e] at this
theorem CWF.find {es : List En} (w : CWF es) {i : Nat} {t ks} (x : Has es i t ks) : findE es t.Cap = some i := by
  cases h : findE es t.Cap with
  | none => exact absurd rfl (findE_none h x)
  | some n =>
    obtain ⟨u, us, hu, e⟩ := findE_has h
    rw [w.cap _ _ _ _ _ _ hu x e]
theorem capsG_le : ∀ (es : List En) (k : Nat), (capsG k es).length ≤ es.length := by
  intro es
  induction es with
  | nil => exact fun _ => Nat.le_refl _
  | cons e r ih =>
    intro k
    have := ih (k + 1)
    cases e with
    | none => rw [capsG]; simp only [List.length_cons]; omega
    | some p => obtain ⟨u, us⟩ := p; rw [capsG]; simp only [List.length_cons]; omega
theorem CRel.look {es : List En} {l ts lr lc} (x : CRel es l ts lr lc) (_ : CWF es) (o : Once l) (c : S_api_Cap) : alook l c = (findE es c).map fun n : Nat => (n : Int) := by
  cases h : findE es c with
  | some n =>
    obtain ⟨t, ks, a, b⟩ := findE_has h
    exact o.look (x.caps.symm.subset (capsG_mem.2 ⟨n, t, ks, a, b, by simp⟩))
  | none =>
    cases e : alook l c with
    | none => rfl
    | some v =>
      obtain ⟨i, t, ks, a, b, _⟩ := capsG_mem.1 (x.caps.subset (alook_mem e))
      exact absurd b (findE_none h a)
theorem cnt_cons {es es' : List En} {c : S_api_Cap} {v : Int} (h : (capsG 0 es').Perm ((c, v) :: capsG 0 es)) (o : Int) : cnt es' o = cnt es o + if c.Obj = o then 1 else 0 := by
  unfold cnt
  rw [h.countP_eq, List.countP_cons]
  simp
theorem capsG_child {es : List En} {q n : Nat} {t : S_api_Token} {u us} (hq : Has es q u us) (hn : es[n]? = some none) : (capsG 0 (childE es q n t)).Perm ((t.Cap, (n : Int)) :: capsG 0 es) := by
  have := capsG_new (t := t) (ks := []) (k := 0) hn
  rw [Nat.zero_add] at this
  refine .trans (.of_eq (capsG_congr ?_)) this
  apply List.ext_getElem?
  intro i
  have hne : n ≠ q := fun e => by subst e; unfold Has at hq; rw [hn] at hq; cases hq
  unfold childE
  rw [hq]
  rw [List.getElem?_map, List.getElem?_map, List.getElem?_set]
  by_cases e : q = i
  · subst e
    rw [if_pos rfl, List.length_set, if_pos hq.lt, List.getElem?_set, if_neg hne, hq]; rfl
  · rw [if_neg e]
theorem isSome_root {es : List En} {n : Nat} {t : S_api_Token} : (rootE es n t).map Option.isSome = (es.map Option.isSome).set n true := by
  unfold rootE; rw [List.map_set]; rfl
theorem isSome_child {es : List En} {q n : Nat} {t : S_api_Token} {u us} (hq : Has es q u us) (hn : es[n]? = some none) : (childE es q n t).map Option.isSome = (es.map Option.isSome).set n true := by
  unfold childE
  rw [hq]
  have hne : n ≠ q := fun e => by subst e; unfold Has at hq; rw [hn] at hq; cases hq
  apply List.ext_getElem?
  intro i
  rw [List.map_set, List.map_set, List.getElem?_set]
  by_cases e : q = i
  · subst e
    rw [if_pos rfl, List.length_set, List.length_map, if_pos hq.lt, List.getElem?_set, if_neg hne, List.getElem?_map, hq]; rfl
  · rw [if_neg e]; rfl
def tok0 : S_api_Token := ⟨⟨0, ⟨0, 0⟩⟩, 0, 0⟩
def atE (es : List En) (i : Int) : En := if 0 ≤ i then (es[i.toNat]?).getD none else none
theorem atE_nat (es : List En) (i : Nat) : atE es (i : Int) = (es[i]?).getD none := by
  unfold atE; rw [if_pos (by omega), Int.toNat_natCast]
theorem atE_has {es : List En} {i : Int} {t ks} : atE es i = some (t, ks) ↔ ∃ n : Nat, i = n ∧ Has es n t ks := by
  constructor
  · intro h
    unfold atE at h
    split at h
    · rename_i h0
      refine ⟨i.toNat, by omega, ?_⟩
      unfold Has
      cases e : es[i.toNat]? with
      | none => rw [e] at h; cases h
      | some o => rw [e] at h; exact congrArg some h
    · cases h
  · rintro ⟨n, rfl, h⟩
    rw [atE_nat, h]; rfl
def atOut (es : List En) (i : Int) : S_api_Token × Bool := match atE es i with
  | some (t, _) => (t, true)
  | none => (tok0, false)
def rootOut (es : List En) (c : S_api_Cap) (r : Int) : (Int × Int) × List En :=
  if 1 ≤ r ∧ r ≤ 31 then
    if 0 < cnt es c.Obj then ((0, 19), es) else
    match freeE es with
    | none => ((0, 10), es)
    | some n => (((n : Int), 0), rootE es n ⟨c, r, -1⟩)
  else ((0, 4), es)
def childOut (es : List En) (q : Int) (c : S_api_Cap) (r : Int) : (Int × Int) × List En := match atE es q with
  | none => ((0, 20), es)
  | some (t, _) =>
    if t.Cap.Obj = c.Obj then
      if partOf r t.Rights = true then
        if (findE es c).isSome then ((0, 19), es) else
        match freeE es with
        | none => ((0, 10), es)
        | some n => (((n : Int), 0), childE es q.toNat n ⟨c, r, q⟩)
      else ((0, 4), es)
    else ((0, 3), es)
theorem CWF.rootOut {es : List En} (w : CWF es) (c : S_api_Cap) (r : Int) : CWF (rootOut es c r).2 := by
  unfold K.rootOut
  split
  · rename_i hr
    split
    · exact w
    · rename_i h0
      split
      · exact w
      · rename_i n hn
        exact w.root (freeE_some hn) hr (by omega)
  · exact w
theorem partOf_r {r u : Int} (h : partOf r u = true) : 1 ≤ r ∧ r ≤ 31 := by
  unfold partOf at h
  rw [Bool.and_eq_true] at h
  exact of_decide_eq_true h.1
theorem CWF.childOut {es : List En} (w : CWF es) (q : Int) (c : S_api_Cap) (r : Int) : CWF (childOut es q c r).2 := by
  unfold K.childOut
  split
  · exact w
  · rename_i t ks hq
    obtain ⟨q, rfl, hq'⟩ := atE_has.1 hq
    split
    · rename_i ho
      split
      · rename_i hp
        split
        · exact w
        · rename_i hf
          split
          · exact w
          · rename_i n hn
            rw [Int.toNat_natCast]
            refine w.child hq' (freeE_some hn) ho hp (partOf_r hp) fun i t ks a => findE_none ?_ a
            cases e : findE es c with
            | none => rfl
            | some v => rw [e] at hf; exact absurd rfl hf
      · exact w
    · exact w
section
variable {h : H} {p : Nat} {knob : Int} {G : Nat → Prop} {es : List En}
theorem t_CAt (x : Cat h p knob G es) {i : Int} {K : S_api_Token × Bool → H → Prop} (y : K (atOut es i) h) : m_catalogue_Catalogue_At (some ⟨p, 0, none⟩) i K h := by
  obtain ⟨L, l, ts, lr, lc, a, b, c⟩ := x.ex
  unfold m_catalogue_Catalogue_At
  have hl := a.use.len
  rw [List.length_map] at hl
  have hw := x.wf.len
  refine w_joinV (decide (i < 0 ∨ (es.length : Int) ≤ i)) (fun j hj => ?_) ?_
  · refine w_if' (fun q => ?_) fun q => w_deref (w_load a.fUse ?_)
    · rw [decide_eq_true (.inl q)] at hj; exact hj
    · have e : decide ((L.us.len : Int) ≤ i) = decide (i < 0 ∨ (es.length : Int) ≤ i) := by rw [decide_eq_decide, hl]; constructor <;> omega
      rw [e]; exact hj
  · by_cases q : i < 0 ∨ (es.length : Int) ≤ i
    · rw [decide_eq_true q]
      refine w_join (w_ifT rfl (w_ifT rfl ?_))
      have e : atE es i = none := by
        unfold atE
        split
        · rw [List.getElem?_eq_none (by omega)]; rfl
        · rfl
      unfold atOut at y
      rw [e] at y
      exact y
    · rw [decide_eq_false q]
      obtain ⟨n, rfl⟩ : ∃ n : Nat, i = n := ⟨i.toNat, by omega⟩
      have hn : n < es.length := by omega
      have hn' : n < (es.map Option.isSome).length := by rw [List.length_map]; exact hn
      have hu : (es.map Option.isSome)[n]? = some (es[n]).isSome := by rw [List.getElem?_map, List.getElem?_eq_getElem hn]; rfl
      refine w_join (w_ifF rfl (w_deref (w_load a.fUse (w_get cb_len a.use.arr hu rfl (v' := (es[n]).isSome) rfl ?_))))
      unfold atOut at y
      rw [atE_nat, List.getElem?_eq_getElem hn] at y
      cases e : es[n] with
      | none =>
        rw [e] at y
        exact w_ifT rfl y
      | some v =>
        obtain ⟨t, ks⟩ := v
        rw [e] at y
        have ht : Has es n t ks := by unfold Has; rw [List.getElem?_eq_getElem hn, e]
        exact w_ifF rfl (w_deref (w_load a.fTok (w_get tok_len a.tok.arr (c.tok n t ks ht) rfl (v' := t) rfl y)))
theorem t_CFind (x : Cat h p knob G es) {c : S_api_Cap} {K : Int × Bool → H → Prop} (y : K (((findE es c).map fun n : Nat => (n : Int)).getD 0, (findE es c).isSome) h) : m_catalogue_Catalogue_Find (some ⟨p, 0, none⟩) c K h := by
  obtain ⟨L, l, ts, lr, lc, a, b, r⟩ := x.ex
  unfold m_catalogue_Catalogue_Find
  refine w_deref (w_load a.fTab (t_TGet a.tab ?_))
  rw [r.look x.wf a.tab.once]
  dsimp only
  rw [Option.isSome_map]
  exact y
theorem t_CCount (x : Cat h p knob G es) {K : Int → H → Prop} (y : K ((capsG 0 es).length : Nat) h) : m_catalogue_Catalogue_Count (some ⟨p, 0, none⟩) K h := by
  obtain ⟨L, l, ts, lr, lc, a, b, r⟩ := x.ex
  unfold m_catalogue_Catalogue_Count
  refine w_deref (w_load a.fTab (t_TLen a.tab ?_))
  rw [r.caps.length_eq]
  exact y
theorem CRel.cnt0 {l ts lr lc} (r : CRel es l ts lr lc) (o : Int) : (alook lc o).getD 0 = (cnt es o : Int) := by
  rw [r.count]
  split
  · rename_i h0; rw [h0]; rfl
  · rfl
theorem t_CRoot (x : Cat h p knob G es) {c : S_api_Cap} {r : Int} {K : Int × Int → H → Prop} (y : ∀ G' h', Cat h' p knob G' (rootOut es c r).2 → KChg G G' h h' → K (rootOut es c r).1 h') : m_catalogue_Catalogue_Root (some ⟨p, 0, none⟩) c r K h := by
  have wf := x.wf.rootOut c r
  obtain ⟨L, l, ts, lr, lc, a, b, rl⟩ := x.ex
  have hw := x.wf.len
  unfold rootOut at y wf
  unfold m_catalogue_Catalogue_Root
  refine t_free a (by rw [List.length_map]; omega) (w_Valid ?_)
  by_cases hr : 1 ≤ r ∧ r ≤ 31
  · rw [if_pos hr] at y wf
    rw [decide_eq_true hr]
    refine w_ifF rfl (w_deref (w_load a.fCount (w_lookup keyNi a.count ?_)))
    rw [rl.cnt0]
    refine w_if' (fun h0 => ?_) fun h0 => ?_
    · have h0 : 0 < (cnt es c.Obj : Int) := h0
      rw [if_pos (by omega)] at y
      exact y _ _ x (.refl _ _)
    · have h0 : ¬ 0 < (cnt es c.Obj : Int) := h0
      rw [if_neg (by omega)] at y wf
      rw [freeI_eq]
      cases hf : freeE es with
      | none =>
        rw [hf] at y
        exact w_ifT rfl (y _ _ x (.refl _ _))
      | some n =>
        rw [hf] at y wf
        dsimp only at y wf
        have hn := freeE_some hf
        have hlt := lt_of_get hn
        dsimp only
        refine w_ifF (decide_eq_false (by simp)) (w_deref (w_load a.fTree ?_))
        refine t_KRoot a.tree (by rw [nds_len]; exact hlt) ?_ fun h1 F1 t1 c1 => ?_
        · cases q : hasN (nds es) (n : Int) with
          | false => rfl
          | true =>
            obtain ⟨i, t, ks, e, hi⟩ := hasN_nds.1 q
            obtain rfl : n = i := by omega
            unfold Has at hi; rw [hn] at hi; cases hi
        have a1 := a.setTree c1.but (fun _ e => e) t1
        have k1 : KChg (CFoot p L) (CFoot p (L.withF F1)) h h1 := .tree c1
        have no : ∀ {i t ks}, Has es i t ks → t.Cap.Obj ≠ c.Obj := fun h e => by
          have := cnt_pos.2 ⟨_, _, _, h, e⟩
          omega
        have hfn : findE es c = none := by
          cases q : findE es c with
          | none => rfl
          | some v => obtain ⟨t, ks, z, e⟩ := findE_has q; exact absurd (by rw [e]) (no z)
        have hlook : alook l c = none := by rw [rl.look x.wf a.tab.once, hfn]; rfl
        have hnew := capsG_new (t := ⟨c, r, -1⟩) (ks := []) (k := 0) hn
        rw [Nat.zero_add] at hnew
        have hlen := hnew.length_eq
        have hle := capsG_le (es.set n (some (⟨c, r, -1⟩, []))) 0
        rw [List.length_set] at hle
        rw [List.length_cons] at hlen
        have hll := rl.caps.length_eq
        have e0 := rl.cnt0 c.Obj
        have hz : cnt es c.Obj = 0 := by omega
        refine t_Cput a1 (t := ⟨c, r, -1⟩) hlook (by omega) (by rw [rl.tl]; exact hlt) (by rw [List.length_map]; exact hlt) (by dsimp only; rw [e0, hz]; omega) fun h2 a2 k2 => ?_
        refine w_deref (w_load a2.fRoots (w_mapSet keyNi a2.roots rfl rfl fun h3 m3 e3 d3 => ?_))
        have a3 := a2.setRoots e3 (fun _ e => e) m3
        have k3 := (k1.trans k2).trans (KChg.part (i := 5) (p := p) (L := L.withF F1) e3 (by omega) (fun _ e => e) d3)
        have e1 : (rootE es n ⟨c, r, -1⟩).length = es.length := by unfold rootE; rw [List.length_set]
        have a4 := a3
        rw [← e1, ← nds_root (c := c) (r := r), ← isSome_root (t := ⟨c, r, -1⟩)] at a4
        refine y (CFoot p (L.withF F1)) h3 ⟨⟨L.withF F1, _, _, _, _, a4, fun _ => Iff.rfl, ?_⟩, wf⟩ ⟨k3.but.mono fun c f => (b c).2 f, fun c f => (k3.foot c f).imp (b c).2 id, k3.dom⟩
        · have H := fun {i t ks} => has_set (es := es) (n := n) hlt (e := some (⟨c, r, -1⟩, [])) (i := i) (t := t) (ks := ks)
          have neN : ∀ {i t ks}, Has es i t ks → i ≠ n := fun h e => by subst e; unfold Has at h; rw [hn] at h; cases h
          refine ⟨by unfold rootE; rw [List.length_set, List.length_set]; exact rl.tl, fun i t ks hi => ?_, ?_, rl.oc.set _ _, fun o => ?_, rl.or.set _ _, fun o v => ?_⟩
          · rw [List.getElem?_set]
            rcases H.1 hi with ⟨rfl, q⟩ | ⟨q, hi⟩
            · cases q; rw [if_pos rfl, if_pos (by rw [rl.tl]; exact hlt)]
            · rw [if_neg (fun z => q z.symm)]; exact rl.tok i t ks hi
          · exact (List.perm_append_comm (l₂ := [(c, (n : Int))])).trans ((rl.caps.cons _).trans hnew.symm)
          · rw [alook_set, cnt_cons (es' := rootE es n ⟨c, r, -1⟩) hnew]
            dsimp only
            rw [e0, rl.count o]
            by_cases q : o = c.Obj
            · subst q; rw [if_pos rfl, if_pos rfl, hz]; rfl
            · have q' : ¬ c.Obj = o := fun z => q z.symm
              simp only [if_neg q, if_neg q', Nat.add_zero]
          · rw [alook_set]
            by_cases q : o = c.Obj
            · subst q
              rw [if_pos rfl]
              constructor
              · intro e; cases e; exact ⟨n, _, _, rfl, H.2 (.inl ⟨rfl, rfl⟩), rfl, rfl⟩
              · rintro ⟨i, t, ks, rfl, hi, e, _⟩
                rcases H.1 hi with ⟨rfl, _⟩ | ⟨_, hi⟩
                · rfl
                · exact absurd e (no hi)
            · rw [if_neg q, rl.roots]
              constructor
              · rintro ⟨i, t, ks, rfl, hi, e⟩; exact ⟨i, t, ks, rfl, H.2 (.inr ⟨neN hi, hi⟩), e⟩
              · rintro ⟨i, t, ks, rfl, hi, e⟩
                rcases H.1 hi with ⟨_, z⟩ | ⟨_, hi⟩
                · cases z; exact absurd e.1.symm q
                · exact ⟨i, t, ks, rfl, hi, e⟩
  · rw [if_neg hr] at y
    rw [decide_eq_false hr]
    exact w_ifT rfl (y _ _ x (.refl _ _))
theorem t_CChild (x : Cat h p knob G es) {qi : Int} {c : S_api_Cap} {r : Int} {K : Int × Int → H → Prop} (y : ∀ G' h', Cat h' p knob G' (childOut es qi c r).2 → KChg G G' h h' → K (childOut es qi c r).1 h') : m_catalogue_Catalogue_Child (some ⟨p, 0, none⟩) qi c r K h := by
  have wf := x.wf.childOut qi c r
  have hw := x.wf.len
  unfold childOut at y wf
  unfold m_catalogue_Catalogue_Child
  refine t_CAt x ?_
  unfold atOut
  cases hqi : atE es qi with
  | none =>
    rw [hqi] at y
    exact w_ifT rfl (y _ _ x (.refl _ _))
  | some v =>
    obtain ⟨u, us⟩ := v
    rw [hqi] at y wf
    obtain ⟨q, rfl, hq⟩ := atE_has.1 hqi
    simp only at y wf
    obtain ⟨L, l, ts, lr, lc, a, b, rl⟩ := x.ex
    refine w_ifF rfl (w_deref (w_load a.fTab (t_TGet a.tab ?_)))
    rw [rl.look x.wf a.tab.once]
    refine t_free a (by rw [List.length_map]; omega) ?_
    by_cases ho : u.Cap.Obj = c.Obj
    · rw [if_pos ho] at y wf
      refine w_ifF (by simp [ho]) (w_Part ?_)
      cases hp : partOf r u.Rights with
      | false =>
        rw [if_neg (by rw [hp]; decide)] at y
        exact w_ifT rfl (y _ _ x (.refl _ _))
      | true =>
        rw [if_pos hp] at y wf
        refine w_ifF rfl ?_
        cases hf : findE es c with
        | some v =>
          rw [hf] at y
          exact w_ifT rfl (y _ _ x (.refl _ _))
        | none =>
          rw [hf] at y wf
          simp only [Option.isSome_none, Bool.false_eq_true, if_false] at y wf
          refine w_ifF rfl ?_
          rw [freeI_eq]
          cases hfr : freeE es with
          | none =>
            rw [hfr] at y
            exact w_ifT rfl (y _ _ x (.refl _ _))
          | some n =>
            rw [hfr] at y wf
            dsimp only at y wf
            dsimp only
            have hn := freeE_some hfr
            have hlt := lt_of_get hn
            refine w_ifF (decide_eq_false (by simp)) (w_deref (w_load a.fTree ?_))
            have hnN : hasN (nds es) (n : Int) = false := by
              cases z : hasN (nds es) (n : Int) with
              | false => rfl
              | true =>
                obtain ⟨i, t, ks, e, hi⟩ := hasN_nds.1 z
                obtain rfl : n = i := by omega
                unfold Has at hi; rw [hn] at hi; cases hi
            refine t_KChild a.tree (by rw [nds_len]; exact hlt) hnN (hasN_nds.2 ⟨q, u, us, rfl, hq⟩) (fun d hd => ?_) fun h1 F1 t1 c1 => ?_
            · rw [nds_get hq] at hd
              cases hd
              have := x.wf.kids_le hq
              show us.length ≤ 256
              omega
            have a1 := a.setTree c1.but (fun _ e => e) t1
            have k1 : KChg (CFoot p L) (CFoot p (L.withF F1)) h h1 := .tree c1
            have hlook : alook l c = none := by rw [rl.look x.wf a.tab.once, hf]; rfl
            have hnew := capsG_child (t := ⟨c, r, (q : Int)⟩) hq hn
            have hlen := hnew.length_eq
            have e1 : (childE es q n ⟨c, r, (q : Int)⟩).length = es.length := by unfold childE; rw [hq]; simp only [List.length_set]
            have hle := capsG_le (childE es q n ⟨c, r, (q : Int)⟩) 0
            rw [e1] at hle
            rw [List.length_cons] at hlen
            have hll := rl.caps.length_eq
            have e0 := rl.cnt0 c.Obj
            have hcl := cnt_le es c.Obj
            refine t_Cput a1 (t := ⟨c, r, (q : Int)⟩) hlook (by omega) (by rw [rl.tl]; exact hlt) (by rw [List.length_map]; exact hlt) (by dsimp only; rw [e0]; omega) fun h2 a2 k2 => ?_
            have k3 := k1.trans k2
            rw [Int.toNat_natCast] at y wf
            have a4 := a2
            rw [← e1, ← nds_child (t := ⟨c, r, (q : Int)⟩) rfl hq, ← isSome_child (t := ⟨c, r, (q : Int)⟩) hq hn] at a4
            refine y (CFoot p (L.withF F1)) h2 ⟨⟨L.withF F1, _, _, _, _, a4, fun _ => Iff.rfl, ?_⟩, wf⟩ ⟨k3.but.mono fun c f => (b c).2 f, fun c f => (k3.foot c f).imp (b c).2 id, k3.dom⟩
            · have H := fun {i v vs} => has_child (t := ⟨c, r, (q : Int)⟩) (i := i) (v := v) (vs := vs) hq hn
              have neN : ∀ {i t ks}, Has es i t ks → i ≠ n := fun h e => by subst e; unfold Has at h; rw [hn] at h; cases h
              refine ⟨by rw [e1, List.length_set]; exact rl.tl, fun i t ks hi => ?_, ?_, rl.oc.set _ _, fun o => ?_, rl.or, fun o v => ?_⟩
              · rw [List.getElem?_set]
                rcases H.1 hi with ⟨rfl, rfl, _⟩ | ⟨rfl, rfl, _⟩ | ⟨z, _, hi⟩
                · rw [if_pos rfl, if_pos (by rw [rl.tl]; exact hlt)]
                · rw [if_neg (fun z => neN hq z.symm)]; exact rl.tok _ _ _ hq
                · rw [if_neg (fun w => z w.symm)]; exact rl.tok i t ks hi
              · exact (List.perm_append_comm (l₂ := [(c, (n : Int))])).trans ((rl.caps.cons _).trans hnew.symm)
              · rw [alook_set, cnt_cons hnew]
                dsimp only
                rw [e0, rl.count o]
                by_cases z : o = c.Obj
                · subst z; rw [if_pos rfl, if_pos rfl, if_neg (by omega)]; rfl
                · have z' : ¬ c.Obj = o := fun w => z w.symm
                  simp only [if_neg z, if_neg z', Nat.add_zero]
              · rw [rl.roots]
                constructor
                · rintro ⟨i, t, ks, rfl, hi, e⟩
                  by_cases z : i = q
                  · subst z
                    obtain ⟨rfl, rfl⟩ := hq.uniq hi
                    exact ⟨i, _, _, rfl, H.2 (.inr (.inl ⟨rfl, rfl, rfl⟩)), e⟩
                  · exact ⟨i, t, ks, rfl, H.2 (.inr (.inr ⟨neN hi, z, hi⟩)), e⟩
                · rintro ⟨i, t, ks, rfl, hi, e⟩
                  rcases H.1 hi with ⟨rfl, rfl, _⟩ | ⟨rfl, rfl, _⟩ | ⟨_, _, hi⟩
                  · have := e.2; have : (q : Int) = -1 := this; omega
                  · exact ⟨i, _, _, rfl, hq, e⟩
                  · exact ⟨i, t, ks, rfl, hi, e⟩
    · rw [if_neg ho] at y
      exact w_ifT (by simp [ho]) (y _ _ x (.refl _ _))
end
section
variable {h : H}
theorem w_box {t : TypeId} {c : Array Value} {k : Addr → H → Prop} (y : ∀ b h', h b = none → h' b = some (.cells c t (0, 0)) → Keeps h h' → k ⟨b, 0, none⟩ h') : mNew t c k h := w_new fun b hb => y b _ hb (upd_same _ _ _) (.new hb)
theorem w_setBox {b : Nat} {old new : List Value} {t : TypeId} {k : H → Prop} (e : h b = some (.cells old.toArray t (0, 0))) (hn : new.length = old.length) (y : ∀ h', h' b = some (.cells new.toArray t (0, 0)) → But (· = b) h h' → (∀ c, h' c = none → h c = none) → k h') : mStore ⟨b, 0, none⟩ new k h :=
  w_store (l1 := []) (l2 := old) (l3 := []) rfl (by rw [List.nil_append, List.append_nil]; exact e) rfl hn (by rw [List.nil_append, List.append_nil]; exact y _ (upd_same _ _ _) (.upd rfl) fun c q => (upd_none.1 q).2)
theorem at_box {b : Nat} {cs : List Value} {t : TypeId} {fz : Nat × Nat} (e : h b = some (.cells cs.toArray t fz)) : At h ⟨b, 0, none⟩ cs := At.own (l1 := []) (l3 := []) (by rw [List.nil_append, List.append_nil]; exact e) rfl
theorem Buf.one {T : Type} {cells : T → List Value} {sz : Nat} {e : TypeId} (hs : ∀ x, (cells x).length = sz) {b : Nat} {x : T} (q : h b = some (.cells (cells x).toArray e (0, 0))) : Buf cells sz e h ⟨some ⟨b, 0, none⟩, 1, 1⟩ [x] := by
  have e1 : flat cells [x] ++ [] = cells x := by simp [flat]
  exact ⟨rfl, Nat.le_refl _, .inr ⟨b, [], (0, 0), rfl, by rw [e1]; exact q, by rw [e1, hs]; simp, thawed0 _⟩⟩
end
theorem w_DownF {h0 h : H} {p : Nat} {s : Sl} {F : Nat → Prop} {ns : List Nd} (x : Tree h0 p s F ns) (kp : Keeps h0 h) {n : Nat} {l : List Int} (hl : PreL (chN ns) [(n : Int)] l) (live : LiveL ns l) (len : l.length ≤ 4096)
    {body : Int → ((H → Prop) → H → Prop) → (Nat → H → Prop) → H → Prop} {k : Nat → H → Prop} (b : Int → (Nat → H → Prop) → H → Prop) (hb : ∀ x mid kj, body x mid kj = mid (b x kj))
    (R : (Nat → Prop) → Nat → H → Prop) (has : ∀ G i h, R G i h → ∀ c, G c → h c ≠ none) (stab : ∀ G i h h' E, R G i h → But E h h' → (∀ c, E c → ¬ G c) → R G i h') {G0 : Nat → Prop} (r0 : R G0 0 h) (g0 : ∀ c, G0 c → h0 c = none)
    (step : ∀ (i : Nat) (z : Nat), l[i]? = some (z : Int) → ∀ G h' kj, R G i h' → Keeps h0 h' → (∀ c, G c → h0 c = none) → (∀ G' h'', R G' (i + 1) h'' → KChg G G' h' h'' → kj 0 h'') → b (z : Int) kj h')
    (y : ∀ G h', R G l.length h' → Keeps h0 h' → (∀ c, G c → h0 c = none) → k 0 h') :
    m_walk_Down (some ⟨p, 0, none⟩) (n : Int) (fun r => mRangeF (A := Int) Tryz.prog (fun x => [(Value.int .i64 x)]) r.1 body k) h := by
  refine w_Down (x.keep kp) hl live len b hb (fun D i h' => ∃ G, R G i h' ∧ Keeps h0 h' ∧ (∀ c, G c → h0 c = none) ∧ ∀ c, D c ↔ G c ∨ h0 c ≠ none) ?_ ?_ (G0 := fun c => G0 c ∨ h0 c ≠ none) ⟨G0, r0, kp, g0, fun _ => Iff.rfl⟩ ?_ ?_
  · rintro D i h' ⟨G, r, k', g, d⟩ c hc
    rcases (d c).1 hc with q | q
    · exact has _ _ _ r c q
    · intro e; exact q (k'.fresh e)
  · rintro D i h' h'' E ⟨G, r, k', g, d⟩ bE nE
    refine ⟨G, stab _ _ _ _ _ r bE (fun c q w => nE c q ((d c).2 (.inl w))), fun c o q => bE c o (k' c o q) fun w => nE c w ((d c).2 (.inr (by rw [q]; exact fun z => by cases z))), g, d⟩
  · rintro i z hz D h' kj ⟨G, r, k', g, d⟩ next
    refine step i z hz G h' kj r k' g fun G' h'' r' c' => ?_
    have g' : ∀ c, G' c → h0 c = none := fun c q => (c'.foot c q).elim (g c) fun e => k'.fresh e
    refine next (fun c => G' c ∨ h0 c ≠ none) h'' ⟨G', r', k'.but c'.but g, g', fun _ => Iff.rfl⟩ ⟨c'.but.mono fun c q => (d c).2 (.inl q), fun c q => ?_, c'.dom⟩
    rcases q with q | q
    · exact (c'.foot c q).imp (fun w => (d c).2 (.inl w)) id
    · exact .inl ((d c).2 (.inr q))
  · rintro D h' ⟨G, r, k', g, d⟩ _
    exact y G h' r k' g
structure NewSt (h : H) (t u : Option Sl) (ms : List Nat) (n : Nat) (h' : H) : Prop where
  keep : Keeps h h'
  tok : ∀ s, t = some s → Buf cTok 5 N_api_Token h' s (List.replicate n tok0) ∧ ∀ c, s.foot c → h c = none
  use : ∀ s, u = some s → Buf cBool 1 4 h' s (List.replicate n false) ∧ ∀ c, s.foot c → h c = none
  maps : ∀ m, m ∈ ms → MapOf (Value.int .i64) (Value.int .i64) h' m ([] : List (Int × Int)) ∧ h m = none
  nd : ms.Nodup
theorem NewSt.more {h h' h'' : H} {t u : Option Sl} {ms : List Nat} {n : Nat} (x : NewSt h t u ms n h') (k : Keeps h' h'') : NewSt h t u ms n h'' :=
  ⟨x.keep.trans k, fun s e => ⟨(x.tok s e).1.keep k, (x.tok s e).2⟩, fun s e => ⟨(x.use s e).1.keep k, (x.use s e).2⟩, fun m e => ⟨(x.maps m e).1.keep k, (x.maps m e).2⟩, x.nd⟩
theorem NewSt.doTok {h h' : H} {u : Option Sl} {ms : List Nat} {n : Nat} (x : NewSt h none u ms n h') (hn : n ≤ 256) {k : Sl → H → Prop} (y : ∀ s h'', NewSt h (some s) u ms n h'' → k s h'') : mMake N_api_Token 40 #[(Value.int .i64 0), (Value.int .u64 0), (Value.int .u64 0), (Value.int .i64 0), (Value.int .i64 0)] (n : Int) (n : Int) k h' := by
  refine w_make tok_len tok0 rfl rfl rfl (by omega) (by omega) fun s h2 bu k2 f2 _ => y s h2 ?_
  have z := x.more k2
  exact ⟨z.keep, fun s' e => by cases e; exact ⟨bu, fun c f => x.keep.fresh (f2 c f)⟩, z.use, z.maps, z.nd⟩
theorem NewSt.doUse {h h' : H} {t : Option Sl} {ms : List Nat} {n : Nat} (x : NewSt h t none ms n h') (hn : n ≤ 256) {k : Sl → H → Prop} (y : ∀ s h'', NewSt h t (some s) ms n h'' → k s h'') : mMake 4 1 #[(Value.bool false)] (n : Int) (n : Int) k h' := by
  refine w_make cb_len false rfl rfl rfl (by omega) (by omega) fun s h2 bu k2 f2 _ => y s h2 ?_
  have z := x.more k2
  exact ⟨z.keep, z.tok, fun s' e => by cases e; exact ⟨bu, fun c f => x.keep.fresh (f2 c f)⟩, z.maps, z.nd⟩
theorem NewSt.doMap {h h' : H} {t u : Option Sl} {ms : List Nat} {n : Nat} (x : NewSt h t u ms n h') {k : Option Nat → H → Prop} (y : ∀ m h'', NewSt h t u (m :: ms) n h'' → k (some m) h'') : mMakeMap k h' := by
  refine w_makeMap (Value.int .i64) (Value.int .i64) fun b h2 f2 mp k2 => y b h2 ?_
  have z := x.more k2
  refine ⟨z.keep, z.tok, z.use, fun m e => ?_, List.nodup_cons.2 ⟨fun e => ?_, x.nd⟩⟩
  · rcases List.mem_cons.1 e with q | q
    · subst q; exact ⟨mp, x.keep.fresh f2⟩
    · exact z.maps m q
  · obtain ⟨es, cl, q, _⟩ := (x.maps b e).1.ex
    rw [f2] at q; cases q
theorem cnt_none (n : Nat) (o : Int) : cnt (List.replicate n none) o = 0 := by
  cases e : cnt (List.replicate n none) o with
  | zero => rfl
  | succ k =>
    obtain ⟨i, t, ks, hi, _⟩ := cnt_pos.1 (by omega : 0 < cnt (List.replicate n none) o)
    have := List.eq_of_mem_replicate (List.mem_of_getElem? hi)
    cases this
theorem capsG_none : ∀ (n k : Nat), capsG k (List.replicate n none) = [] := by
  intro n
  induction n with
  | zero => exact fun _ => rfl
  | succ n ih => intro k; rw [List.replicate_succ, capsG, ih]
theorem t_CNew {h : H} {a0 a1 : Int} {K : Option Addr × Int → H → Prop} (bad : (a0 < 1 ∨ 256 < a0 ∨ a1 < 0 ∨ 64 < a1) → K (none, 16) h)
    (good : 0 ≤ a1 → a1 ≤ 64 → ∀ n : Nat, a0 = n → 1 ≤ n → n ≤ 256 → ∀ p G h', Cat h' p a1 G (List.replicate n none) → Keeps h h' → (∀ c, G c → h c = none) → K (some ⟨p, 0, none⟩, 0) h') : m_catalogue_New a0 a1 K h := by
  unfold m_catalogue_New
  refine w_if (fun c => bad ?_) fun c => ?_
  · simp only [Bool.or_eq_true, decide_eq_true_eq] at c; omega
  simp only [Bool.or_eq_false_iff, decide_eq_false_iff_not] at c
  obtain ⟨n, rfl⟩ : ∃ n : Nat, a0 = n := ⟨a0.toNat, by omega⟩
  refine t_TNew (fun q => by omega) fun _ _ _ _ tp ts h1 t1 k1 f1 f1' => w_ifF rfl ?_
  refine t_KNew (by omega) fun kp ks F h2 t2 k2 f2 => w_ifF rfl ?_
  have s0 : NewSt h2 none none [] n h2 := ⟨.refl _, fun s e => (by cases e), fun s e => (by cases e), fun m e => (by cases e), List.nodup_nil⟩
  refine w_joinP (fun s3 h' => ∃ tk us m1 m2, s3 = (tk, us, some m1, some m2) ∧ NewSt h2 (some tk) (some us) [m1, m2] n h') (fun j hj => ?_) ?_
  · have fin1 : ∀ {tk us m1 m2 h'}, NewSt h2 (some tk) (some us) [m1, m2] n h' → j (tk, us, some m1, some m2) h' := fun z => hj _ _ ⟨_, _, _, _, rfl, z⟩
    have fin2 : ∀ {tk us m1 m2 h'}, NewSt h2 (some tk) (some us) [m2, m1] n h' → j (tk, us, some m1, some m2) h' := fun z => hj _ _ ⟨_, _, _, _, rfl, z.keep, z.tok, z.use, fun m e => z.maps m (by simp only [List.mem_cons, List.not_mem_nil, or_false] at e ⊢; exact e.symm), (List.Perm.swap _ _ []).nodup_iff.1 z.nd⟩
    have hn : n ≤ 256 := by omega
    repeat' first
      | refine w_both ?_ ?_
      | refine NewSt.doTok (by assumption) hn fun _ _ _ => ?_
      | refine NewSt.doUse (by assumption) hn fun _ _ _ => ?_
      | refine NewSt.doMap (by assumption) fun _ _ _ => ?_
      | exact fin1 (by assumption)
      | exact fin2 (by assumption)
  · rintro s3 h3 ⟨tk, us, m1, m2, rfl, z⟩
    refine w_box fun p h4 f4 c4 k4 => ?_
    obtain ⟨bt, ft⟩ := z.tok _ rfl
    obtain ⟨bu, fu⟩ := z.use _ rfl
    obtain ⟨mp1, fm1⟩ := z.maps m1 (by simp)
    obtain ⟨mp2, fm2⟩ := z.maps m2 (by simp)
    have hne : m1 ≠ m2 := by have := z.nd; simpa using this
    have k02 := k1.trans k2
    refine good (by omega) (by omega) n rfl (by omega) (by omega) p (CFoot p ⟨tp, ts, kp, ks, F, tk, us, m1, m2⟩) h4 ⟨⟨⟨tp, ts, kp, ks, F, tk, us, m1, m2⟩, [], List.replicate n tok0, [], [], ⟨c4, ?_, ?_, bt.keep k4, ?_, mp1.keep k4, mp2.keep k4, hne⟩, fun _ => Iff.rfl, ?_⟩, CWF.empty (by omega) (by omega)⟩ ((k02.trans z.keep).trans k4) fun c f => ?_
    · have := ((t1.keep k2).keep z.keep).keep k4
      rw [List.length_replicate]
      exact this
    · have := (t2.keep z.keep).keep k4
      unfold nds
      rw [List.map_replicate]
      exact this
    · rw [List.map_replicate]; exact bu.keep k4
    · have no : ∀ {i t ks}, ¬ Has (List.replicate n none) i t ks := fun h => by
        have := List.eq_of_mem_replicate (List.mem_of_getElem? h)
        cases this
      refine ⟨by rw [List.length_replicate, List.length_replicate], fun i t ks h => (no h).elim, by rw [capsG_none], List.nodup_nil, fun o => by rw [cnt_none]; rfl, List.nodup_nil, fun o r => ⟨fun h => (by cases h), fun ⟨i, t, ks, _, h, _⟩ => (no h).elim⟩⟩
    · obtain ⟨i, hi, hc⟩ := f
      match i, hi, hc with
      | 0, _, hc => cases hc; exact k02.fresh (z.keep.fresh f4)
      | 1, _, hc =>
        rcases hc with q | q
        · cases q; exact f1
        · exact f1' c q
      | 2, _, hc => exact k1.fresh (f2 c hc)
      | 3, _, hc => exact k02.fresh (ft c hc)
      | 4, _, hc => exact k02.fresh (fu c hc)
      | 5, _, hc => cases hc; exact k02.fresh fm1
      | 6, _, hc => cases hc; exact k02.fresh fm2
theorem CWF.parObj {es : List En} (w : CWF es) {x z : Int} (d : Desc (chN (nds es)) x z) {i : Nat} {t ks} (hx : x = i) (hi : Has es i t ks) : ∀ {j : Nat} {u us}, z = j → Has es j u us → u.Cap.Obj = t.Cap.Obj := by
  induction d with
  | refl =>
    intro j u us e hj
    obtain rfl : i = j := by omega
    obtain ⟨rfl, _⟩ := hi.uniq hj
    rfl
  | snoc d hz ih =>
    intro j u us e hj
    obtain ⟨a, v, vs, rfl, ha, hk⟩ := chN_mem hz
    subst e
    obtain ⟨b, v', vs', e, hb, hp⟩ := w.down _ _ _ ha _ hk
    obtain rfl : j = b := by omega
    obtain ⟨rfl, _⟩ := hj.uniq hb
    rcases w.up _ _ _ hj with q | ⟨i', t', ks', q, hi', _, ho, _⟩
    · omega
    · obtain rfl : a = i' := by omega
      rw [← ho]; exact ih rfl hi'
theorem CWF.rootOf {es : List En} (w : CWF es) : ∀ {j u us}, Has es j u us → ∃ (r : Nat) (t : S_api_Token) (ks : List Int), Has es r t ks ∧ t.Parent = -1 ∧ t.Cap.Obj = u.Cap.Obj ∧ Desc (chN (nds es)) (r : Int) (j : Int) := by
  obtain ⟨wt, B, hw⟩ := w.rank
  have main : ∀ k, ∀ {j u us}, Has es j u us → wt j < k → ∃ (r : Nat) (t : S_api_Token) (ks : List Int), Has es r t ks ∧ t.Parent = -1 ∧ t.Cap.Obj = u.Cap.Obj ∧ Desc (chN (nds es)) (r : Int) (j : Int) := by
    intro k
    induction k with
    | zero => intro j u us _ q; omega
    | succ k ih =>
      intro j u us hj hk
      rcases w.up _ _ _ hj with q | ⟨i, t, ks, q, hi, hm, ho, _⟩
      · exact ⟨j, u, us, hj, q, rfl, .refl⟩
      · have := (hw _ _ _ hj).2 i q
        obtain ⟨r, v, vs, hr, p, o, d⟩ := ih hi (by omega)
        exact ⟨r, v, vs, hr, p, o.trans ho, d.snoc (by rw [chN_nds hi]; exact hm)⟩
  exact fun {j u us} hj => main _ hj (Nat.lt_succ_self _)
theorem Below.closed {es : List En} {n : Nat} {l : List Int} (b : Below es n l) {i : Nat} {t ks} (hi : Has es i t ks) (hm : (i : Int) ∈ l) {k : Int} (hk : k ∈ ks) : k ∈ l := by
  obtain ⟨r, hr, d⟩ := b.pre.mem.1 hm
  exact b.pre.mem.2 ⟨r, hr, d.snoc (by rw [chN_nds hi]; exact hk)⟩
theorem Below.obj {es : List En} (w : CWF es) {n : Nat} {l : List Int} (b : Below es n l) {t ks} (hn : Has es n t ks) {i : Nat} {u us} (hm : (i : Int) ∈ l) (hi : Has es i u us) : u.Cap.Obj = t.Cap.Obj := by
  obtain ⟨r, hr, d⟩ := b.pre.mem.1 hm
  obtain rfl := List.mem_singleton.1 hr
  exact w.parObj d rfl hn rfl hi
theorem Below.down {es : List En} {n : Nat} {l : List Int} (b : Below es n l) {i j : Int} (hm : i ∈ l) (d : Desc (chN (nds es)) i j) : j ∈ l := by
  obtain ⟨r, hr, d'⟩ := b.pre.mem.1 hm
  exact b.pre.mem.2 ⟨r, hr, d'.trans d⟩
def capAt (es : List En) (z : Int) : S_api_Cap := match atE es z with
  | some (t, _) => t.Cap
  | none => ⟨0, ⟨0, 0⟩⟩
theorem capAt_has {es : List En} {i : Nat} {t ks} (h : Has es i t ks) : capAt es (i : Int) = t.Cap := by
  unfold capAt
  rw [(atE_has (i := (i : Int))).2 ⟨i, rfl, h⟩]
theorem CRel.drop {es : List En} {l : List (S_api_Cap × Int)} {ts lr lc} (rl : CRel es l ts lr lc) (w : CWF es) {n : Nat} {t ks} (hn : Has es n t ks) {bl : List Int} (b : Below es n bl) {l' : List (S_api_Cap × Int)} (hl' : l'.Perm (capsG 0 (cutE bl es)))
    (hc : ∀ o, cnt es o = cnt (cutE bl es) o + if o = t.Cap.Obj then bl.length else 0) :
    CRel (cutE bl es) l' ts (if cnt (cutE bl es) t.Cap.Obj = 0 then adel lr t.Cap.Obj else lr) (if cnt (cutE bl es) t.Cap.Obj = 0 then adel (aset lc t.Cap.Obj 0) t.Cap.Obj else aset lc t.Cap.Obj (cnt (cutE bl es) t.Cap.Obj)) := by
  have hnl : (n : Int) ∈ bl := b.pre.mem.2 ⟨n, by simp, .refl⟩
  have objIn : ∀ {i u us}, Has es i u us → (i : Int) ∈ bl → u.Cap.Obj = t.Cap.Obj := fun hi hm => b.obj w hn hm hi
  refine ⟨by rw [cutE_len]; exact rl.tl, fun i u us h => ?_, hl', ?_, fun o => ?_, ?_, fun o r => ?_⟩
  · obtain ⟨_, vs, h', _⟩ := has_cut.1 h
    exact rl.tok _ _ _ h'
  · split
    · exact (rl.oc.set _ _).del _
    · exact rl.oc.set _ _
  · by_cases q : o = t.Cap.Obj
    · subst q
      split
      · rw [alook_del _ _ _ (rl.oc.set _ _), if_pos rfl]
      · rw [alook_set, if_pos rfl]
    · have e := hc o
      rw [if_neg q] at e
      have : cnt es o = cnt (cutE bl es) o := by omega
      rw [← this, ← rl.count o]
      split
      · rw [alook_del _ _ _ (rl.oc.set _ _), if_neg q, alook_set, if_neg q]
      · rw [alook_set, if_neg q]
  · split
    · exact rl.or.del _
    · exact rl.or
  · -- the roots that stay
    have key : (∃ (i : Nat) (u : S_api_Token) (us : List Int), r = i ∧ Has (cutE bl es) i u us ∧ u.Cap.Obj = o ∧ u.Parent = -1) ↔ alook lr o = some r ∧ r ∉ bl := by
      rw [rl.roots]
      constructor
      · rintro ⟨i, u, us, rfl, h, e⟩
        obtain ⟨q, vs, h', _⟩ := has_cut.1 h
        exact ⟨⟨i, u, vs, rfl, h', e⟩, q⟩
      · rintro ⟨⟨i, u, us, rfl, h, e⟩, q⟩
        exact ⟨i, u, _, rfl, has_cut.2 ⟨q, us, h, rfl⟩, e⟩
    rw [key]
    by_cases q : o = t.Cap.Obj
    · subst q
      split
      · rename_i h0
        rw [alook_del _ _ _ rl.or, if_pos rfl]
        constructor
        · intro z; cases z
        · intro z
          obtain ⟨i, u, us, _, hi, e, _⟩ := key.2 z
          have := cnt_pos.2 ⟨i, u, us, hi, e⟩
          omega
      · rename_i h0
        obtain ⟨j, u, us, hj, ej⟩ := cnt_pos.1 (Nat.pos_of_ne_zero h0)
        obtain ⟨hjl, vs, hj', _⟩ := has_cut.1 hj
        obtain ⟨r', v, vs', hr', p', o', d'⟩ := w.rootOf hj'
        have hr'l : (r' : Int) ∉ bl := fun hm => hjl (b.down hm d')
        constructor
        · intro z
          refine ⟨z, ?_⟩
          obtain ⟨i, x, xs, rfl, hi, ei, pi⟩ := (rl.roots _ _).1 z
          rw [w.one _ _ _ _ _ _ hi hr' pi p' (ei.trans (ej.symm.trans o'.symm))]
          exact hr'l
        · exact fun z => z.1
    · have : alook (if cnt (cutE bl es) t.Cap.Obj = 0 then adel lr t.Cap.Obj else lr) o = alook lr o := by
        split
        · rw [alook_del _ _ _ rl.or, if_neg q]
        · rfl
      rw [this]
      constructor
      · intro z
        refine ⟨z, fun hm => ?_⟩
        obtain ⟨i, x, xs, rfl, hi, ei, _⟩ := (rl.roots _ _).1 z
        exact q (ei.symm.trans (objIn hi hm))
      · exact fun z => z.1
section
variable {h : H} {p : Nat} {knob : Int} {G : Nat → Prop} {es : List En}
theorem t_CDrop (x : Cat h p knob G es) {i : Int} {K : Sl × Int → H → Prop} (no : atE es i = none → ∀ h', Keeps h h' → K (Sl.nil, 20) h')
    (y : ∀ n t ks l, i = ((n : Nat) : Int) → Has es n t ks → Below es n l → ∀ s' G' h', Cat h' p knob G' (cutE l es) → KChg G G' h h' → Buf S_api_Cap.cells 3 N_api_Cap h' s' (l.map (capAt es)) → (∀ c, s'.foot c → h c = none) → (∀ c, s'.foot c → ¬ G' c) → K (s', 0) h') : m_catalogue_Catalogue_Drop (some ⟨p, 0, none⟩) i K h := by
  have wf := x.wf
  obtain ⟨L, al, ts, lr, lc, a, b, rl⟩ := x.ex
  unfold m_catalogue_Catalogue_Drop
  refine w_box fun b1 h1 f1 c1 k1 => w_load (v := some ⟨p, 0, none⟩) (cells := cPtr) (at_box c1) (t_CAt (x.keep k1) (w_box fun b4 h2 f2 c2 k2 => w_setBox c2 rfl fun h3 c3 e3 d3 => ?_))
  have k02 : Keeps h h2 := k1.trans k2
  have k03 : Keeps h h3 := k02.but e3 fun c q => by subst q; exact k1.fresh f2
  have k13 : Keeps h1 h3 := k2.but e3 fun c q => by subst q; exact f2
  unfold atOut at c3 ⊢
  cases hi : atE es i with
  | none =>
    exact w_ifT rfl (no hi h3 k03)
  | some v =>
    obtain ⟨t, ks⟩ := v
    obtain ⟨n, rfl, hn⟩ := atE_has.1 hi
    obtain ⟨l, bl⟩ := wf.ex hn
    have wl := wf.len
    have ll := bl.len
    rw [hi] at c3
    have c3 : h3 b4 = some (.cells (cTok t).toArray N_api_Token (0, 0)) := c3
    refine w_ifF rfl (w_box fun b5 h4 f4 c4 k4 => w_load (v := some ⟨p, 0, none⟩) (cells := cPtr) (at_box ((k13.trans k4) _ _ c1)) (w_deref (w_load ((a.keep k03).keep k4).fTree ?_)))
    have k04 := k03.trans k4
    refine w_DownF a.tree k04 bl.pre bl.live (by omega) _ (fun _ _ _ => rfl)
      (fun E i h' => ∃ s, (∀ c, E c ↔ c = b1 ∨ c = b4 ∨ c = b5 ∨ s.foot c) ∧ h' b1 = some (.cells [Value.pointer (some ⟨p, 0, none⟩)].toArray N_P_catalogue_Catalogue (0, 0)) ∧ h' b4 = some (.cells (cTok t).toArray N_api_Token (0, 0)) ∧ h' b5 = some (.cells [Sl.val s].toArray N_Sl_api_Cap (0, 0)) ∧ Buf S_api_Cap.cells 3 N_api_Cap h' s ((l.take i).map (capAt es))) ?_ ?_ (G0 := fun c => c = b1 ∨ c = b4 ∨ c = b5 ∨ Sl.nil.foot c)
      ⟨Sl.nil, fun _ => Iff.rfl, (k13.trans k4) _ _ c1, k4 _ _ c3, c4, Buf.nil⟩ ?_ ?_ ?_
    · rintro E i h' ⟨s, hE, g1, g4, g5, bu⟩ c hc
      rcases (hE c).1 hc with rfl | rfl | rfl | q
      · rw [g1]; exact fun z => by cases z
      · rw [g4]; exact fun z => by cases z
      · rw [g5]; exact fun z => by cases z
      · exact bu.has q
    · rintro E i h' h'' E' ⟨s, hE, g1, g4, g5, bu⟩ bE nE
      exact ⟨s, hE, bE _ _ g1 fun q => nE _ q ((hE _).2 (.inl rfl)), bE _ _ g4 fun q => nE _ q ((hE _).2 (.inr (.inl rfl))), bE _ _ g5 fun q => nE _ q ((hE _).2 (.inr (.inr (.inl rfl)))), bu.but bE fun a ha q => nE _ q ((hE _).2 (.inr (.inr (.inr ⟨a, ha, rfl⟩))))⟩
    · rintro c (rfl | rfl | rfl | ⟨_, q, _⟩)
      · exact f1
      · exact k1.fresh f2
      · exact k03.fresh f4
      · cases q
    · -- a round
      rintro i z hz E h' kj ⟨s, hE, g1, g4, g5, bu⟩ kp fr next
      obtain ⟨z', u, us, e, hu⟩ := hasN_nds.1 (bl.live _ (List.mem_of_getElem? hz))
      obtain rfl : z = z' := by omega
      have a' := a.keep kp
      refine w_load (v := s) (cells := cSl) (at_box g5) (w_load (v := some ⟨p, 0, none⟩) (cells := cPtr) (at_box g1) (w_deref (w_load a'.fTok ?_)))
      refine w_field tok_len a'.tok.arr (rl.tok _ _ _ hu) rfl (v' := u.Cap) (cells' := S_api_Cap.cells) (l1 := []) (l3 := (cTok u).drop 3) rfl rfl (w_box fun b20 h5 f5 c5 k5 => ?_)
      have hil := lt_of_get hz
      refine w_append (by_ := 24) cap_len cap_plain rfl (bu.keep k5) (Buf.one cap_len c5).arr (.inl ?_) fun s6 h6 bu6 e6 fo6 d6 => ?_
      · simp only [List.length_map, List.length_take, List.length_singleton]; omega
      have t5 := Typed.of (k5 _ _ g5)
      have nb : ∀ {bb : Nat} {e : TypeId} {cs : Array Value}, h' bb = some (.cells cs e (0, 0)) → e ≠ N_api_Cap → ¬ s.foot bb := fun q ne f => (bu.typed f).ne (Typed.of q) (fun z => ne z.symm) rfl
      have g5' := e6 _ _ (k5 _ _ g5) (nb g5 (by decide))
      refine w_setBox g5' rfl fun h7 c7 e7 d7 => ?_
      have n15 : b1 ≠ b5 := (Typed.of g1).ne (Typed.of g5) (by decide)
      have n45 : b4 ≠ b5 := (Typed.of g4).ne (Typed.of g5) (by decide)
      have kb : But (fun c => s.foot c ∨ c = b5) h' h7 := ((But.of k5 : But (fun c => s.foot c ∨ c = b5) h' h5).trans (e6.mono fun _ q => .inl q) fun _ q => .inl q).trans (e7.mono fun _ q => .inr q) fun _ q => .inl q
      have fo : ∀ c, s6.foot c → s.foot c ∨ h' c = none := fun c q => (fo6 c q).imp id fun w => k5.fresh w
      refine next (fun c => c = b1 ∨ c = b4 ∨ c = b5 ∨ s6.foot c) h7 ⟨s6, fun _ => Iff.rfl, kb _ _ g1 ?_, kb _ _ g4 ?_, c7, ?_⟩ ⟨kb.mono fun c q => (hE c).2 ?_, fun c q => ?_, fun c q => k5.fresh (d6 c (d7 c q))⟩
      · rintro (q | q)
        · exact nb g1 (by decide) q
        · exact n15 q
      · rintro (q | q)
        · exact nb g4 (by decide) q
        · exact n45 q
      · have := bu6.but e7 fun a ha q => (bu6.typed ⟨a, ha, rfl⟩).ne (Typed.of g5') (by decide) q
        have e1 : (l.take (i + 1)).map (capAt es) = (l.take i).map (capAt es) ++ [u.Cap] := by
          rw [List.take_add_one, hz, List.map_append]
          show _ = _ ++ [u.Cap]
          rw [← capAt_has hu]; rfl
        rw [e1]; exact this
      · rcases q with q | q
        · exact .inr (.inr (.inr q))
        · exact .inr (.inr (.inl q))
      · rcases q with q | q | q | q
        · exact .inl ((hE c).2 (.inl q))
        · exact .inl ((hE c).2 (.inr (.inl q)))
        · exact .inl ((hE c).2 (.inr (.inr (.inl q))))
        · exact (fo c q).imp (fun w => (hE c).2 (.inr (.inr (.inr w)))) id
    · -- behind the range
      rintro E h5 ⟨s, hE, g1, g4, g5, bu⟩ k05 fr
      rw [List.take_length] at bu
      refine w_ifT rfl (w_load (v := some ⟨p, 0, none⟩) (cells := cPtr) (at_box g1) (w_deref (w_load (a.keep k05).fTree ?_)))
      obtain ⟨m, hm, hpost, hperm⟩ := bl.pre.post wf.forest
      have hmem : ∀ z, z ∈ m.reverse ↔ z ∈ l := fun z => hperm.mem_iff
      have hmlen := hperm.length_eq
      have hmlen' : m.length = l.length := by rw [← hmlen, List.length_reverse]
      have hmnd : m.reverse.Nodup := hperm.nodup_iff.2 bl.nd
      refine t_Fall (a.keep k05).tree hm (fun z hz => bl.live z ((hmem z).1 (List.mem_reverse.2 hz))) (by omega) fun r25 h6 bu6 k6 f6 => ?_
      have k06 := k05.trans k6
      have a6 := a.keep k06
      have offL : ∀ {c : Nat}, h c = none → ¬ CFoot p L c := fun q f => a.has f q
      have fs : ∀ c, s.foot c → h c = none := fun c q => fr c ((hE c).2 (.inr (.inr (.inr q))))
      have fb1 : h b1 = none := f1
      have fb4 : h b4 = none := k1.fresh f2
      have fb5 : h b5 = none := k03.fresh f4
      have f25 : ∀ c, r25.foot c → h c = none := fun c q => k05.fresh (f6 c q)
      refine w_for m.length (fun j (zz : Int) h' => zz = (j : Int) ∧ ∃ F l', CatRaw h' p (L.withF F) es.length knob l' (nds (cutE (m.reverse.take j) es)) ts ((cutE (m.reverse.take j) es).map Option.isSome) lr lc ∧ l'.Perm (capsG 0 (cutE (m.reverse.take j) es)) ∧ (∀ o, cnt es o = cnt (cutE (m.reverse.take j) es) o + if o = t.Cap.Obj then j else 0) ∧ KChg (CFoot p L) (CFoot p (L.withF F)) h6 h') ?_ ?_
      rotate_left
      · refine ⟨rfl, L.F, al, ?_, ?_, fun o => ?_, .refl _ _⟩
        · rw [List.take_zero, cutE_nil]; exact a6
        · rw [List.take_zero, cutE_nil]; exact rl.caps
        · rw [List.take_zero, cutE_nil]; simp
      rintro rec j zz h' hj ⟨rfl, F, l', a', hp', hc', kc⟩ more
      have h6b : ∀ {c : Nat} {o : Obj}, h6 c = some o → h c = none → h' c = some o := fun q q' => kc.but _ _ q (offL q')
      have bu' : Buf (cInt .i64) 1 N_int h' r25 m.reverse := bu6.but kc.but fun a ha q => offL (f25 _ ⟨a, ha, rfl⟩) q
      have g1' : h' b1 = some (.cells [Value.pointer (some ⟨p, 0, none⟩)].toArray N_P_catalogue_Catalogue (0, 0)) := h6b (k6 _ _ g1) fb1
      have hl25 := bu'.len
      rw [List.length_reverse] at hl25
      refine w_if' (fun c => ?_) fun c => ?_
      · have c : (j : Int) < (r25.len : Int) := c
        have hjl : j < m.reverse.length := by rw [List.length_reverse]; omega
        have hz := List.getElem?_eq_getElem hjl
        generalize hzz : m.reverse[j] = zm at hz
        obtain ⟨q, u, us, rfl, hu⟩ := hasN_nds.1 (bl.live _ ((hmem _).1 (List.mem_of_getElem? hz)))
        have take1 : m.reverse.take (j + 1) = m.reverse.take j ++ [(q : Int)] := by rw [List.take_add_one, hz]; rfl
        have hqS : (q : Int) ∉ m.reverse.take j := fun w => by
          have nd := hmnd
          rw [← List.take_append_drop (j + 1) m.reverse, take1] at nd
          have nd := (List.nodup_append.1 nd).1
          rw [List.nodup_append] at nd
          exact nd.2.2 _ w _ (List.mem_singleton_self _) rfl
        have hkS : ∀ k ∈ us, k ∈ m.reverse.take j := fun k hk => hpost.behind hz k (by rw [chN_nds hu]; exact hk)
        have hpS : ∀ q' : Nat, u.Parent = q' → (q' : Int) ∉ m.reverse.take j := fun q' e w => by
          rcases wf.up _ _ _ hu with z | ⟨i', v, vs, z, hi', hm', _⟩
          · omega
          · obtain rfl : q' = i' := by omega
            obtain ⟨j', hj', w'⟩ := List.mem_take_iff_getElem.1 w
            have w'' : m.reverse[j']? = some (q' : Int) := by rw [List.getElem?_eq_getElem (by omega), w']
            have := hpost.behind w'' (q : Int) (by rw [chN_nds hi']; exact hm')
            exact hqS (List.take_subset_take_left _ (by omega) this)
        have st := wf.cutStep hu hqS hkS hpS
        refine w_get ci_len bu'.arr hz rfl (v' := (q : Int)) rfl (w_load (v := some ⟨p, 0, none⟩) (cells := cPtr) (at_box g1') (w_deref (w_load a'.fTree ?_)))
        refine t_KCut a'.tree (nds_get st.leaf) rfl rfl st.par fun h7 F7 t7 c7 => ?_
        rw [← st.nds] at t7
        have a7 := a'.setTree c7.but (fun _ e => e) t7
        have k7 : KChg (CFoot p L) (CFoot p (L.withF F7)) h6 h7 := kc.trans (KChg.tree (p := p) (L := L.withF F) c7)
        have off7 : ∀ {c : Nat} {o : Obj}, h6 c = some o → h c = none → h7 c = some o := fun q q' => k7.but _ _ q (offL q')
        refine w_load (v := some ⟨p, 0, none⟩) (cells := cPtr) (at_box (off7 (k6 _ _ g1) fb1)) (w_deref (w_load a7.fTab (w_load (v := some ⟨p, 0, none⟩) (cells := cPtr) (at_box (off7 (k6 _ _ g1) fb1)) (w_deref (w_load a7.fTok ?_)))))
        refine w_field tok_len a7.tok.arr (rl.tok _ _ _ hu) rfl (v' := u.Cap) (cells' := S_api_Cap.cells) (l1 := []) (l3 := (cTok u).drop 3) rfl rfl ?_
        have hlook : alook l' u.Cap = some (q : Int) := a7.tab.once.look (hp'.symm.subset (st.caps.symm.subset (List.mem_cons_self ..)))
        refine t_TDrop a7.tab (fun z => by rw [hlook] at z; cases z) fun v hv h8 t8 c8 => ?_
        rw [hlook] at hv; cases hv
        have a8 := a7.setTab c8.but (fun _ e => e) t8
        have k8 : KChg (CFoot p L) (CFoot p (L.withF F7)) h6 h8 := k7.trans (KChg.part (i := 1) (p := p) (L := L.withF F7) c8.but (by omega) (fun _ e => e) c8.dom)
        have off8 : ∀ {c : Nat} {o : Obj}, h6 c = some o → h c = none → h8 c = some o := fun q q' => k8.but _ _ q (offL q')
        refine w_load (v := some ⟨p, 0, none⟩) (cells := cPtr) (at_box (off8 (k6 _ _ g1) fb1)) (w_deref (w_load a8.fUse ?_))
        refine w_put cb_len a8.use (i := q) (by rw [List.length_map, cutE_len]; exact hu.lt) rfl false rfl fun h9 b9 e9 d9 => ?_
        have a9 := a8.setUse e9 (fun _ e => e) b9
        rw [← st.use, ← take1] at a9
        refine more _ _ (by omega) ⟨ia1 j (by omega), F7, _, a9, ?_, fun o => ?_, k8.trans (KChg.part (i := 4) (p := p) (L := L.withF F7) e9 (by omega) (fun _ e => e) d9)⟩
        · have sc := st.caps
          rw [take1]
          exact List.Perm.cons_inv (((adel_perm hlook).symm.trans hp').trans sc)
        · have sc := st.caps
          rw [take1]
          rw [hc' o, cnt_cons sc o]
          have hob := bl.obj wf hn ((hmem _).1 (List.mem_of_getElem? hz)) hu
          rw [hob]
          by_cases z : o = t.Cap.Obj
          · subst z; simp only [if_pos]; omega
          · have z' : ¬ t.Cap.Obj = o := fun w => z w.symm
            simp only [if_neg z, if_neg z']
            try omega
      · have c : ¬ (j : Int) < (r25.len : Int) := c
        obtain rfl : j = m.length := by omega
        have tl : m.reverse.take m.length = m.reverse := by rw [List.take_of_length_le]; rw [List.length_reverse]; exact Nat.le_refl _
        have ec : cutE (m.reverse.take m.length) es = cutE l es := by rw [tl]; exact cutE_congr hmem es
        rw [ec] at a' hp' hc'
        rw [hmlen'] at hc'
        have wf' : CWF (cutE l es) := wf.cut fun i u us hi hm k hk => bl.closed hi hm hk
        have rel := rl.drop wf hn bl hp' hc'
        have g4' : h' b4 = some (.cells (cTok t).toArray N_api_Token (0, 0)) := h6b (k6 _ _ g4) fb4
        have g5' : h' b5 = some (.cells [Sl.val s].toArray N_Sl_api_Cap (0, 0)) := h6b (k6 _ _ g5) fb5
        have ls := bu.len
        rw [List.length_map] at ls
        have lt4 : ∀ {h'' : H}, h'' b4 = some (.cells (cTok t).toArray N_api_Token (0, 0)) → At h'' (((⟨b4, 0, none⟩ : Addr).add 0).add 0) (cInt .i64 t.Cap.Obj) := fun q => by
          rw [pt_add, pt_add]
          exact (at_box q).head (l2 := (cTok t).drop 1)
        have fin : ∀ {h'' : H} {lr' lc' : List (Int × Int)}, CatRaw h'' p (L.withF F) es.length knob l' (nds (cutE l es)) ts ((cutE l es).map Option.isSome) lr' lc' → CRel (cutE l es) l' ts lr' lc' → KChg (CFoot p L) (CFoot p (L.withF F)) h6 h'' → mLoad cSl ⟨b5, 0, none⟩ (fun x49 => K (x49, 0)) h'' := fun {h'' lr' lc'} a'' r'' k'' => by
          have g5'' : h'' b5 = some (.cells [Sl.val s].toArray N_Sl_api_Cap (0, 0)) := k''.but _ _ (k6 _ _ g5) (offL fb5)
          refine w_load (v := s) (cells := cSl) (at_box g5'') ?_
          rw [← cutE_len l es] at a''
          refine y n t ks l rfl hn bl s (CFoot p (L.withF F)) h'' ⟨⟨L.withF F, l', ts, lr', lc', a'', fun _ => Iff.rfl, r''⟩, wf'⟩ ⟨fun c o q ng => k''.but c o (k06 c o q) fun w => ng ((b c).2 w), fun c w => (k''.foot c w).imp (b c).2 k06.fresh, fun c w => k06.fresh (k''.dom c w)⟩ ?_ fs fun c q w => ?_
          · exact (bu.keep k6).but k''.but fun a ha q => offL (fs _ ⟨a, ha, rfl⟩) q
          · rcases k''.foot c w with z | z
            · exact offL (fs c q) z
            · exact (bu.keep k6).has q z
        refine w_joinP (fun _ h'' => ∃ lr' lc', CatRaw h'' p (L.withF F) es.length knob l' (nds (cutE l es)) ts ((cutE l es).map Option.isSome) lr' lc' ∧ CRel (cutE l es) l' ts lr' lc' ∧ KChg (CFoot p L) (CFoot p (L.withF F)) h6 h'') (fun J hJ => ?_) fun _ h'' ⟨lr', lc', q1, q2, q3⟩ => fin q1 q2 q3
        refine w_load (v := some ⟨p, 0, none⟩) (cells := cPtr) (at_box g1') (w_deref (w_load a'.fCount (w_load (lt4 g4') (w_lookup keyNi a'.count (w_load (v := s) (cells := cSl) (at_box g5') ?_)))))
        rw [rl.cnt0, hc' t.Cap.Obj, if_pos rfl, ls]
        have cl := cnt_le (cutE l es) t.Cap.Obj
        rw [cutE_len] at cl
        have e1 : iSub .i64 ((cnt (cutE l es) t.Cap.Obj + l.length : Nat) : Int) (l.length : Int) = (cnt (cutE l es) t.Cap.Obj : Int) := by rw [iSub_eq (by omega) (by omega)]; omega
        rw [e1]
        refine w_mapSet keyNi a'.count rfl rfl fun h7 m7 e7 d7 => ?_
        have a7 := a'.setCount e7 (fun _ e => e) m7
        have k7 : KChg (CFoot p L) (CFoot p (L.withF F)) h6 h7 := kc.trans (KChg.part (i := 6) (p := p) (L := L.withF F) e7 (by omega) (fun _ e => e) d7)
        have off7 : ∀ {c : Nat} {o : Obj}, h6 c = some o → h c = none → h7 c = some o := fun q q' => k7.but _ _ q (offL q')
        refine w_load (v := some ⟨p, 0, none⟩) (cells := cPtr) (at_box (off7 (k6 _ _ g1) fb1)) (w_deref (w_load a7.fCount (w_load (lt4 (off7 (k6 _ _ g4) fb4)) (w_lookup keyNi a7.count ?_))))
        rw [alook_set, if_pos rfl]
        by_cases hz : cnt (cutE l es) t.Cap.Obj = 0
        · rw [if_pos hz, if_pos hz] at rel
          refine w_ifT (by rw [hz]; rfl) ?_
          rw [hz] at m7 a7
          refine w_load (v := some ⟨p, 0, none⟩) (cells := cPtr) (at_box (off7 (k6 _ _ g1) fb1)) (w_deref (w_load a7.fCount (w_load (lt4 (off7 (k6 _ _ g4) fb4)) (w_mapDel keyNi a7.count rfl fun h8 m8 e8 d8 => ?_))))
          have a8 := a7.setCount e8 (fun _ e => e) m8
          have k8 : KChg (CFoot p L) (CFoot p (L.withF F)) h6 h8 := k7.trans (KChg.part (i := 6) (p := p) (L := L.withF F) e8 (by omega) (fun _ e => e) d8)
          have off8 : ∀ {c : Nat} {o : Obj}, h6 c = some o → h c = none → h8 c = some o := fun q q' => k8.but _ _ q (offL q')
          refine w_load (v := some ⟨p, 0, none⟩) (cells := cPtr) (at_box (off8 (k6 _ _ g1) fb1)) (w_deref (w_load a8.fRoots (w_load (lt4 (off8 (k6 _ _ g4) fb4)) (w_mapDel keyNi a8.roots rfl fun h9 m9 e9 d9 => ?_))))
          have a9 := a8.setRoots e9 (fun _ e => e) m9
          exact hJ _ _ ⟨_, _, a9, rel, k8.trans (KChg.part (i := 5) (p := p) (L := L.withF F) e9 (by omega) (fun _ e => e) d9)⟩
        · rw [if_neg hz, if_neg hz] at rel
          refine w_ifF (decide_eq_false ?_) (hJ _ _ ⟨_, _, a7, rel, k7⟩)
          show ¬ (cnt (cutE l es) t.Cap.Obj : Int) = 0
          omega
end
theorem idx_of {l : List Int} (nd : l.Nodup) {i : Nat} {z : Int} (h : l[i]? = some z) : l.idxOf z = i := by
  obtain ⟨hi, e⟩ := List.getElem?_eq_some_iff.1 h
  have := nd.idxOf_getElem i hi
  rwa [e] at this
def placeIn (l : List Int) (z : Int) : Int := if z = -1 then -1 else ((l.idxOf z : Nat) : Int)
def tokIn (es : List En) (l : List Int) (z : Int) : S_api_Token := match atE es z with
  | some (t, _) => ⟨t.Cap, t.Rights, placeIn l t.Parent⟩
  | none => tok0
def ofE (es : List En) (l : List Int) : List S_api_Token := l.map (tokIn es l)
theorem tokIn_has {es : List En} {l : List Int} {i : Nat} {t ks} (h : Has es i t ks) : tokIn es l (i : Int) = ⟨t.Cap, t.Rights, placeIn l t.Parent⟩ := by
  unfold tokIn
  rw [(atE_has (i := (i : Int))).2 ⟨i, rfl, h⟩]
theorem Below.ahead {es : List En} (w : CWF es) {n : Nat} {l : List Int} (b : Below es n l) {t ks} (hn : Has es n t ks) {i : Nat} {z : Nat} (hz : l[i]? = some (z : Int)) {u us} (hu : Has es z u us) : (z = n ∧ u = t) ∨ (0 ≤ u.Parent ∧ u.Parent ∈ l.take i) := by
  rcases b.pre.behind hz with q | ⟨y, hy, hm⟩
  · obtain rfl : z = n := by have := List.mem_singleton.1 q; omega
    exact .inl ⟨rfl, (hu.uniq hn).1⟩
  · obtain ⟨j, v, vs, rfl, hj, hk⟩ := chN_mem hm
    obtain ⟨a, v', vs', e, ha, p⟩ := w.down _ _ _ hj _ hk
    obtain rfl : z = a := by omega
    obtain ⟨rfl, _⟩ := hu.uniq ha
    rw [p]
    exact .inr ⟨by omega, hy⟩
section
variable {h : H} {p : Nat} {knob : Int} {G : Nat → Prop} {es : List En}
theorem t_COf (x : Cat h p knob G es) {o : Int} {K : Sl → H → Prop} (no : (∀ i t ks, Has es i t ks → t.Cap.Obj ≠ o) → ∀ h', Keeps h h' → K Sl.nil h')
    (y : ∀ n t ks l, Has es n t ks → t.Cap.Obj = o → t.Parent = -1 → Below es n l → ∀ s' h', Buf cTok 5 N_api_Token h' s' (ofE es l) → Keeps h h' → (∀ c, s'.foot c → h c = none) → K s' h') : m_catalogue_Catalogue_Of (some ⟨p, 0, none⟩) o K h := by
  have wf := x.wf
  obtain ⟨L, al, ts, lr, lc, a, b, rl⟩ := x.ex
  unfold m_catalogue_Catalogue_Of
  refine w_box fun b1 h1 f1 c1 k1 => w_load (v := some ⟨p, 0, none⟩) (cells := cPtr) (at_box c1) (w_deref (w_load (a.keep k1).fRoots (w_lookup keyNi (a.keep k1).roots ?_)))
  cases hr : alook lr o with
  | none =>
    refine w_ifT rfl (no (fun i t ks hi e => ?_) h1 k1)
    obtain ⟨r, v, vs, hr', p', o', _⟩ := wf.rootOf hi
    have := (rl.roots o (r : Int)).2 ⟨r, v, vs, rfl, hr', o'.trans e, p'⟩
    rw [hr] at this; cases this
  | some r =>
    obtain ⟨n, t, ks, rfl, hn, ho, hp⟩ := (rl.roots o r).1 hr
    obtain ⟨l, bl⟩ := wf.ex hn
    have wl := wf.len
    have ll := bl.len
    refine w_ifF rfl (w_box fun b6 h2 f2 c2 k2 => w_makeMap (Value.int .i64) (Value.int .i64) fun m7 h3 f3 mp3 k3 => w_mapSet keyNi mp3 rfl rfl fun h4 mp4 e4 d4 => w_box fun b8 h5 f5 c5 k5 => w_setBox c5 rfl fun h6 c6 e6 d6 => ?_)
    have k03 : Keeps h h3 := (k1.trans k2).trans k3
    have k04 : Keeps h h4 := k03.but e4 fun c q => by subst q; exact (k1.trans k2).fresh f3
    have k24 : Keeps h2 h4 := k3.but e4 fun c q => by subst q; exact f3
    have k05 := k04.trans k5
    have k06 : Keeps h h6 := k05.but e6 fun c q => by subst q; exact k04.fresh f5
    have k46 : Keeps h4 h6 := k5.but e6 fun c q => by subst q; exact f5
    have k26 := k24.trans k46
    refine w_load (v := some ⟨p, 0, none⟩) (cells := cPtr) (at_box (k26 _ _ (k2 _ _ c1))) (w_deref (w_load (a.keep k06).fTree ?_))
    refine w_DownF a.tree k06 bl.pre bl.live (by omega) _ (fun _ _ _ => rfl)
      (fun E i h' => ∃ s A, (∀ c, E c ↔ c = b1 ∨ c = b6 ∨ c = b8 ∨ c = m7 ∨ s.foot c) ∧ h' b1 = some (.cells [Value.pointer (some ⟨p, 0, none⟩)].toArray N_P_catalogue_Catalogue (0, 0)) ∧ h' b6 = some (.cells [Sl.val s].toArray N_Sl_api_Token (0, 0)) ∧ h' b8 = some (.cells [Value.map (some m7)].toArray N_M_i64_i64 (0, 0)) ∧ MapOf (Value.int .i64) (Value.int .i64) h' m7 A ∧ (∀ w, alook A w = if w = -1 then some (-1) else if w ∈ l.take i then some ((l.idxOf w : Nat) : Int) else none) ∧ Buf cTok 5 N_api_Token h' s ((l.take i).map (tokIn es l))) ?_ ?_ (G0 := fun c => c = b1 ∨ c = b6 ∨ c = b8 ∨ c = m7 ∨ Sl.nil.foot c)
      ⟨Sl.nil, _, fun _ => Iff.rfl, k26 _ _ (k2 _ _ c1), k26 _ _ c2, c6, mp4.keep k46, fun w => ?_, Buf.nil⟩ ?_ ?_ ?_
    · rintro E i h' ⟨s, A, hE, g1, g6, g8, gm, hA, bu⟩ c hc
      rcases (hE c).1 hc with rfl | rfl | rfl | rfl | q
      · rw [g1]; exact fun z => by cases z
      · rw [g6]; exact fun z => by cases z
      · rw [g8]; exact fun z => by cases z
      · obtain ⟨es', cl, e, _⟩ := gm.ex
        rw [e]; exact fun z => by cases z
      · exact bu.has q
    · rintro E i h' h'' E' ⟨s, A, hE, g1, g6, g8, gm, hA, bu⟩ bE nE
      exact ⟨s, A, hE, bE _ _ g1 fun q => nE _ q ((hE _).2 (.inl rfl)), bE _ _ g6 fun q => nE _ q ((hE _).2 (.inr (.inl rfl))), bE _ _ g8 fun q => nE _ q ((hE _).2 (.inr (.inr (.inl rfl)))), gm.but bE fun q => nE _ q ((hE _).2 (.inr (.inr (.inr (.inl rfl))))), hA, bu.but bE fun a ha q => nE _ q ((hE _).2 (.inr (.inr (.inr (.inr ⟨a, ha, rfl⟩)))))⟩
    · rw [alook_set]
      by_cases q : w = -1
      · rw [if_pos q, if_pos q]
      · rw [if_neg q, if_neg q, List.take_zero, if_neg (by simp)]; rfl
    · rintro c (rfl | rfl | rfl | rfl | ⟨_, q, _⟩)
      · exact f1
      · exact k1.fresh f2
      · exact k04.fresh f5
      · exact (k1.trans k2).fresh f3
      · cases q
    · -- a round
      rintro i z hz E h' kj ⟨s, A, hE, g1, g6, g8, gm, hA, bu⟩ kp fr next
      obtain ⟨z', u, us, e, hu⟩ := hasN_nds.1 (bl.live _ (List.mem_of_getElem? hz))
      obtain rfl : z = z' := by omega
      have hil := lt_of_get hz
      have a' := a.keep kp
      refine w_load (v := some ⟨p, 0, none⟩) (cells := cPtr) (at_box g1) (w_deref (w_load a'.fTok (w_get tok_len a'.tok.arr (rl.tok _ _ _ hu) rfl (v' := u) rfl ?_)))
      refine w_box fun b22 h7 f7 c7 k7 => w_setBox c7 rfl fun h8 c8 e8 d8 => ?_
      have k8 : Keeps h' h8 := k7.but e8 fun c q => by subst q; exact f7
      have c8 : h8 b22 = some (.cells (cTok u).toArray N_api_Token (0, 0)) := c8
      refine w_load (v := some m7) (cells := cMap) (at_box (k8 _ _ g8)) (w_load (v := s) (cells := cSl) (at_box (k8 _ _ g6)) ?_)
      have ls := bu.len
      rw [List.length_map, List.length_take] at ls
      have e0 : (s.len : Int) = (i : Int) := by omega
      rw [e0]
      refine w_mapSet keyNi (gm.keep k8) rfl rfl fun h9 m9 e9 d9 => ?_
      have nm : ∀ {bb : Nat} {cs : Array Value} {e : TypeId}, h8 bb = some (.cells cs e (0, 0)) → ¬ bb = m7 := fun q r => (gm.keep k8).untyped (Typed.of q) r
      have g8' := e9 _ _ (k8 _ _ g8) (nm (k8 _ _ g8))
      have c8' := e9 _ _ c8 (nm c8)
      have g6' := e9 _ _ (k8 _ _ g6) (nm (k8 _ _ g6))
      refine w_load (v := some m7) (cells := cMap) (at_box g8') (w_load (v := u.Parent) (cells := cInt .i64) ?_ (w_lookup keyNi m9 ?_))
      · rw [pt_add]
        exact At.own (l1 := (cTok u).take 4) (l3 := []) c8' rfl
      have hp' : (alook (aset A (z : Int) (i : Int)) u.Parent).getD 0 = placeIn l u.Parent := by
        rw [alook_set]
        rcases bl.ahead wf hn hz hu with ⟨_, rfl⟩ | ⟨q1, q2⟩
        · rw [hp, if_neg (by omega), hA, if_pos rfl]; rfl
        · have hne : u.Parent ≠ -1 := by omega
          unfold placeIn
          rw [if_neg hne]
          split
          · rename_i e; rw [e, idx_of bl.nd hz]; rfl
          · rw [hA, if_neg hne, if_pos q2]; rfl
      rw [hp']
      refine w_store (b := b22) (i := 4) (l1 := (cTok u).take 4) (l2 := [Value.int .i64 u.Parent]) (l3 := []) (t := N_api_Token) (pt_add b22 4) c8' rfl rfl ?_
      generalize eh10 : upd h9 b22 _ = h10
      have c10 : h10 b22 = some (.cells (cTok ⟨u.Cap, u.Rights, placeIn l u.Parent⟩).toArray N_api_Token (0, 0)) := by rw [← eh10]; exact upd_same _ _ _
      have e10 : But (· = b22) h9 h10 := eh10 ▸ .upd rfl
      have d10 : ∀ c, h10 c = none → h9 c = none := fun c q => by rw [← eh10] at q; exact (upd_none.1 q).2
      have n6 : ¬ b6 = b22 := (Typed.of g6').ne (Typed.of c8') (by decide)
      refine w_load (v := s) (cells := cSl) (at_box (e10 _ _ g6' n6)) (w_load (v := ⟨u.Cap, u.Rights, placeIn l u.Parent⟩) (cells := S_api_Token.cells) (at_box c10) ?_)
      refine w_box fun b30 h11 f11 c11 k11 => ?_
      have bu8 := bu.keep k8
      have bu9 := bu8.but e9 fun a ha q => (gm.keep k8).untyped (bu8.typed ⟨a, ha, rfl⟩) q
      have bu10 := bu9.but e10 fun a ha q => bu.has ⟨a, ha, rfl⟩ (by rw [q]; exact f7)
      refine w_append (by_ := 40) tok_len tok_plain rfl (bu10.keep k11) (Buf.one tok_len c11).arr (.inl ?_) fun s12 h12 bu12 e12 fo12 d12 => ?_
      · simp only [List.length_map, List.length_take, List.length_singleton]; omega
      have kA : But (fun c => c = m7) h' h9 := (But.of k8).trans e9 fun _ q => .inl q
      have kB : But (fun c => c = m7) h' h10 := kA.trans e10 fun c q => .inr (by rw [q]; exact f7)
      have kC : But (fun c => c = m7) h' h11 := kB.trans (.of k11 : But (fun c => c = m7) h10 h11) fun _ q => .inl q
      have kD : But (fun c => c = m7 ∨ s.foot c) h' h12 := (kC.mono fun _ q => .inl q).trans (e12.mono fun _ q => .inr q) fun _ q => .inl q
      have dD : ∀ c, h12 c = none → h' c = none := fun c q => k8.fresh (d9 c (d10 c (k11.fresh (d12 c q))))
      have nfoot : ∀ {bb : Nat} {e : TypeId} {cs : Array Value}, h' bb = some (.cells cs e (0, 0)) → e ≠ N_api_Token → ¬ s.foot bb := fun q ne f => (bu.typed f).ne (Typed.of q) (fun z => ne z.symm) rfl
      have nmm : ∀ {bb : Nat} {e : TypeId} {cs : Array Value}, h' bb = some (.cells cs e (0, 0)) → ¬ bb = m7 := fun q r => gm.untyped (Typed.of q) r
      have still : ∀ {bb : Nat} {e : TypeId} {cs : Array Value}, h' bb = some (.cells cs e (0, 0)) → e ≠ N_api_Token → h12 bb = some (.cells cs e (0, 0)) := fun q ne => kD _ _ q fun w => w.elim (nmm q) (nfoot q ne)
      have g6'' := still g6 (by decide)
      refine w_setBox g6'' rfl fun h13 c13 e13 d13 => ?_
      have kE : But (fun c => c = m7 ∨ s.foot c ∨ c = b6) h' h13 := (kD.mono fun _ q => q.imp id .inl).trans (e13.mono fun _ q => .inr (.inr q)) fun _ q => .inl q
      have fo : ∀ c, s12.foot c → s.foot c ∨ h' c = none := fun c q => (fo12 c q).imp id fun w => k8.fresh (d9 c (d10 c (k11.fresh w)))
      have n16 : b1 ≠ b6 := (Typed.of g1).ne (Typed.of g6) (by decide)
      have n86 : b8 ≠ b6 := (Typed.of g8).ne (Typed.of g6) (by decide)
      refine next (fun c => c = b1 ∨ c = b6 ∨ c = b8 ∨ c = m7 ∨ s12.foot c) h13 ⟨s12, aset A (z : Int) (i : Int), fun _ => Iff.rfl, kE _ _ g1 ?_, c13, kE _ _ g8 ?_, ?_, fun w => ?_, ?_⟩ ⟨kE.mono fun c q => (hE c).2 ?_, fun c q => ?_, fun c q => dD c (d13 c q)⟩
      · rintro (q | q | q)
        · exact nmm g1 q
        · exact nfoot g1 (by decide) q
        · exact n16 q
      · rintro (q | q | q)
        · exact nmm g8 q
        · exact nfoot g8 (by decide) q
        · exact n86 q
      · have q10 := m9.but e10 fun q => by rw [q] at gm; obtain ⟨es', cl, e, _⟩ := gm.ex; rw [f7] at e; cases e
        have q12 := (q10.keep k11).but e12 fun q => gm.untyped (bu.typed q) rfl
        exact q12.but e13 fun q => q12.untyped (Typed.of g6'') q.symm
      · rw [alook_set, hA]
        have ht : l.take (i + 1) = l.take i ++ [(z : Int)] := by rw [List.take_add_one, hz]; rfl
        by_cases q : w = (z : Int)
        · subst q
          rw [if_pos rfl, if_neg (by omega), ht, if_pos (by simp), idx_of bl.nd hz]
        · rw [if_neg q, ht]
          simp only [List.mem_append, List.mem_singleton, q, or_false]
      · have := bu12.but e13 fun a ha q => (bu12.typed ⟨a, ha, rfl⟩).ne (Typed.of g6'') (by decide) q
        have e1 : (l.take (i + 1)).map (tokIn es l) = (l.take i).map (tokIn es l) ++ [⟨u.Cap, u.Rights, placeIn l u.Parent⟩] := by
          rw [List.take_add_one, hz, List.map_append, ← tokIn_has hu]; rfl
        rw [e1]; exact this
      · rcases q with q | q | q
        · exact .inr (.inr (.inr (.inl q)))
        · exact .inr (.inr (.inr (.inr q)))
        · exact .inr (.inl q)
      · rcases q with q | q | q | q | q
        · exact .inl ((hE c).2 (.inl q))
        · exact .inl ((hE c).2 (.inr (.inl q)))
        · exact .inl ((hE c).2 (.inr (.inr (.inl q))))
        · exact .inl ((hE c).2 (.inr (.inr (.inr (.inl q)))))
        · exact (fo c q).imp (fun w => (hE c).2 (.inr (.inr (.inr (.inr w))))) id
    · rintro E h7 ⟨s, A, hE, g1, g6, g8, gm, hA, bu⟩ k07 fr
      rw [List.take_length] at bu
      refine w_ifT rfl (w_load (v := s) (cells := cSl) (at_box g6) ?_)
      exact y n t ks l hn ho hp bl s h7 bu k07 fun c q => fr c ((hE c).2 (.inr (.inr (.inr (.inr q)))))
end
end Go.Proofs.YtcclfjhnpeappaaGreat.K
namespace Go.Proofs.YtcclfjhnpeappaaGreat.K
open Go Go.Proofs
def m_ref11_New (a0 : Int) (a1 : Int) (K : (Option Addr × Int) → H → Prop) : H → Prop :=
 mIf ((((decide (a0 < 1)) || (decide (256 < a0))) || (decide (a1 < 0))) || (decide (64 < a1))) (
 K (none, 16)
 ) (
 mMake 193 56 #[(Value.bool false), (Value.int .i64 0), (Value.int .u64 0), (Value.int .u64 0), (Value.int .i64 0), (Value.int .i64 0), (Value.int .i64 0)] a0 a0 fun s1 =>
 mNew 191 #[(Sl.val s1), (Value.int .i64 0)] fun ad2 =>
 K ((some ad2), 0)
 )
def x_ref11_New : Cx Tryz.prog := ⟨tys, [], [], [], mixed⟩
def h_ref11_New : Hint := (.seq .d (.seq (.seq (.reg (.run [3, 7, 11] (.sel 8 11 3584 (.run [15, 19, 23] .nil) (.run [15, 19, 23] .nil) (.run [27] (.sel 12 15 57344 (.run [31, 35, 39] .nil) (.run [31, 35, 39] .nil) (.run [43] (.sel 16 19 917504 (.run [47, 51, 55] .nil) (.run [47, 51, 55] .nil) .nil))))))) .d) .d))
def s_ref11_New : Spec Tryz.prog := mkSpec x_ref11_New 75 Tryz.f75 [(tInt .i64), (tInt .i64)] [tPtr, (tInt .i64)] false h_ref11_New (fun a => m_ref11_New a.1 a.2) (fun a K h => by kernel_rfl) callee75 rfl
def m_ref11_Catalogue_is (a0 : Option Addr) (a1 : Int) (K : (Bool) → H → Prop) : H → Prop :=
 mJoin (fun (s3 : Bool) =>
 mIf s3 (
 mDeref a0 fun ad9 =>
 mLoad cSl (ad9.add 0) fun x10 =>
 mIdx x10 a1 7 fun ad11 =>
 mLoad cBool (ad11.add 0) fun x12 =>
 K x12
 ) (
 K false
 )
 ) (fun j4 =>
 mIf (decide (0 ≤ a1)) (
 mDeref a0 fun ad13 =>
 mLoad cSl (ad13.add 0) fun x14 =>
 j4 (decide (a1 < (x14.len : Int)))
 ) (
 j4 false
 ))
def x_ref11_Catalogue_is : Cx Tryz.prog := ⟨tys, [], [], [], mixed⟩
def h_ref11_Catalogue_is : Hint := (.seq .d (.seq (.reg (.run [3, 7, 11] (.join [.slot 15 tBool] 65280 [] (.split 7 (.run [15, 19, 23, 27, 31, 35, 39, 43] .nil) (.run [15, 19, 23, 27, 31, 35, 39, 43] .nil)) (.run [47] (.split 16 (.run [51, 55, 59, 63, 67, 71, 75, 79, 83, 87] .nil) (.run [51, 55, 59, 63, 67, 71, 75, 79, 83, 87] .nil)))))) .d))
def s_ref11_Catalogue_is : Spec Tryz.prog := mkSpec x_ref11_Catalogue_is 149 Tryz.f149 [tPtr, (tInt .i64)] [tBool] false h_ref11_Catalogue_is (fun a => m_ref11_Catalogue_is a.1 a.2) (fun a K h => by kernel_rfl) callee149 rfl
def m_ref11_Catalogue_At (a0 : Option Addr) (a1 : Int) (K : (S_api_Token × Bool) → H → Prop) : H → Prop :=
 m_ref11_Catalogue_is a0 a1 fun r1 =>
 mIf (!r1) (
 K ((⟨⟨0, ⟨0, 0⟩⟩, 0, 0⟩ : S_api_Token), false)
 ) (
 mDeref a0 fun ad2 =>
 mDeref a0 fun ad3 =>
 mDeref a0 fun ad4 =>
 mLoad cSl (ad2.add 0) fun x5 =>
 mIdx x5 a1 7 fun ad6 =>
 mLoad S_api_Cap.cells (ad6.add 1) fun x7 =>
 mLoad cSl (ad3.add 0) fun x8 =>
 mIdx x8 a1 7 fun ad9 =>
 mLoad (cInt .i64) (ad9.add 4) fun x10 =>
 mLoad cSl (ad4.add 0) fun x11 =>
 mIdx x11 a1 7 fun ad12 =>
 mLoad (cInt .i64) (ad12.add 5) fun x13 =>
 K ((⟨⟨x7.Obj, ⟨x7.Pass.Hi, x7.Pass.Lo⟩⟩, x10, x13⟩ : S_api_Token), true)
 )
def x_ref11_Catalogue_At : Cx Tryz.prog := ⟨tys, [s_ref11_Catalogue_is], [4], [], mixed⟩
def h_ref11_Catalogue_At : Hint := (.seq .d (.seq .d (.seq (.reg (.run [0, 4, 8, 16, 32, 36, 40, 48, 64, 68, 72, 80, 14, 20, 24, 30, 46, 52, 56, 62, 78, 84, 88, 94, 96, 103, 104] .nil)) .d)))
def s_ref11_Catalogue_At : Spec Tryz.prog := mkSpec x_ref11_Catalogue_At 81 Tryz.f81 [tPtr, (tInt .i64)] [S_api_Token.ty, tBool] false h_ref11_Catalogue_At (fun a => m_ref11_Catalogue_At a.1 a.2) (fun a K h => by kernel_rfl) callee81 rfl
def m_ref11_Catalogue_children (a0 : Option Addr) (a1 : Int) (K : (Sl) → H → Prop) : H → Prop :=
 mLoop (fun (rec2 : (Sl × Int) → H → Prop) (s1 : Sl × Int) =>
 mLoop (fun (rec4 : (Int × Int) → H → Prop) (s3 : Int × Int) =>
 mDeref a0 fun ad5 =>
 mLoad cSl (ad5.add 0) fun x6 =>
 mIf (decide (s3.2 < (x6.len : Int))) (
 mDeref a0 fun ad7 =>
 mLoad cSl (ad7.add 0) fun x8 =>
 mIdx x8 s3.2 7 fun ad9 =>
 mLoad cBool (ad9.add 0) fun x10 =>
 mJoin (fun (s15 : Bool) =>
 mJoin (fun (s21 : Bool) =>
 mJoin (fun (s41 : Bool) =>
 mIf s41 (
 rec4 (s3.2, (iAdd .i64 s3.2 1))
 ) (
 rec4 (s3.1, (iAdd .i64 s3.2 1))
 )
 ) (fun j42 =>
 mIf s21 (
 mIf (decide (s3.1 < 0)) (
 j42 true
 ) (
 mDeref a0 fun ad51 =>
 mDeref a0 fun ad52 =>
 mLoad cSl (ad51.add 0) fun x53 =>
 mIdx x53 s3.2 7 fun ad54 =>
 mLoad (cInt .i64) (ad54.add 6) fun x55 =>
 mLoad cSl (ad52.add 0) fun x56 =>
 mIdx x56 s3.1 7 fun ad57 =>
 mLoad (cInt .i64) (ad57.add 6) fun x58 =>
 j42 (decide (x55 < x58))
 )
 ) (
 j42 false
 ))
 ) (fun j22 =>
 mIf s15 (
 mDeref a0 fun ad59 =>
 mLoad cSl (ad59.add 0) fun x60 =>
 mIdx x60 s3.2 7 fun ad61 =>
 mLoad (cInt .i64) (ad61.add 6) fun x62 =>
 j22 (decide (s1.2 < x62))
 ) (
 j22 false
 ))
 ) (fun j16 =>
 mIf x10 (
 mDeref a0 fun ad63 =>
 mLoad cSl (ad63.add 0) fun x64 =>
 mIdx x64 s3.2 7 fun ad65 =>
 mLoad (cInt .i64) (ad65.add 5) fun x66 =>
 j16 (decide (x66 = a1))
 ) (
 j16 false
 ))
 ) (
 mIf (decide (s3.1 < 0)) (
 K s1.1
 ) (
 mApp 3 1 8 #[(Value.int .i64 0)] 1 [(Value.int .i64 s3.1)] s1.1 fun s67 =>
 mDeref a0 fun ad68 =>
 mLoad cSl (ad68.add 0) fun x69 =>
 mIdx x69 s3.1 7 fun ad70 =>
 mLoad (cInt .i64) (ad70.add 6) fun x71 =>
 rec2 (s67, x71)
 )
 )
 ) ((-1), 0)
 ) (Sl.nil, (-1))
def x_ref11_Catalogue_children : Cx Tryz.prog := ⟨tys, [], [79], [], mixed⟩
def h_ref11_Catalogue_children : Hint := (.seq .d (.seq .d (.seq .d (.blk (.loop [.slot 5 tSl, .slot 6 (tInt .i64)] 618970019642690137449562096 [] (.blk (.seq .d (.seq (.seq .d (.blk (.loop [.slot 7 (tInt .i64), .slot 8 (tInt .i64)] 18889465931478580854656 [] (.seq .d (.seq (.blk (.seq (.reg (.run [0, 4, 8, 16, 14, 20, 24, 30, 32] (.join [.slot 37 tBool] 274743689216 [] (.split 26 (.run [36, 40, 44, 52, 68, 50, 56, 60, 66, 72, 76] .nil) (.run [36, 40, 44, 48, 52, 56, 60, 64, 68, 72, 76] .nil)) (.run [80] (.join [.slot 49 tBool] 1125350151028736 [] (.split 38 (.run [84, 88, 92, 100, 116, 98, 104, 108, 114, 120, 124] .nil) (.run [84, 88, 92, 96, 100, 104, 108, 112, 116, 120, 124] .nil)) (.run [128] (.join [.slot 72 tBool] 9444730713939476742144 [] (.split 50 (.run [132, 136, 140] (.split 53 (.run [144, 148, 152, 156, 160, 164, 168, 172, 176, 180, 184, 188, 192, 196, 200, 204, 208, 212, 216] .nil) (.run [144, 148, 152, 160, 176, 180, 184, 192, 158, 164, 168, 174, 190, 196, 200, 206, 208, 212, 216] .nil))) (.run [132, 136, 140, 144, 148, 152, 156, 160, 164, 168, 172, 176, 180, 184, 188, 192, 196, 200, 204, 208, 212, 216] .nil)) .nil))))))) .d)) .d))))) .d))))))))
def s_ref11_Catalogue_children : Spec Tryz.prog := mkSpec x_ref11_Catalogue_children 180 Tryz.f180 [tPtr, (tInt .i64)] [tSl] false h_ref11_Catalogue_children (fun a => m_ref11_Catalogue_children a.1 a.2) (fun a K h => by kernel_rfl) callee180 rfl
def m_ref11_Catalogue_Down_s (self : (Option Addr) → (Int) → ((Sl) → H → Prop) → H → Prop) (a0 : Option Addr) (a1 : Int) (K : (Sl) → H → Prop) : H → Prop :=
 mNew 3 #[(Value.int .i64 a1)] fun ad1 =>
 m_ref11_Catalogue_children a0 a1 fun r2 =>
 mLoop (fun (rec4 : (Sl × Int) → H → Prop) (s3 : Sl × Int) =>
 mIf (decide (s3.2 < (r2.len : Int))) (
 mIdx r2 s3.2 1 fun ad5 =>
 mLoad (cInt .i64) ad5 fun x6 =>
 self a0 x6 fun r7 =>
 mAppend 3 1 8 #[(Value.int .i64 0)] s3.1 r7 fun s8 =>
 rec4 (s8, (iAdd .i64 s3.2 1))
 ) (
 K s3.1
 )
 ) ((⟨some ad1, 1, 1⟩ : Sl), 0)
def m_ref11_Catalogue_Down_n : Nat → (Option Addr) → (Int) → ((Sl) → H → Prop) → H → Prop
 | 0 => fun _ _ _ _ => False
 | n + 1 => m_ref11_Catalogue_Down_s (m_ref11_Catalogue_Down_n n)
def m_ref11_Catalogue_Down (a0 : Option Addr) (a1 : Int) (K : (Sl) → H → Prop) : H → Prop := fun h => ∃ n, m_ref11_Catalogue_Down_n n a0 a1 K h
def r_ref11_Catalogue_Down (m : (Option Addr) → (Int) → ((Sl) → H → Prop) → H → Prop) (ok : ∀ (a : Den [tPtr, (tInt .i64)]) (K : Den [tSl] → HP) (h : H), m a.1 a.2 K h → ACall Tryz.prog 109 (valsD [tPtr, (tInt .i64)] a).toArray h (fun v h' => ∃ r, v = outV (valsD [tSl] r) ∧ K r h') noP) : Spec Tryz.prog := ⟨109, [tPtr, (tInt .i64)], [tSl], false, fun a => m a.1 a.2, ok, ⟨Tryz.f109, callee109⟩⟩
def x_ref11_Catalogue_Down (r : Spec Tryz.prog) : Cx Tryz.prog := ⟨tys, [r, s_ref11_Catalogue_children], [], [], mixed⟩
def h_ref11_Catalogue_Down : Hint := (.seq .d (.seq .d (.seq .d (.seq (.seq .d (.blk (.loop [.slot 5 tSl, .slot 7 (tInt .i64)] 134209696 [] .d))) .d))))
theorem w_ref11_Catalogue_Down (m : (Option Addr) → (Int) → ((Sl) → H → Prop) → H → Prop) (ok : ∀ (a : Den [tPtr, (tInt .i64)]) (K : Den [tSl] → HP) (h : H), m a.1 a.2 K h → ACall Tryz.prog 109 (valsD [tPtr, (tInt .i64)] a).toArray h (fun v h' => ∃ r, v = outV (valsD [tSl] r) ∧ K r h') noP) : ∀ (a : Den [tPtr, (tInt .i64)]) (K : Den [tSl] → HP) (h : H), m_ref11_Catalogue_Down_s m a.1 a.2 K h = wpF (x_ref11_Catalogue_Down (r_ref11_Catalogue_Down m ok)) Tryz.f109 [tPtr, (tInt .i64)] [tSl] h_ref11_Catalogue_Down a K h := fun a K h => by kernel_rfl
theorem k_ref11_Catalogue_Down : ∀ n : Nat, ∀ (a : Den [tPtr, (tInt .i64)]) (K : Den [tSl] → HP) (h : H), m_ref11_Catalogue_Down_n n a.1 a.2 K h → ACall Tryz.prog 109 (valsD [tPtr, (tInt .i64)] a).toArray h (fun v h' => ∃ r, v = outV (valsD [tSl] r) ∧ K r h') noP
  | 0 => fun _ _ _ x => x.elim
  | n + 1 => (mkSpec (x_ref11_Catalogue_Down (r_ref11_Catalogue_Down (m_ref11_Catalogue_Down_n n) (k_ref11_Catalogue_Down n))) 109 Tryz.f109 [tPtr, (tInt .i64)] [tSl] false h_ref11_Catalogue_Down (fun a => m_ref11_Catalogue_Down_s (m_ref11_Catalogue_Down_n n) a.1 a.2) (w_ref11_Catalogue_Down (m_ref11_Catalogue_Down_n n) (k_ref11_Catalogue_Down n)) callee109 rfl).ok
def s_ref11_Catalogue_Down : Spec Tryz.prog := ⟨109, [tPtr, (tInt .i64)], [tSl], false, fun a => m_ref11_Catalogue_Down a.1 a.2, fun a K h ⟨n, x⟩ => k_ref11_Catalogue_Down n a K h x, ⟨Tryz.f109, callee109⟩⟩
def m_ref11_Catalogue_Of (a0 : Option Addr) (a1 : Int) (K : (Sl) → H → Prop) : H → Prop :=
 mLoop (fun (rec2 : (Sl × Int) → H → Prop) (s1 : Sl × Int) =>
 mDeref a0 fun ad3 =>
 mLoad cSl (ad3.add 0) fun x4 =>
 mIf (decide (s1.2 < (x4.len : Int))) (
 mDeref a0 fun ad5 =>
 mLoad cSl (ad5.add 0) fun x6 =>
 mIdx x6 s1.2 7 fun ad7 =>
 mLoad cBool (ad7.add 0) fun x8 =>
 mJoin (fun (s13 : Bool) =>
 mJoin (fun (s19 : Bool) =>
 mIf s19 (
 rec2 (s1.1, (iAdd .i64 s1.2 1))
 ) (
 m_ref11_Catalogue_Down a0 s1.2 fun r21 =>
 mLoop (fun (rec23 : (Sl × Int) → H → Prop) (s22 : Sl × Int) =>
 mIf (decide (s22.2 < (r21.len : Int))) (
 mIdx r21 s22.2 1 fun ad24 =>
 mLoad (cInt .i64) ad24 fun x25 =>
 m_ref11_Catalogue_At a0 x25 fun r26 =>
 mLoop (fun (rec28 : (Int × Int × Int × Int × Int × Int) → H → Prop) (s27 : Int × Int × Int × Int × Int × Int) =>
 mIf (decide (s27.1 < s22.2)) (
 mIdx r21 s27.1 1 fun ad29 =>
 mDeref a0 fun ad30 =>
 mIdx r21 s22.2 1 fun ad31 =>
 mLoad (cInt .i64) ad29 fun x32 =>
 mLoad cSl (ad30.add 0) fun x33 =>
 mLoad (cInt .i64) ad31 fun x34 =>
 mIdx x33 x34 7 fun ad35 =>
 mLoad (cInt .i64) (ad35.add 5) fun x36 =>
 mIf (decide (x32 = x36)) (
 rec28 ((iAdd .i64 s27.1 1), s27.2.1, s27.2.2.1, s27.2.2.2.1, s27.2.2.2.2.1, s27.1)
 ) (
 rec28 ((iAdd .i64 s27.1 1), s27.2.1, s27.2.2.1, s27.2.2.2.1, s27.2.2.2.2.1, s27.2.2.2.2.2)
 )
 ) (
 mApp 82 5 40 #[(Value.int .i64 0), (Value.int .u64 0), (Value.int .u64 0), (Value.int .i64 0), (Value.int .i64 0)] 1 [(Value.int .i64 s27.2.1), (Value.int .u64 s27.2.2.1), (Value.int .u64 s27.2.2.2.1), (Value.int .i64 s27.2.2.2.2.1), (Value.int .i64 s27.2.2.2.2.2)] s22.1 fun s37 =>
 rec23 (s37, (iAdd .i64 s22.2 1))
 )
 ) (0, r26.1.Cap.Obj, r26.1.Cap.Pass.Hi, r26.1.Cap.Pass.Lo, r26.1.Rights, r26.1.Parent)
 ) (
 rec2 (s22.1, (iAdd .i64 s1.2 1))
 )
 ) (s1.1, 0)
 )
 ) (fun j20 =>
 mIf s13 (
 j20 true
 ) (
 mDeref a0 fun ad38 =>
 mLoad cSl (ad38.add 0) fun x39 =>
 mIdx x39 s1.2 7 fun ad40 =>
 mLoad (cInt .i64) (ad40.add 5) fun x41 =>
 j20 (decide (0 ≤ x41))
 ))
 ) (fun j14 =>
 mIf (!x8) (
 j14 true
 ) (
 mDeref a0 fun ad42 =>
 mLoad cSl (ad42.add 0) fun x43 =>
 mIdx x43 s1.2 7 fun ad44 =>
 mLoad (cInt .i64) ((ad44.add 1).add 0) fun x45 =>
 j14 (!decide (x45 = a1))
 ))
 ) (
 K s1.1
 )
 ) (Sl.nil, 0)
def x_ref11_Catalogue_Of : Cx Tryz.prog := ⟨tys, [s_ref11_Catalogue_At, s_ref11_Catalogue_Down], [9, 97], [], mixed⟩
def h_ref11_Catalogue_Of : Hint := (.seq .d (.seq .d (.seq (.seq .d (.blk (.loop [.slot 5 tSl, .slot 6 (tInt .i64)] 633825300114114700748351602656 [] (.seq .d (.seq (.blk (.seq (.seq (.reg (.run [3, 7, 11, 15, 19, 23, 27, 31, 35, 39] (.join [.slot 42 tBool] 8793945538560 [] (.split 30 (.run [43, 47, 51, 55, 59, 63, 67, 71, 75, 79, 83, 87] .nil) (.run [43, 47, 51, 55, 59, 63, 67, 71, 75, 79, 83, 87] .nil)) (.run [91] (.join [.slot 53 tBool] 17996806323437568 [] (.split 43 (.run [95, 99, 103, 107, 111, 115, 119, 123, 127, 131] .nil) (.run [95, 99, 103, 107, 111, 115, 119, 123, 127, 131] .nil)) .nil))))) .d) (.seq .d (.seq .d (.blk (.loop [.slot 5 tSl, .slot 8 (tInt .i64)] 633825300113970585560275750688 [] (.seq .d (.seq (.blk (.seq .d (.seq (.seq .d (.blk (.loop [.slot 11 (tInt .i64), .cell 9 0 (tInt .i64), .cell 9 1 (tInt .u64), .cell 9 2 (tInt .u64), .cell 9 3 (tInt .i64), .cell 9 4 (tInt .i64)] 39614076534765685927126763520 [9] (.seq .d (.seq (.blk (.seq (.reg (.run [0, 4, 8, 16, 20, 24, 32, 36, 40, 14, 30, 46, 48, 52, 58, 60] .nil)) .d)) .d))))) .d))) .d)))))))) .d))))) .d)))
def s_ref11_Catalogue_Of : Spec Tryz.prog := mkSpec x_ref11_Catalogue_Of 36 Tryz.f36 [tPtr, (tInt .i64)] [tSl] false h_ref11_Catalogue_Of (fun a => m_ref11_Catalogue_Of a.1 a.2) (fun a K h => by kernel_rfl) callee36 rfl
def m_ref11_Catalogue_Find (a0 : Option Addr) (a1 : S_api_Cap) (K : (Int × Bool) → H → Prop) : H → Prop :=
 mLoop (fun (rec2 : Int → H → Prop) (s1 : Int) =>
 mDeref a0 fun ad3 =>
 mLoad cSl (ad3.add 0) fun x4 =>
 mIf (decide (s1 < (x4.len : Int))) (
 mDeref a0 fun ad5 =>
 mLoad cSl (ad5.add 0) fun x6 =>
 mIdx x6 s1 7 fun ad7 =>
 mLoad cBool (ad7.add 0) fun x8 =>
 mJoin (fun (s13 : Bool) =>
 mIf s13 (
 K (s1, true)
 ) (
 rec2 (iAdd .i64 s1 1)
 )
 ) (fun j14 =>
 mIf x8 (
 mDeref a0 fun ad15 =>
 mLoad cSl (ad15.add 0) fun x16 =>
 mIdx x16 s1 7 fun ad17 =>
 mLoad S_api_Cap.cells (ad17.add 1) fun x18 =>
 j14 ((decide (x18.Obj = a1.Obj)) && (((decide (x18.Pass.Hi = a1.Pass.Hi)) && ((decide (x18.Pass.Lo = a1.Pass.Lo)) && true)) && true))
 ) (
 j14 false
 ))
 ) (
 K (0, false)
 )
 ) 0
def x_ref11_Catalogue_Find : Cx Tryz.prog := ⟨tys, [], [3], [], mixed⟩
def h_ref11_Catalogue_Find : Hint := (.seq .d (.seq (.seq .d (.blk (.loop [.slot 6 (tInt .i64)] 137438953456 [] (.seq .d (.seq (.blk (.seq (.reg (.run [0, 4, 8, 16, 14, 20, 24, 30, 32] (.join [.slot 35 tBool] 68685922304 [] (.split 24 (.run [36, 40, 44, 52, 69, 50, 56, 60, 66, 72, 76] .nil) (.run [36, 40, 44, 48, 52, 56, 60, 64, 68, 72, 76] .nil)) .nil))) .d)) .d))))) .d))
def s_ref11_Catalogue_Find : Spec Tryz.prog := mkSpec x_ref11_Catalogue_Find 80 Tryz.f80 [tPtr, S_api_Cap.ty] [(tInt .i64), tBool] false h_ref11_Catalogue_Find (fun a => m_ref11_Catalogue_Find a.1 a.2) (fun a K h => by kernel_rfl) callee80 rfl
def m_ref11_Valid (a0 : Int) (K : (Bool) → H → Prop) : H → Prop :=
 K ((decide (1 ≤ a0)) && (decide (a0 ≤ 31)))
def x_ref11_Valid : Cx Tryz.prog := ⟨tys, [], [], [], mixed⟩
def h_ref11_Valid : Hint := (.seq .d (.seq (.reg (.run [3, 7, 11] (.sel 5 8 448 (.run [15, 19, 23] .nil) (.run [15, 19, 23] .nil) (.run [27] .nil)))) .d))
def s_ref11_Valid : Spec Tryz.prog := mkSpec x_ref11_Valid 164 Tryz.f164 [(tInt .i64)] [tBool] true h_ref11_Valid (fun a => m_ref11_Valid a) (fun a K h => by kernel_rfl) callee164 rfl
def m_ref11_Catalogue_In (a0 : Option Addr) (a1 : Int) (K : (Int) → H → Prop) : H → Prop :=
 mLoop (fun (rec2 : (Int × Int) → H → Prop) (s1 : Int × Int) =>
 mDeref a0 fun ad3 =>
 mLoad cSl (ad3.add 0) fun x4 =>
 mIf (decide (s1.2 < (x4.len : Int))) (
 mDeref a0 fun ad5 =>
 mLoad cSl (ad5.add 0) fun x6 =>
 mIdx x6 s1.2 7 fun ad7 =>
 mLoad cBool (ad7.add 0) fun x8 =>
 mJoin (fun (s13 : Bool) =>
 mIf s13 (
 rec2 ((iAdd .i64 s1.1 1), (iAdd .i64 s1.2 1))
 ) (
 rec2 (s1.1, (iAdd .i64 s1.2 1))
 )
 ) (fun j14 =>
 mIf x8 (
 mDeref a0 fun ad15 =>
 mLoad cSl (ad15.add 0) fun x16 =>
 mIdx x16 s1.2 7 fun ad17 =>
 mLoad (cInt .i64) ((ad17.add 1).add 0) fun x18 =>
 j14 (decide (x18 = a1))
 ) (
 j14 false
 ))
 ) (
 K s1.1
 )
 ) (0, 0)
def x_ref11_Catalogue_In : Cx Tryz.prog := ⟨tys, [], [], [], mixed⟩
def h_ref11_Catalogue_In : Hint := (.seq .d (.seq .d (.seq (.seq .d (.blk (.loop [.slot 5 (tInt .i64), .slot 6 (tInt .i64)] 549755813856 [] (.seq .d (.seq (.blk (.seq (.reg (.run [3, 7, 11, 15, 19, 23, 27, 31, 35] (.join [.slot 36 tBool] 137405399040 [] (.split 24 (.run [39, 43, 47, 51, 55, 59, 63, 67, 71, 75, 79, 83] .nil) (.run [39, 43, 47, 51, 55, 59, 63, 67, 71, 75, 79, 83] .nil)) .nil))) .d)) .d))))) .d)))
def s_ref11_Catalogue_In : Spec Tryz.prog := mkSpec x_ref11_Catalogue_In 165 Tryz.f165 [tPtr, (tInt .i64)] [(tInt .i64)] false h_ref11_Catalogue_In (fun a => m_ref11_Catalogue_In a.1 a.2) (fun a K h => by kernel_rfl) callee165 rfl
def m_ref11_Catalogue_put (a0 : Option Addr) (a1 : S_api_Cap) (a2 : Int) (a3 : Int) (K : (Int × Int) → H → Prop) : H → Prop :=
 mLoop (fun (rec2 : Int → H → Prop) (s1 : Int) =>
 mDeref a0 fun ad3 =>
 mLoad cSl (ad3.add 0) fun x4 =>
 mIf (decide (s1 < (x4.len : Int))) (
 mDeref a0 fun ad5 =>
 mLoad cSl (ad5.add 0) fun x6 =>
 mIdx x6 s1 7 fun ad7 =>
 mLoad cBool (ad7.add 0) fun x8 =>
 mIf (!x8) (
 mDeref a0 fun ad9 =>
 mDeref a0 fun ad10 =>
 mLoad cSl (ad9.add 0) fun x11 =>
 mLoad (cInt .i64) (ad10.add 1) fun x12 =>
 mIdx x11 s1 7 fun ad13 =>
 mStore ad13 [(Value.bool true), (Value.int .i64 a1.Obj), (Value.int .u64 a1.Pass.Hi), (Value.int .u64 a1.Pass.Lo), (Value.int .i64 a2), (Value.int .i64 a3), (Value.int .i64 x12)] <|
 mDeref a0 fun ad14 =>
 mLoad (cInt .i64) (ad14.add 1) fun x15 =>
 mDeref a0 fun ad16 =>
 mStore (ad16.add 1) [(Value.int .i64 (iAdd .i64 x15 1))] <|
 K (s1, 0)
 ) (
 rec2 (iAdd .i64 s1 1)
 )
 ) (
 K (0, 10)
 )
 ) 0
def x_ref11_Catalogue_put : Cx Tryz.prog := ⟨tys, [], [5], [], mixed⟩
def h_ref11_Catalogue_put : Hint := (.seq .d (.seq (.seq .d (.blk (.loop [.slot 10 (tInt .i64)] 2251799813684992 [] (.seq .d (.seq (.blk (.seq .d (.cond (.seq (.reg (.run [0, 4, 8, 16, 24, 28, 32, 36, 40, 21, 14, 46, 48, 52, 59] .nil)) .d) .d))) .d))))) .d))
def s_ref11_Catalogue_put : Spec Tryz.prog := mkSpec x_ref11_Catalogue_put 166 Tryz.f166 [tPtr, S_api_Cap.ty, (tInt .i64), (tInt .i64)] [(tInt .i64), (tInt .i64)] false h_ref11_Catalogue_put (fun a => m_ref11_Catalogue_put a.1 a.2.1 a.2.2.1 a.2.2.2) (fun a K h => by kernel_rfl) callee166 rfl
def m_ref11_Catalogue_Root (a0 : Option Addr) (a1 : S_api_Cap) (a2 : Int) (K : (Int × Int) → H → Prop) : H → Prop :=
 mPure (m_ref11_Valid a2) fun r1 =>
 mIf (!r1) (
 K (0, 4)
 ) (
 m_ref11_Catalogue_In a0 a1.Obj fun r2 =>
 mIf (decide (0 < r2)) (
 K (0, 19)
 ) (
 m_ref11_Catalogue_put a0 a1 a2 (-1) fun r3 =>
 K (r3.1, r3.2)
 )
 )
def x_ref11_Catalogue_Root : Cx Tryz.prog := ⟨tys, [s_ref11_Valid, s_ref11_Catalogue_In, s_ref11_Catalogue_put], [4], [], mixed⟩
def h_ref11_Catalogue_Root : Hint := .d
def s_ref11_Catalogue_Root : Spec Tryz.prog := mkSpec x_ref11_Catalogue_Root 91 Tryz.f91 [tPtr, S_api_Cap.ty, (tInt .i64)] [(tInt .i64), (tInt .i64)] false h_ref11_Catalogue_Root (fun a => m_ref11_Catalogue_Root a.1 a.2.1 a.2.2) (fun a K h => by kernel_rfl) callee91 rfl
def m_ref11_Part (a0 : Int) (a1 : Int) (K : (Bool) → H → Prop) : H → Prop :=
 mPure (m_ref11_Valid a0) fun r1 =>
 K (r1 && (decide ((iOr .i64 a0 a1) = a1)))
def x_ref11_Part : Cx Tryz.prog := ⟨tys, [s_ref11_Valid], [], [], mixed⟩
def h_ref11_Part : Hint := (.seq .d (.seq (.reg (.run [3, 7, 11] (.sel 7 13 16128 (.run [15, 19, 23, 27, 31, 35] .nil) (.run [15, 19, 23, 27, 31, 35] .nil) (.run [39] .nil)))) .d))
def s_ref11_Part : Spec Tryz.prog := mkSpec x_ref11_Part 169 Tryz.f169 [(tInt .i64), (tInt .i64)] [tBool] true h_ref11_Part (fun a => m_ref11_Part a.1 a.2) (fun a K h => by kernel_rfl) callee169 rfl
def m_ref11_Catalogue_Child (a0 : Option Addr) (a1 : Int) (a2 : S_api_Cap) (a3 : Int) (K : (Int × Int) → H → Prop) : H → Prop :=
 m_ref11_Catalogue_is a0 a1 fun r1 =>
 mIf (!r1) (
 K (0, 20)
 ) (
 mDeref a0 fun ad2 =>
 mLoad cSl (ad2.add 0) fun x3 =>
 mIdx x3 a1 7 fun ad4 =>
 mLoad (cInt .i64) ((ad4.add 1).add 0) fun x5 =>
 mIf (!decide (x5 = a2.Obj)) (
 K (0, 3)
 ) (
 mDeref a0 fun ad6 =>
 mLoad cSl (ad6.add 0) fun x7 =>
 mIdx x7 a1 7 fun ad8 =>
 mLoad (cInt .i64) (ad8.add 4) fun x9 =>
 mPure (m_ref11_Part a3 x9) fun r10 =>
 mIf (!r10) (
 K (0, 4)
 ) (
 m_ref11_Catalogue_Find a0 a2 fun r11 =>
 mIf r11.2 (
 K (0, 19)
 ) (
 m_ref11_Catalogue_put a0 a2 a3 a1 fun r12 =>
 K (r12.1, r12.2)
 )
 )
 )
 )
def x_ref11_Catalogue_Child : Cx Tryz.prog := ⟨tys, [s_ref11_Catalogue_Find, s_ref11_Catalogue_is, s_ref11_Catalogue_put, s_ref11_Part], [6], [], mixed⟩
def h_ref11_Catalogue_Child : Hint := (.seq .d (.seq .d (.seq (.seq (.reg (.run [0, 4, 8, 16, 36, 41, 14, 20, 24, 28, 34, 44] .nil)) .d) .d)))
def s_ref11_Catalogue_Child : Spec Tryz.prog := mkSpec x_ref11_Catalogue_Child 96 Tryz.f96 [tPtr, (tInt .i64), S_api_Cap.ty, (tInt .i64)] [(tInt .i64), (tInt .i64)] false h_ref11_Catalogue_Child (fun a => m_ref11_Catalogue_Child a.1 a.2.1 a.2.2.1 a.2.2.2) (fun a K h => by kernel_rfl) callee96 rfl
def m_ref11_Catalogue_Count (a0 : Option Addr) (K : (Int) → H → Prop) : H → Prop :=
 mLoop (fun (rec2 : (Int × Int) → H → Prop) (s1 : Int × Int) =>
 mDeref a0 fun ad3 =>
 mLoad cSl (ad3.add 0) fun x4 =>
 mIf (decide (s1.2 < (x4.len : Int))) (
 mDeref a0 fun ad5 =>
 mLoad cSl (ad5.add 0) fun x6 =>
 mIdx x6 s1.2 7 fun ad7 =>
 mLoad cBool (ad7.add 0) fun x8 =>
 mIf x8 (
 rec2 ((iAdd .i64 s1.1 1), (iAdd .i64 s1.2 1))
 ) (
 rec2 (s1.1, (iAdd .i64 s1.2 1))
 )
 ) (
 K s1.1
 )
 ) (0, 0)
def x_ref11_Catalogue_Count : Cx Tryz.prog := ⟨tys, [], [], [], mixed⟩
def h_ref11_Catalogue_Count : Hint := (.seq .d (.seq .d (.seq (.seq .d (.blk (.loop [.slot 3 (tInt .i64), .slot 4 (tInt .i64)] 16777208 [] .d))) .d)))
def s_ref11_Catalogue_Count : Spec Tryz.prog := mkSpec x_ref11_Catalogue_Count 99 Tryz.f99 [tPtr] [(tInt .i64)] false h_ref11_Catalogue_Count (fun a => m_ref11_Catalogue_Count a) (fun a K h => by kernel_rfl) callee99 rfl
end Go.Proofs.YtcclfjhnpeappaaGreat.K
namespace Go.Proofs.YtcclfjhnpeappaaGreat.K
open Go
abbrev cPl := S_ref11_Place.cells
theorem rp_len : ∀ x, (cPl x).length = 7 := fun _ => rfl
def PlOk (q : S_ref11_Place) : En → Prop
  | none => q.Live = false
  | some (t, _) => q.Live = true ∧ q.Cap = t.Cap ∧ q.Rights = t.Rights ∧ q.Parent = t.Parent
def whenP (pl : List S_ref11_Place) (z : Int) : Int := ((pl[z.toNat]?).map S_ref11_Place.When).getD 0
structure RefRel (es : List En) (pl : List S_ref11_Place) (ev : Nat) : Prop where
  len : pl.length = es.length
  ent : ∀ (i : Nat) q e, pl[i]? = some q → es[i]? = some e → PlOk q e
  when : ∀ i t ks, Has es i t ks → 0 ≤ whenP pl (i : Int) ∧ whenP pl (i : Int) < ev
  kids : ∀ i t ks, Has es i t ks → ks.Pairwise fun a b => whenP pl a < whenP pl b
structure RefAt (h : H) (p : Nat) (s : Sl) (pl : List S_ref11_Place) (ev : Nat) : Prop where
  cell : h p = some (.cells (S_ref11_Catalogue.cells ⟨s, ev⟩).toArray N_ref11_Catalogue (0, 0))
  buf : Buf cPl 7 N_ref11_Place h s pl
structure Ref (h : H) (p : Nat) (ev : Nat) (G : Nat → Prop) (es : List En) : Prop where
  ex : ∃ s pl, RefAt h p s pl ev ∧ RefRel es pl ev ∧ ∀ c, G c ↔ c = p ∨ s.foot c
  wf : CWF es
theorem RefRel.place {es : List En} {pl ev} (x : RefRel es pl ev) {i : Nat} (hi : i < es.length) : ∃ (q : S_ref11_Place) (e : En), pl[i]? = some q ∧ es[i]? = some e ∧ PlOk q e := by
  have h1 := List.getElem?_eq_getElem (l := pl) (i := i) (by have := x.len; omega)
  have h2 := List.getElem?_eq_getElem (l := es) (i := i) hi
  exact ⟨_, _, h1, h2, x.ent _ _ _ h1 h2⟩
theorem RefRel.has {es : List En} {pl ev} (x : RefRel es pl ev) {i : Nat} {t ks} (h : Has es i t ks) : ∃ q : S_ref11_Place, pl[i]? = some q ∧ q.Live = true ∧ q.Cap = t.Cap ∧ q.Rights = t.Rights ∧ q.Parent = t.Parent := by
  obtain ⟨q, e, h1, h2, ok⟩ := x.place h.lt
  unfold Has at h
  rw [h2] at h
  cases h
  exact ⟨q, h1, ok⟩
theorem RefRel.live {es : List En} {pl ev} (x : RefRel es pl ev) {i : Nat} {q : S_ref11_Place} (h : pl[i]? = some q) (e : q.Live = true) : ∃ (t : S_api_Token) (ks : List Int), Has es i t ks ∧ q.Cap = t.Cap ∧ q.Rights = t.Rights ∧ q.Parent = t.Parent := by
  obtain ⟨q', o, h1, h2, ok⟩ := x.place (by have := lt_of_get h; have := x.len; omega : i < es.length)
  rw [h] at h1; cases h1
  cases o with
  | none => have : q.Live = false := ok; rw [this] at e; cases e
  | some v => obtain ⟨t, ks⟩ := v; exact ⟨t, ks, h2, ok.2⟩
theorem RefRel.dead {es : List En} {pl ev} (x : RefRel es pl ev) {i : Nat} {q : S_ref11_Place} (h : pl[i]? = some q) (e : q.Live = false) : es[i]? = some none := by
  obtain ⟨q', o, h1, h2, ok⟩ := x.place (by have := lt_of_get h; have := x.len; omega : i < es.length)
  rw [h] at h1; cases h1
  cases o with
  | none => exact h2
  | some v => obtain ⟨t, ks⟩ := v; have := ok.1; rw [e] at this; cases this
theorem capsG_append : ∀ (a b : List En) (k : Nat), capsG k (a ++ b) = capsG k a ++ capsG (k + a.length) b := by
  intro a
  induction a with
  | nil => intro b k; rfl
  | cons e r ih =>
    intro b k
    have := ih b (k + 1)
    rw [List.length_cons, show k + (r.length + 1) = k + 1 + r.length by omega]
    cases e with
    | none => exact this
    | some p =>
      obtain ⟨u, us⟩ := p
      rw [List.cons_append, capsG, capsG, this]; rfl
section
variable {h : H} {p : Nat} {s : Sl} {pl : List S_ref11_Place} {ev : Nat} {es : List En}
theorem RefAt.f0 (x : RefAt h p s pl ev) : At h ((⟨p, 0, none⟩ : Addr).add 0) (cSl s) := by
  rw [pt_add]; exact At.own (l1 := []) (l3 := [Value.int .i64 ev]) x.cell rfl
theorem RefAt.f1 (x : RefAt h p s pl ev) : At h ((⟨p, 0, none⟩ : Addr).add 1) (cInt .i64 (ev : Int)) := by
  rw [pt_add]; exact At.own (l1 := [Sl.val s]) (l3 := []) x.cell rfl
theorem RefAt.apart (x : RefAt h p s pl ev) : ¬ s.foot p := fun f => (x.buf.typed f).ne (Typed.of x.cell) (by decide) rfl
theorem RefAt.keep {h' : H} (x : RefAt h p s pl ev) (k : Keeps h h') : RefAt h' p s pl ev := ⟨k _ _ x.cell, x.buf.keep k⟩
theorem RefAt.but {h' : H} {E : Nat → Prop} (x : RefAt h p s pl ev) (k : But E h h') (f : ∀ c, E c → c ≠ p ∧ ¬ s.foot c) : RefAt h' p s pl ev := ⟨k _ _ x.cell fun q => (f _ q).1 rfl, x.buf.but k fun a ha q => (f _ q).2 ⟨a, ha, rfl⟩⟩
end
section
variable {h : H} {p : Nat} {ev : Nat} {G : Nat → Prop} {es : List En}
theorem Ref.keep {h' : H} (x : Ref h p ev G es) (k : Keeps h h') : Ref h' p ev G es := by
  obtain ⟨s, pl, a, b, c⟩ := x.ex
  exact ⟨⟨s, pl, a.keep k, b, c⟩, x.wf⟩
theorem Ref.but {h' : H} {E : Nat → Prop} (x : Ref h p ev G es) (k : But E h h') (f : ∀ c, E c → ¬ G c) : Ref h' p ev G es := by
  obtain ⟨s, pl, a, b, c⟩ := x.ex
  exact ⟨⟨s, pl, a.but k fun z e => ⟨fun q => f z e ((c z).2 (.inl q)), fun q => f z e ((c z).2 (.inr q))⟩, b, c⟩, x.wf⟩
theorem Ref.has (x : Ref h p ev G es) {c : Nat} (f : G c) : h c ≠ none := by
  obtain ⟨s, pl, a, b, d⟩ := x.ex
  rcases (d c).1 f with q | q
  · rw [q, a.cell]; exact fun z => by cases z
  · exact a.buf.has q
theorem t_RNew {a0 a1 : Int} {K : Option Addr × Int → H → Prop} (bad : (a0 < 1 ∨ 256 < a0 ∨ a1 < 0 ∨ 64 < a1) → K (none, 16) h)
    (good : 0 ≤ a1 → a1 ≤ 64 → ∀ n : Nat, a0 = n → 1 ≤ n → n ≤ 256 → ∀ p G h', Ref h' p 0 G (List.replicate n none) → Keeps h h' → (∀ c, G c → h c = none) → K (some ⟨p, 0, none⟩, 0) h') : m_ref11_New a0 a1 K h := by
  unfold m_ref11_New
  refine w_if (fun c => bad ?_) fun c => ?_
  · simp only [Bool.or_eq_true, decide_eq_true_eq] at c; omega
  simp only [Bool.or_eq_false_iff, decide_eq_false_iff_not] at c
  obtain ⟨n, rfl⟩ : ∃ n : Nat, a0 = n := ⟨a0.toNat, by omega⟩
  refine w_make rp_len ⟨false, ⟨0, ⟨0, 0⟩⟩, 0, 0, 0⟩ rfl rfl rfl (by omega) (by omega) fun s h1 bu k1 f1 _ => w_box fun p h2 f2 c2 k2 => ?_
  have no : ∀ {i t ks}, ¬ Has (List.replicate n none) i t ks := fun h => by
    have := List.eq_of_mem_replicate (List.mem_of_getElem? h)
    cases this
  refine good (by omega) (by omega) n rfl (by omega) (by omega) p _ h2 ⟨⟨s, _, ⟨c2, bu.keep k2⟩, ⟨by simp, fun i q e h1 h2 => ?_, fun i t ks h => (no h).elim, fun i t ks h => (no h).elim⟩, fun _ => Iff.rfl⟩, CWF.empty (by omega) (by omega)⟩ (k1.trans k2) fun c f => ?_
  · obtain rfl := List.eq_of_mem_replicate (List.mem_of_getElem? h1)
    obtain rfl := List.eq_of_mem_replicate (List.mem_of_getElem? h2)
    rfl
  · rcases f with rfl | f
    · exact k1.fresh f2
    · exact f1 c f
theorem w_RValid {r : Int} {k : Bool → H → Prop} (y : k (decide (1 ≤ r ∧ r ≤ 31)) h) : mPure (m_ref11_Valid r) k h := by
  refine w_pure _ (fun _ _ z => ?_) y
  unfold m_ref11_Valid
  rw [Bool.decide_and] at z
  exact z
theorem part_or : ∀ a b : Fin 32, decide (iOr .i64 (a.val : Int) (b.val : Int) = (b.val : Int)) = decide (iAnd .i64 (a.val : Int) (b.val : Int) = (a.val : Int)) := by decide +kernel
theorem w_RPart {r u : Int} (hu : 1 ≤ u ∧ u ≤ 31) {k : Bool → H → Prop} (y : k (partOf r u) h) : mPure (m_ref11_Part r u) k h := by
  refine w_pure _ (fun _ _ z => ?_) y
  unfold m_ref11_Part
  refine w_RValid ?_
  have e : partOf r u = (decide (1 ≤ r ∧ r ≤ 31) && decide (iOr .i64 r u = u)) := by
    unfold partOf
    rw [decide_eq_true hu, Bool.true_and]
    by_cases hr : 1 ≤ r ∧ r ≤ 31
    · have := part_or ⟨r.toNat, by omega⟩ ⟨u.toNat, by omega⟩
      simp only [Int.toNat_of_nonneg (by omega : 0 ≤ r), Int.toNat_of_nonneg (by omega : 0 ≤ u)] at this
      rw [this]
    · rw [decide_eq_false hr, Bool.false_and, Bool.false_and]
  rw [e] at z
  exact z
theorem t_RIn (x : Ref h p ev G es) {o : Int} {K : Int → H → Prop} (y : K (cnt es o : Nat) h) : m_ref11_Catalogue_In (some ⟨p, 0, none⟩) o K h := by
  obtain ⟨s, pl, a, b, _⟩ := x.ex
  have hw := x.wf.len
  have hl := a.buf.len
  have hb := b.len
  unfold m_ref11_Catalogue_In
  refine w_for es.length (fun i (z : Int × Int) h' => h = h' ∧ z = ((cnt (es.take i) o : Int), (i : Int))) ?_ ⟨rfl, rfl⟩
  rintro rec i z h' hi ⟨rfl, rfl⟩ more
  have hcl := cnt_le (es.take i) o
  rw [List.length_take] at hcl
  refine w_deref (w_load a.f0 (w_if' (fun c => ?_) fun c => ?_))
  · have c : (i : Int) < (s.len : Int) := c
    have hil : i < es.length := by omega
    obtain ⟨q, e, h1, h2, ok⟩ := b.place hil
    refine w_deref (w_load a.f0 (w_field rp_len a.buf.arr h1 rfl (v' := q.Live) (cells' := cBool) (l1 := []) (l3 := (cPl q).drop 1) rfl rfl ?_))
    have e1 : cnt (es.take (i + 1)) o = cnt (es.take i) o + if (q.Live && decide (q.Cap.Obj = o)) = true then 1 else 0 := by
      unfold cnt
      rw [List.take_add_one, h2, capsG_append, List.countP_append]
      congr 1
      cases e with
      | none => have : q.Live = false := ok; rw [this]; rfl
      | some v =>
        obtain ⟨t, ks⟩ := v
        rw [ok.1, ok.2.1]
        show List.countP _ [(t.Cap, _)] = _
        rw [List.countP_cons]; simp
    refine w_joinV (q.Live && decide (q.Cap.Obj = o)) (fun j hj => ?_) ?_
    · refine w_if (fun e => ?_) fun e => ?_
      · refine w_deref (w_load a.f0 (w_idx rp_len a.buf.arr h1 rfl fun ad _ ha => w_load (v := q.Cap.Obj) (cells := cInt .i64) (At.head (l2 := ((cPl q).drop 2)) ?_) ?_))
        · rw [show (ad.add 1).add 0 = ad.add 1 from add_zero _]
          exact At.sub (l1 := (cPl q).take 1) (l3 := []) (by rw [List.append_nil]; exact ha) rfl
        · rw [e, Bool.true_and] at hj; exact hj
      · rw [e] at hj; exact hj
    · refine w_if (fun e => ?_) fun e => ?_
      · rw [e, if_pos rfl] at e1
        refine more _ _ hil ⟨rfl, ?_⟩
        show (iAdd .i64 _ 1, iAdd .i64 _ 1) = _
        rw [ia1 _ (by omega), ia1 _ (by omega), e1]
      · rw [e, if_neg (by decide)] at e1
        refine more _ _ hil ⟨rfl, ?_⟩
        show (_, iAdd .i64 _ 1) = _
        rw [ia1 _ (by omega), e1]; rfl
  · have c : ¬ (i : Int) < (s.len : Int) := c
    obtain rfl : i = es.length := by omega
    rw [List.take_length]
    exact y
theorem t_RCount (x : Ref h p ev G es) {K : Int → H → Prop} (y : K ((capsG 0 es).length : Nat) h) : m_ref11_Catalogue_Count (some ⟨p, 0, none⟩) K h := by
  obtain ⟨s, pl, a, b, _⟩ := x.ex
  have hw := x.wf.len
  have hl := a.buf.len
  have hb := b.len
  unfold m_ref11_Catalogue_Count
  refine w_for es.length (fun i (z : Int × Int) h' => h = h' ∧ z = (((capsG 0 (es.take i)).length : Int), (i : Int))) ?_ ⟨rfl, rfl⟩
  rintro rec i z h' hi ⟨rfl, rfl⟩ more
  have hcl := capsG_le (es.take i) 0
  rw [List.length_take] at hcl
  refine w_deref (w_load a.f0 (w_if' (fun c => ?_) fun c => ?_))
  · have c : (i : Int) < (s.len : Int) := c
    have hil : i < es.length := by omega
    obtain ⟨q, e, h1, h2, ok⟩ := b.place hil
    refine w_deref (w_load a.f0 (w_field rp_len a.buf.arr h1 rfl (v' := q.Live) (cells' := cBool) (l1 := []) (l3 := (cPl q).drop 1) rfl rfl ?_))
    have e1 : (capsG 0 (es.take (i + 1))).length = (capsG 0 (es.take i)).length + if q.Live = true then 1 else 0 := by
      rw [List.take_add_one, h2, capsG_append, List.length_append]
      congr 1
      cases e with
      | none => have : q.Live = false := ok; rw [this]; rfl
      | some v =>
        obtain ⟨t, ks⟩ := v
        rw [ok.1]; rfl
    refine w_if (fun e => ?_) fun e => ?_
    · rw [e, if_pos rfl] at e1
      refine more _ _ hil ⟨rfl, ?_⟩
      show (iAdd .i64 _ 1, iAdd .i64 _ 1) = _
      rw [ia1 _ (by omega), ia1 _ (by omega), e1]
    · rw [e, if_neg (by decide)] at e1
      refine more _ _ hil ⟨rfl, ?_⟩
      show (_, iAdd .i64 _ 1) = _
      rw [ia1 _ (by omega), e1]; rfl
  · have c : ¬ (i : Int) < (s.len : Int) := c
    obtain rfl : i = es.length := by omega
    rw [List.take_length]
    exact y
theorem t_RFind (x : Ref h p ev G es) {c : S_api_Cap} {K : Int × Bool → H → Prop} (y : K (((findE es c).map fun n : Nat => (n : Int)).getD 0, (findE es c).isSome) h) : m_ref11_Catalogue_Find (some ⟨p, 0, none⟩) c K h := by
  obtain ⟨s, pl, a, b, _⟩ := x.ex
  have hw := x.wf.len
  have hl := a.buf.len
  have hb := b.len
  unfold m_ref11_Catalogue_Find
  refine w_for es.length (fun i (z : Int) h' => h = h' ∧ z = (i : Int) ∧ ∀ j, j < i → ∀ e, es[j]? = some e → isCap c e = false) ?_ ⟨rfl, rfl, fun j hj => absurd hj (Nat.not_lt_zero _)⟩
  rintro rec i z h' hi ⟨rfl, rfl, hno⟩ more
  refine w_deref (w_load a.f0 (w_if' (fun d => ?_) fun d => ?_))
  · have d : (i : Int) < (s.len : Int) := d
    have hil : i < es.length := by omega
    obtain ⟨q, e, h1, h2, ok⟩ := b.place hil
    refine w_deref (w_load a.f0 (w_field rp_len a.buf.arr h1 rfl (v' := q.Live) (cells' := cBool) (l1 := []) (l3 := (cPl q).drop 1) rfl rfl ?_))
    have e1 : (q.Live && decide (q.Cap = c)) = isCap c e := by
      cases e with
      | none => have : q.Live = false := ok; rw [this]; rfl
      | some v =>
        obtain ⟨t, ks⟩ := v
        rw [ok.1, ok.2.1]; rfl
    refine w_joinV (isCap c e) (fun j hj => ?_) ?_
    · rw [← e1] at hj
      refine w_if (fun e => ?_) fun e => ?_
      · refine w_deref (w_load a.f0 (w_field rp_len a.buf.arr h1 rfl (v' := q.Cap) (cells' := S_api_Cap.cells) (l1 := (cPl q).take 1) (l3 := (cPl q).drop 4) rfl rfl ?_))
        rw [cap_eqB]
        rw [e, Bool.true_and] at hj; exact hj
      · rw [e] at hj; exact hj
    · refine w_if (fun e' => ?_) fun e' => ?_
      · have : findE es c = some i := by
          unfold findE
          rw [List.findIdx?_eq_some_iff_getElem]
          refine ⟨hil, by rw [List.getElem?_eq_getElem hil] at h2; cases h2; exact e', fun j hj => ?_⟩
          rw [hno j hj _ (List.getElem?_eq_getElem (by omega))]; decide
        rw [this] at y
        exact y
      · refine more _ _ hil ⟨rfl, ia1 i (by omega), fun j hj e'' he => ?_⟩
        by_cases z : j = i
        · subst z; rw [h2] at he; cases he; exact e'
        · exact hno j (by omega) _ he
  · have d : ¬ (i : Int) < (s.len : Int) := d
    have : findE es c = none := by
      unfold findE
      rw [List.findIdx?_eq_none_iff]
      intro e he
      obtain ⟨j, hj⟩ := List.mem_iff_getElem?.1 he
      exact hno j (by have := lt_of_get hj; omega) e hj
    rw [this] at y
    exact y
theorem t_Ris (x : Ref h p ev G es) {i : Int} {K : Bool → H → Prop} (y : K (atE es i).isSome h) : m_ref11_Catalogue_is (some ⟨p, 0, none⟩) i K h := by
  obtain ⟨s, pl, a, b, _⟩ := x.ex
  have hw := x.wf.len
  have hl := a.buf.len
  have hb := b.len
  unfold m_ref11_Catalogue_is
  refine w_joinV (decide (0 ≤ i ∧ i < (es.length : Int))) (fun j hj => ?_) ?_
  · refine w_if' (fun q => w_deref (w_load a.f0 ?_)) fun q => ?_
    · have e : decide (i < (s.len : Int)) = decide (0 ≤ i ∧ i < (es.length : Int)) := by rw [decide_eq_decide]; constructor <;> omega
      rw [e]; exact hj
    · rw [decide_eq_false (by omega)] at hj; exact hj
  · refine w_if' (fun q => ?_) fun q => ?_
    · obtain ⟨n, rfl⟩ : ∃ n : Nat, i = n := ⟨i.toNat, by omega⟩
      have hn : n < es.length := by omega
      obtain ⟨q, e, h1, h2, ok⟩ := b.place hn
      refine w_deref (w_load a.f0 (w_field rp_len a.buf.arr h1 rfl (v' := q.Live) (cells' := cBool) (l1 := []) (l3 := (cPl q).drop 1) rfl rfl ?_))
      rw [atE_nat, h2] at y
      cases e with
      | none => have : q.Live = false := ok; rw [this]; exact y
      | some v => rw [ok.1]; exact y
    · have e : atE es i = none := by
        unfold atE
        split
        · rw [List.getElem?_eq_none (by omega)]; rfl
        · rfl
      rw [e] at y; exact y
theorem t_RAt (x : Ref h p ev G es) {i : Int} {K : S_api_Token × Bool → H → Prop} (y : K (atOut es i) h) : m_ref11_Catalogue_At (some ⟨p, 0, none⟩) i K h := by
  unfold m_ref11_Catalogue_At
  refine t_Ris x ?_
  obtain ⟨s, pl, a, b, _⟩ := x.ex
  unfold atOut at y
  cases e : atE es i with
  | none =>
    rw [e] at y
    exact w_ifT rfl y
  | some v =>
    obtain ⟨t, ks⟩ := v
    rw [e] at y
    obtain ⟨n, rfl, hn⟩ := atE_has.1 e
    obtain ⟨q, h1, _, e1, e2, e3⟩ := b.has hn
    refine w_ifF rfl (w_deref (w_deref (w_deref (w_load a.f0 (w_field rp_len a.buf.arr h1 rfl (v' := q.Cap) (cells' := S_api_Cap.cells) (l1 := (cPl q).take 1) (l3 := (cPl q).drop 4) rfl rfl (w_load a.f0 (w_field rp_len a.buf.arr h1 rfl (v' := q.Rights) (cells' := cInt .i64) (l1 := (cPl q).take 4) (l3 := (cPl q).drop 5) rfl rfl (w_load a.f0 (w_field rp_len a.buf.arr h1 rfl (v' := q.Parent) (cells' := cInt .i64) (l1 := (cPl q).take 5) (l3 := (cPl q).drop 6) rfl rfl ?_)))))))))
    rw [e1, e2, e3]
    exact y
end
theorem whenP_nat (pl : List S_ref11_Place) (i : Nat) : whenP pl (i : Int) = ((pl[i]?).map S_ref11_Place.When).getD 0 := by
  unfold whenP; rw [Int.toNat_natCast]
theorem whenP_set {pl : List S_ref11_Place} {n : Nat} {X : S_ref11_Place} (hn : n < pl.length) (i : Nat) : whenP (pl.set n X) (i : Int) = if i = n then X.When else whenP pl (i : Int) := by
  rw [whenP_nat, whenP_nat, List.getElem?_set]
  by_cases e : n = i
  · subst e; rw [if_pos rfl, if_pos hn, if_pos rfl]; rfl
  · rw [if_neg e, if_neg (fun z => e z.symm)]
theorem RefRel.root {es : List En} (w : CWF es) {pl ev} (x : RefRel es pl ev) {n : Nat} (hn : es[n]? = some none) {c : S_api_Cap} {r : Int} : RefRel (rootE es n ⟨c, r, -1⟩) (pl.set n ⟨true, c, r, -1, ev⟩) (ev + 1) := by
  have hlt := lt_of_get hn
  have hlp : n < pl.length := by rw [x.len]; exact hlt
  have H := fun {i t ks} => has_set (es := es) (n := n) hlt (e := some (⟨c, r, -1⟩, [])) (i := i) (t := t) (ks := ks)
  have neN : ∀ {i t ks}, Has es i t ks → i ≠ n := fun h e => by subst e; unfold Has at h; rw [hn] at h; cases h
  refine ⟨by unfold rootE; rw [List.length_set, List.length_set]; exact x.len, fun i q e h1 h2 => ?_, fun i t ks h => ?_, fun i t ks h => ?_⟩
  · unfold rootE at h2
    rw [List.getElem?_set] at h1 h2
    by_cases z : n = i
    · rw [if_pos z, if_pos hlp] at h1
      rw [if_pos z, if_pos hlt] at h2
      cases h1; cases h2; exact ⟨rfl, rfl, rfl, rfl⟩
    · rw [if_neg z] at h1 h2
      exact x.ent _ _ _ h1 h2
  · rw [whenP_set hlp]
    rcases H.1 h with ⟨rfl, _⟩ | ⟨z, h⟩
    · rw [if_pos rfl]; show 0 ≤ (ev : Int) ∧ (ev : Int) < ((ev + 1 : Nat) : Int); omega
    · rw [if_neg z]; have := x.when _ _ _ h; omega
  · rcases H.1 h with ⟨rfl, z⟩ | ⟨z, h⟩
    · cases z; exact List.Pairwise.nil
    · refine (x.kids _ _ _ h).imp_of_mem fun {a b} ha hb hab => ?_
      obtain ⟨j, u, us, rfl, hj, _⟩ := w.down _ _ _ h _ ha
      obtain ⟨j', u', us', rfl, hj', _⟩ := w.down _ _ _ h _ hb
      rw [whenP_set hlp, whenP_set hlp, if_neg (neN hj), if_neg (neN hj')]; exact hab
theorem RefRel.child {es : List En} (w : CWF es) {pl ev} (x : RefRel es pl ev) {q n : Nat} {u us} (hq : Has es q u us) (hn : es[n]? = some none) {c : S_api_Cap} {r : Int} : RefRel (childE es q n ⟨c, r, (q : Int)⟩) (pl.set n ⟨true, c, r, (q : Int), ev⟩) (ev + 1) := by
  have hlt := lt_of_get hn
  have hlp : n < pl.length := by rw [x.len]; exact hlt
  have H := fun {i v vs} => has_child (t := ⟨c, r, (q : Int)⟩) (i := i) (v := v) (vs := vs) hq hn
  have neN : ∀ {i t ks}, Has es i t ks → i ≠ n := fun h e => by subst e; unfold Has at h; rw [hn] at h; cases h
  have e1 : (childE es q n ⟨c, r, (q : Int)⟩).length = es.length := by unfold childE; rw [hq]; simp only [List.length_set]
  have pw : ∀ {i t ks}, Has es i t ks → ks.Pairwise fun a b => whenP (pl.set n ⟨true, c, r, (q : Int), ev⟩) a < whenP (pl.set n ⟨true, c, r, (q : Int), ev⟩) b := fun {i t ks} h => by
    refine (x.kids _ _ _ h).imp_of_mem fun {a b} ha hb hab => ?_
    obtain ⟨j, u, us, rfl, hj, _⟩ := w.down _ _ _ h _ ha
    obtain ⟨j', u', us', rfl, hj', _⟩ := w.down _ _ _ h _ hb
    rw [whenP_set hlp, whenP_set hlp, if_neg (neN hj), if_neg (neN hj')]; exact hab
  refine ⟨by rw [e1, List.length_set]; exact x.len, fun i p e h1 h2 => ?_, fun i t ks h => ?_, fun i t ks h => ?_⟩
  · rw [List.getElem?_set] at h1
    cases e with
    | none =>
      have hi : i < es.length := by have := lt_of_get h2; omega
      have hni : i ≠ n := fun z => by
        have := (H (i := i) (v := ⟨c, r, (q : Int)⟩) (vs := [])).2 (.inl ⟨z, rfl, rfl⟩)
        unfold Has at this; rw [h2] at this; cases this
      rw [if_neg (fun z => hni z.symm)] at h1
      have : es[i]? = some none := by
        rw [List.getElem?_eq_getElem hi]
        cases e : es[i] with
        | none => rfl
        | some v =>
          obtain ⟨t, ks⟩ := v
          have hh : Has es i t ks := by unfold Has; rw [List.getElem?_eq_getElem hi, e]
          by_cases z : i = q
          · have := (H (i := i)).2 (.inr (.inl ⟨z, rfl, rfl⟩))
            unfold Has at this; rw [h2] at this; cases this
          · have := (H (i := i)).2 (.inr (.inr ⟨hni, z, hh⟩))
            unfold Has at this; rw [h2] at this; cases this
      exact x.ent _ _ _ h1 this
    | some v =>
      obtain ⟨t, ks⟩ := v
      rcases H.1 h2 with ⟨rfl, rfl, _⟩ | ⟨rfl, rfl, _⟩ | ⟨z1, z2, hh⟩
      · rw [if_pos rfl, if_pos hlp] at h1
        cases h1; exact ⟨rfl, rfl, rfl, rfl⟩
      · rw [if_neg (fun z => neN hq z.symm)] at h1
        exact x.ent _ _ (some (_, us)) h1 hq
      · rw [if_neg (fun z => z1 z.symm)] at h1
        exact x.ent _ _ _ h1 hh
  · rw [whenP_set hlp]
    rcases H.1 h with ⟨rfl, _⟩ | ⟨rfl, rfl, _⟩ | ⟨z, _, h⟩
    · rw [if_pos rfl]; show 0 ≤ (ev : Int) ∧ (ev : Int) < ((ev + 1 : Nat) : Int); omega
    · rw [if_neg (neN hq)]; have := x.when _ _ _ hq; omega
    · rw [if_neg z]; have := x.when _ _ _ h; omega
  · rcases H.1 h with ⟨_, _, rfl⟩ | ⟨rfl, rfl, rfl⟩ | ⟨_, _, h⟩
    · exact List.Pairwise.nil
    · rw [List.pairwise_append]
      refine ⟨pw hq, List.pairwise_singleton _ _, fun a ha b hb => ?_⟩
      obtain rfl := List.mem_singleton.1 hb
      obtain ⟨j, v, vs, rfl, hj, _⟩ := w.down _ _ _ hq _ ha
      rw [whenP_set hlp, whenP_set hlp, if_neg (neN hj), if_pos rfl]
      exact (x.when _ _ _ hj).2
    · exact pw h
section
variable {h : H} {p : Nat} {ev : Nat} {G : Nat → Prop} {es : List En}
theorem t_Rput {s : Sl} {pl : List S_ref11_Place} (a : RefAt h p s pl ev) (b : RefRel es pl ev) (hw : es.length ≤ 256) (he : ev < 9223372036854775807) {c : S_api_Cap} {r q : Int} {K : Int × Int → H → Prop} (no : freeE es = none → K (0, 10) h)
    (y : ∀ n, freeE es = some n → ∀ h', RefAt h' p s (pl.set n ⟨true, c, r, q, ev⟩) (ev + 1) → But (fun z => z = p ∨ s.foot z) h h' → (∀ c, h' c = none → h c = none) → K ((n : Int), 0) h') : m_ref11_Catalogue_put (some ⟨p, 0, none⟩) c r q K h := by
  have hl := a.buf.len
  have hb := b.len
  unfold m_ref11_Catalogue_put
  refine w_for es.length (fun i (z : Int) h' => h = h' ∧ z = (i : Int) ∧ ∀ j, j < i → ∀ e, es[j]? = some e → e ≠ none) ?_ ⟨rfl, rfl, fun j hj => absurd hj (Nat.not_lt_zero _)⟩
  rintro rec i z h' hi ⟨rfl, rfl, hno⟩ more
  refine w_deref (w_load a.f0 (w_if' (fun d => ?_) fun d => ?_))
  · have d : (i : Int) < (s.len : Int) := d
    have hil : i < es.length := by omega
    obtain ⟨P, e, h1, h2, ok⟩ := b.place hil
    refine w_deref (w_load a.f0 (w_field rp_len a.buf.arr h1 rfl (v' := P.Live) (cells' := cBool) (l1 := []) (l3 := (cPl P).drop 1) rfl rfl (w_if (fun e' => ?_) fun e' => ?_)))
    · have hlive : P.Live = false := by simpa using e'
      have hen := b.dead h1 hlive
      have hf : freeE es = some i := by
        unfold freeE freeU
        rw [List.findIdx?_eq_some_iff_getElem]
        refine ⟨by rw [List.length_map]; exact hil, ?_, fun j hj => ?_⟩
        · rw [List.getElem_map]
          rw [List.getElem?_eq_getElem hil] at hen
          cases hen' : es[i] with
          | none => rfl
          | some v => rw [hen'] at hen; cases hen
        · rw [List.getElem_map]
          have := hno j hj _ (List.getElem?_eq_getElem (by omega))
          cases hv : es[j] with
          | none => exact absurd hv this
          | some v => simp
      refine w_deref (w_deref (w_load a.f0 (w_load a.f1 (w_put rp_len a.buf (i := i) (by omega) rfl ⟨true, c, r, q, ev⟩ rfl fun h2 b2 k2 d2 => ?_))))
      have cell2 := k2 _ _ a.cell a.apart
      have a2 : RefAt h2 p s (pl.set i ⟨true, c, r, q, ev⟩) ev := ⟨cell2, b2⟩
      refine w_deref (w_load a2.f1 (w_deref ?_))
      have ev1 : iAdd .i64 (ev : Int) 1 = ((ev + 1 : Nat) : Int) := (iAdd_eq (by omega) (by omega)).trans (by omega)
      rw [ev1]
      refine w_store (b := p) (i := 1) (l1 := [Sl.val s]) (l2 := [Value.int .i64 ev]) (l3 := []) (t := N_ref11_Catalogue) (pt_add p 1) cell2 rfl rfl ?_
      refine y i hf _ ⟨upd_same _ _ _, b2.but (But.upd (F := (· = p)) rfl) fun a' ha z => (b2.typed ⟨a', ha, rfl⟩).ne (Typed.of cell2) (by decide) z⟩ ((k2.mono fun _ f => .inr f).trans (But.upd (F := (· = p)) rfl) fun _ z => .inl (.inl z)) fun z hz => d2 z (upd_none.1 hz).2
    · refine more _ _ hil ⟨rfl, ia1 i (by omega), fun j hj e'' he => ?_⟩
      by_cases z : j = i
      · subst z
        have hlive : P.Live = true := by simpa using e'
        rw [h2] at he; cases he
        intro z
        subst z
        have : P.Live = false := ok
        rw [this] at hlive; cases hlive
      · exact hno j (by omega) _ he
  · have d : ¬ (i : Int) < (s.len : Int) := d
    refine no ?_
    unfold freeE freeU
    rw [List.findIdx?_eq_none_iff]
    intro x hx
    obtain ⟨e, he, rfl⟩ := List.mem_map.1 hx
    obtain ⟨j, hj⟩ := List.mem_iff_getElem?.1 he
    have := hno j (by have := lt_of_get hj; omega) e hj
    cases e with
    | none => exact absurd rfl this
    | some v => rfl
theorem t_RRoot (x : Ref h p ev G es) (he : ev < 9223372036854775807) {c : S_api_Cap} {r : Int} {K : Int × Int → H → Prop} (y : ∀ G' h' ev', ev' ≤ ev + 1 → Ref h' p ev' G' (rootOut es c r).2 → KChg G G' h h' → K (rootOut es c r).1 h') : m_ref11_Catalogue_Root (some ⟨p, 0, none⟩) c r K h := by
  have wf := x.wf.rootOut c r
  have hw := x.wf.len
  unfold rootOut at y wf
  unfold m_ref11_Catalogue_Root
  refine w_RValid ?_
  by_cases hr : 1 ≤ r ∧ r ≤ 31
  · rw [if_pos hr] at y wf
    rw [decide_eq_true hr]
    refine w_ifF rfl (t_RIn x (w_if' (fun h0 => ?_) fun h0 => ?_))
    · rw [if_pos (by omega)] at y
      exact y _ _ ev (by omega) x (.refl _ _)
    · rw [if_neg (by omega)] at y wf
      obtain ⟨s, pl, a, b, g⟩ := x.ex
      refine t_Rput a b hw.2 he (fun hf => ?_) fun n hf h2 a2 k2 d2 => ?_
      · rw [hf] at y
        exact y _ _ ev (by omega) x (.refl _ _)
      · rw [hf] at y wf
        exact y G h2 (ev + 1) (Nat.le_refl _) ⟨⟨s, _, a2, b.root x.wf (freeE_some hf), g⟩, wf⟩ ⟨k2.mono fun c f => (g c).2 f, fun _ f => .inl f, d2⟩
  · rw [if_neg hr] at y
    rw [decide_eq_false hr]
    exact w_ifT rfl (y _ _ ev (by omega) x (.refl _ _))
theorem t_RChild (x : Ref h p ev G es) (he : ev < 9223372036854775807) {qi : Int} {c : S_api_Cap} {r : Int} {K : Int × Int → H → Prop} (y : ∀ G' h' ev', ev' ≤ ev + 1 → Ref h' p ev' G' (childOut es qi c r).2 → KChg G G' h h' → K (childOut es qi c r).1 h') : m_ref11_Catalogue_Child (some ⟨p, 0, none⟩) qi c r K h := by
  have wf := x.wf.childOut qi c r
  have hw := x.wf.len
  unfold childOut at y wf
  unfold m_ref11_Catalogue_Child
  refine t_Ris x ?_
  cases hqi : atE es qi with
  | none =>
    rw [hqi] at y
    exact w_ifT rfl (y _ _ ev (by omega) x (.refl _ _))
  | some v =>
    obtain ⟨u, us⟩ := v
    rw [hqi] at y wf
    obtain ⟨q, rfl, hq⟩ := atE_has.1 hqi
    simp only at y wf
    obtain ⟨s, pl, a, b, g⟩ := x.ex
    obtain ⟨P, h1, _, e1, e2, e3⟩ := b.has hq
    refine w_ifF rfl (w_deref (w_load a.f0 (w_idx rp_len a.buf.arr h1 rfl fun ad _ ha => w_load (v := P.Cap.Obj) (cells := cInt .i64) ?_ ?_)))
    · rw [show (ad.add 1).add 0 = ad.add 1 from add_zero _]
      exact At.head (l2 := (cPl P).drop 2) (At.sub (l1 := (cPl P).take 1) (l3 := []) (by rw [List.append_nil]; exact ha) rfl)
    rw [e1]
    by_cases ho : u.Cap.Obj = c.Obj
    · rw [if_pos ho] at y wf
      refine w_ifF (by simp [ho]) (w_deref (w_load a.f0 (w_field rp_len a.buf.arr h1 rfl (v' := P.Rights) (cells' := cInt .i64) (l1 := (cPl P).take 4) (l3 := (cPl P).drop 5) rfl rfl ?_)))
      rw [e2]
      refine w_RPart (x.wf.right _ _ _ hq) ?_
      cases hp : partOf r u.Rights with
      | false =>
        rw [if_neg (by rw [hp]; decide)] at y
        exact w_ifT rfl (y _ _ ev (by omega) x (.refl _ _))
      | true =>
        rw [if_pos hp] at y wf
        refine w_ifF rfl (t_RFind x ?_)
        cases hf : findE es c with
        | some v =>
          rw [hf] at y
          exact w_ifT rfl (y _ _ ev (by omega) x (.refl _ _))
        | none =>
          rw [hf] at y wf
          simp only [Option.isSome_none, Bool.false_eq_true, if_false] at y wf
          refine w_ifF rfl (t_Rput a b hw.2 he (fun hf => ?_) fun n hf h2 a2 k2 d2 => ?_)
          · rw [hf] at y
            exact y _ _ ev (by omega) x (.refl _ _)
          · rw [hf] at y wf
            dsimp only at y wf
            rw [Int.toNat_natCast] at y wf
            exact y G h2 (ev + 1) (Nat.le_refl _) ⟨⟨s, _, a2, b.child x.wf hq (freeE_some hf), g⟩, wf⟩ ⟨k2.mono fun c f => (g c).2 f, fun _ f => .inl f, d2⟩
    · rw [if_neg ho] at y
      exact w_ifT (by simp [ho]) (y _ _ ev (by omega) x (.refl _ _))
theorem mono_idx {f : Int → Int} {ks : List Int} (x : ks.Pairwise fun a b => f a < f b) {i j : Nat} {a b : Int} (hi : ks[i]? = some a) (hj : ks[j]? = some b) : f a < f b ↔ i < j := by
  obtain ⟨li, ei⟩ := List.getElem?_eq_some_iff.1 hi
  obtain ⟨lj, ej⟩ := List.getElem?_eq_some_iff.1 hj
  rw [List.pairwise_iff_getElem] at x
  constructor
  · intro h
    rcases Nat.lt_trichotomy i j with q | q | q
    · exact q
    · subst q; rw [ei] at ej; subst ej; omega
    · have := x j i lj li q; rw [ei, ej] at this; omega
  · intro h
    have := x i j li lj h; rw [ei, ej] at this; exact this
theorem t_Rchildren (x : Ref h p ev G es) {n : Nat} {t ks} (hn : Has es n t ks) {K : Sl → H → Prop} (y : ∀ s' h', Buf (cInt .i64) 1 N_int h' s' ks → Keeps h h' → (∀ c, s'.foot c → h c = none) → K s' h') : m_ref11_Catalogue_children (some ⟨p, 0, none⟩) (n : Int) K h := by
  have w := x.wf
  obtain ⟨s, pl, a, b, g⟩ := x.ex
  have hw := w.len
  have hl := a.buf.len
  have hb := b.len
  have hkl := w.kids_le hn
  unfold m_ref11_Catalogue_children
  refine w_for ks.length (fun j (z : Sl × Int) h' => Buf (cInt .i64) 1 N_int h' z.1 (ks.take j) ∧ (∀ (i' : Nat) k, ks[i']? = some k → (z.2 < whenP pl k ↔ j ≤ i')) ∧ Keeps h h' ∧ ∀ c, z.1.foot c → h c = none) ?_ ⟨Buf.nil, fun i' k hk => ?_, .refl _, fun c ⟨_, q, _⟩ => by cases q⟩
  rotate_left
  · obtain ⟨i, u, us, rfl, hi, _⟩ := w.down _ _ _ hn _ (List.mem_of_getElem? hk)
    have := (b.when _ _ _ hi).1
    show (-1 : Int) < _ ↔ _
    omega
  rintro rec j ⟨out, last⟩ h1 hj ⟨bu, hlast, kp, fo⟩ more
  have bu : Buf (cInt .i64) 1 N_int h1 out (ks.take j) := bu
  have hlast : ∀ (i' : Nat) k, ks[i']? = some k → (last < whenP pl k ↔ j ≤ i') := hlast
  have a1 := a.keep kp
  have toK : ∀ {i : Nat} {u us}, Has es i u us → u.Parent = n → last < whenP pl (i : Int) → ∃ i', ks[i']? = some (i : Int) ∧ j ≤ i' := fun {i u us} hi hp hw' => by
    rcases w.up _ _ _ hi with q | ⟨q, v, vs, e, hq, hm, _⟩
    · omega
    · obtain rfl : n = q := by omega
      obtain ⟨_, rfl⟩ := hn.uniq hq
      obtain ⟨i', hi'⟩ := List.mem_iff_getElem?.1 hm
      exact ⟨i', hi', (hlast _ _ hi').1 hw'⟩
  refine w_for es.length (fun i (z : Int × Int) h' => h1 = h' ∧ z.2 = (i : Int) ∧ ((z.1 = -1 ∧ ∀ m, m < i → ∀ u us, Has es m u us → u.Parent = n → ¬ last < whenP pl (m : Int)) ∨ ∃ m : Nat, z.1 = m ∧ (∃ u us, Has es m u us ∧ u.Parent = n ∧ last < whenP pl (m : Int)) ∧ ∀ m', m' < i → ∀ u us, Has es m' u us → u.Parent = n → last < whenP pl (m' : Int) → whenP pl (m : Int) ≤ whenP pl (m' : Int))) ?_ ⟨rfl, rfl, .inl ⟨rfl, fun m hm => absurd hm (Nat.not_lt_zero _)⟩⟩
  rintro rec' i ⟨best, iz⟩ h' hi ⟨rfl, ez, hbest⟩ more'
  have ez : iz = (i : Int) := ez
  subst ez
  have hbest : (best = -1 ∧ ∀ m, m < i → ∀ u us, Has es m u us → u.Parent = n → ¬ last < whenP pl (m : Int)) ∨ ∃ m : Nat, best = m ∧ (∃ u us, Has es m u us ∧ u.Parent = n ∧ last < whenP pl (m : Int)) ∧ ∀ m', m' < i → ∀ u us, Has es m' u us → u.Parent = n → last < whenP pl (m' : Int) → whenP pl (m : Int) ≤ whenP pl (m' : Int) := hbest
  refine w_deref (w_load a1.f0 (w_if' (fun d => ?_) fun d => ?_))
  · have d : (i : Int) < (s.len : Int) := d
    have hil : i < es.length := by omega
    obtain ⟨P, e, h1', h2, ok⟩ := b.place hil
    have hwP : whenP pl (i : Int) = P.When := by rw [whenP_nat, h1']; rfl
    have rdW : ∀ {k : Int → H → Prop}, k P.When h1 → mIdx s (i : Int) 7 (fun ad => mLoad (cInt .i64) (ad.add 6) k) h1 := fun z => w_field rp_len a1.buf.arr h1' rfl (v' := P.When) (cells' := cInt .i64) (l1 := (cPl P).take 6) (l3 := []) rfl rfl z
    refine w_deref (w_load a1.f0 (w_field rp_len a1.buf.arr h1' rfl (v' := P.Live) (cells' := cBool) (l1 := []) (l3 := (cPl P).drop 1) rfl rfl ?_))
    refine w_joinV (P.Live && decide (P.Parent = (n : Int))) (fun J hJ => ?_) ?_
    · refine w_if (fun e => ?_) fun e => ?_
      · refine w_deref (w_load a1.f0 (w_field rp_len a1.buf.arr h1' rfl (v' := P.Parent) (cells' := cInt .i64) (l1 := (cPl P).take 5) (l3 := (cPl P).drop 6) rfl rfl ?_))
        rw [e, Bool.true_and] at hJ; exact hJ
      · rw [e] at hJ; exact hJ
    refine w_joinV ((P.Live && decide (P.Parent = (n : Int))) && decide (last < P.When)) (fun J hJ => ?_) ?_
    · refine w_if (fun e => ?_) fun e => ?_
      · refine w_deref (w_load a1.f0 (rdW ?_))
        rw [e, Bool.true_and] at hJ; exact hJ
      · rw [e] at hJ; exact hJ
    by_cases q : ((P.Live && decide (P.Parent = (n : Int))) && decide (last < P.When)) = true
    · rw [q]
      rw [Bool.and_eq_true, Bool.and_eq_true, decide_eq_true_eq, decide_eq_true_eq] at q
      obtain ⟨⟨ql, qp⟩, qw⟩ := q
      obtain ⟨u, us, hu, _, _, ep⟩ := b.live h1' ql
      rw [← hwP] at qw
      have hPi : ∃ u us, Has es i u us ∧ u.Parent = n ∧ last < whenP pl (i : Int) := ⟨u, us, hu, ep.symm.trans qp, qw⟩
      rcases hbest with ⟨rfl, hno⟩ | ⟨m, rfl, hm, hmin⟩
      · refine w_join (w_ifT rfl (w_ifT rfl (w_ifT rfl (more' _ _ hil ⟨rfl, ia1 i (by omega), .inr ⟨i, rfl, hPi, fun m' hm' v vs hv hp hl' => ?_⟩⟩))))
        by_cases z : m' = i
        · subst z; exact Int.le_refl _
        · exact absurd hl' (hno m' (by omega) v vs hv hp)
      · obtain ⟨um, usm, hum, hpm, hwm⟩ := hm
        obtain ⟨Pm, hPm, _⟩ := b.has hum
        have hwPm : whenP pl (m : Int) = Pm.When := by rw [whenP_nat, hPm]; rfl
        refine w_join (w_ifT rfl (w_ifF (decide_eq_false (by omega)) (w_deref (w_deref (w_load a1.f0 (rdW (w_load a1.f0 (w_field rp_len a1.buf.arr hPm rfl (v' := Pm.When) (cells' := cInt .i64) (l1 := (cPl Pm).take 6) (l3 := []) rfl rfl (w_if' (fun lt => ?_) fun lt => ?_)))))))))
        · rw [← hwP, ← hwPm] at lt
          refine more' _ _ hil ⟨rfl, ia1 i (by omega), .inr ⟨i, rfl, hPi, fun m' hm' v vs hv hp hl' => ?_⟩⟩
          by_cases z : m' = i
          · subst z; exact Int.le_refl _
          · have := hmin m' (by omega) v vs hv hp hl'; omega
        · rw [← hwP, ← hwPm] at lt
          refine more' _ _ hil ⟨rfl, ia1 i (by omega), .inr ⟨m, rfl, ⟨um, usm, hum, hpm, hwm⟩, fun m' hm' v vs hv hp hl' => ?_⟩⟩
          by_cases z : m' = i
          · subst z; omega
          · exact hmin m' (by omega) v vs hv hp hl'
    · have q' : ((P.Live && decide (P.Parent = (n : Int))) && decide (last < P.When)) = false := by simpa using q
      rw [q']
      have notP : ∀ u us, Has es i u us → u.Parent = n → ¬ last < whenP pl (i : Int) := fun u us hu hp hl' => by
        obtain ⟨P', hP', e1, _, _, e4⟩ := b.has hu
        rw [h1'] at hP'; cases hP'
        rw [e1, e4, hp, decide_eq_true rfl, ← hwP, decide_eq_true hl'] at q'
        cases q'
      refine w_join (w_ifF rfl (w_ifF rfl (more' _ _ hil ⟨rfl, ia1 i (by omega), ?_⟩)))
      rcases hbest with ⟨e, hno⟩ | ⟨m, e, hm, hmin⟩
      · refine .inl ⟨e, fun m hm u us hu hp => ?_⟩
        by_cases z : m = i
        · subst z; exact notP u us hu hp
        · exact hno m (by omega) u us hu hp
      · refine .inr ⟨m, e, hm, fun m' hm' v vs hv hp hl' => ?_⟩
        by_cases z : m' = i
        · subst z; exact absurd hl' (notP v vs hv hp)
        · exact hmin m' (by omega) v vs hv hp hl'
  · have d : ¬ (i : Int) < (s.len : Int) := d
    obtain rfl : i = es.length := by omega
    rcases hbest with ⟨rfl, hno⟩ | ⟨m, rfl, ⟨um, usm, hum, hpm, hwm⟩, hmin⟩
    · refine w_ifT rfl ?_
      have : j = ks.length := by
        rcases Nat.lt_or_ge j ks.length with q | q
        · obtain ⟨m, u, us, e, hm, hp⟩ := w.down _ _ _ hn _ (List.getElem_mem q)
          exact absurd ((hlast j _ (by rw [List.getElem?_eq_getElem q, e])).2 (Nat.le_refl _)) (hno m hm.lt u us hm hp)
        · omega
      subst this
      rw [List.take_length] at bu
      exact y _ _ bu kp fo
    · refine w_ifF (decide_eq_false (by show ¬ (m : Int) < 0; omega)) ?_
      obtain ⟨i', hi', hji⟩ := toK hum hpm hwm
      have hlt := lt_of_get hi'
      have hjl : j < ks.length := by omega
      have hjk := List.getElem?_eq_getElem hjl
      obtain ⟨m', u', us', e', hm', hp'⟩ := w.down _ _ _ hn _ (List.getElem_mem hjl)
      have hle := hmin m' hm'.lt u' us' hm' hp' (by rw [← e']; exact (hlast j _ hjk).2 (Nat.le_refl _))
      obtain rfl : i' = j := by
        have h3 := mono_idx (b.kids _ _ _ hn) hjk hi'
        rw [e'] at h3
        rcases Nat.lt_or_ge j i' with q | q
        · exact absurd (h3.2 q) (by omega)
        · omega
      refine w_app (by_ := 8) ci_len rfl bu [(m : Int)] rfl rfl (.inl (by rw [List.length_take]; simp only [List.length_singleton]; omega)) fun s2 h2 bu2 k2 f2 d2 => ?_
      obtain ⟨Pm, hPm, _⟩ := b.has hum
      have hwPm : whenP pl (m : Int) = Pm.When := by rw [whenP_nat, hPm]; rfl
      have a2 := a.keep (kp.but k2 fo)
      refine w_deref (w_load a2.f0 (w_field rp_len a2.buf.arr hPm rfl (v' := Pm.When) (cells' := cInt .i64) (l1 := (cPl Pm).take 6) (l3 := []) rfl rfl ?_))
      refine more _ _ hjl ⟨?_, fun i'' k hk => ?_, kp.but k2 fo, fun c f => (f2 c f).elim (fo c) fun q => kp.fresh q⟩
      · rw [List.take_add_one, hi']; exact bu2
      · show Pm.When < _ ↔ _
        rw [← hwPm, mono_idx (b.kids _ _ _ hn) hi' hk]
        omega
end
theorem PreL.len1 {ch : Int → List Int} {a l : List Int} (x : PreL ch a l) (h : a ≠ []) : 1 ≤ l.length := by
  have := x.le
  cases a with
  | nil => exact absurd rfl h
  | cons b r => rw [List.length_cons] at this; omega
theorem PreL.one {ch : Int → List Int} {n : Int} {l : List Int} (x : PreL ch [n] l) : ∃ l1, l = n :: l1 ∧ PreL ch (ch n) l1 := by
  cases x with
  | cons a b => cases b; exact ⟨_, by rw [List.append_nil], a⟩
section
variable {h : H} {p : Nat} {ev : Nat} {G : Nat → Prop} {es : List En}
theorem t_RDownN : ∀ (N : Nat) {h : H} (_ : Ref h p ev G es) {n : Nat} {l : List Int} (_ : PreL (chN (nds es)) [(n : Int)] l) (_ : LiveL (nds es) l) (_ : l.length ≤ 256) (_ : l.length ≤ N) {K : Sl → H → Prop} (_ : ∀ s' h', Buf (cInt .i64) 1 N_int h' s' l → Keeps h h' → (∀ c, s'.foot c → h c = none) → K s' h'), m_ref11_Catalogue_Down_n N (some ⟨p, 0, none⟩) (n : Int) K h := by
  intro N
  induction N with
  | zero =>
    intro h x n l hl _ _ hN K y
    have := hl.len1 (by simp)
    omega
  | succ N ih =>
    intro h x n l hl live h256 hN K y
    obtain ⟨l1, rfl, hl1⟩ := hl.one
    obtain ⟨i, t, ks, e, hn⟩ := hasN_nds.1 (live _ (List.mem_cons_self ..))
    obtain rfl : n = i := by omega
    rw [chN_nds hn] at hl1
    show m_ref11_Catalogue_Down_s (m_ref11_Catalogue_Down_n N) _ _ K h
    unfold m_ref11_Catalogue_Down_s
    refine w_box fun b1 h1 f1 c1 k1 => t_Rchildren (x.keep k1) hn fun s2 h2 bu2 k2 f2 => ?_
    have hkl := hl1.le
    have hk256 := x.wf.kids_le hn
    have hw256 := x.wf.len
    rw [List.length_cons] at h256 hN
    refine w_for ks.length (fun j (z : Sl × Int) h' => z.2 = (j : Int) ∧ ∃ D E, l1 = D ++ E ∧ PreL (chN (nds es)) (ks.drop j) E ∧ Buf (cInt .i64) 1 N_int h' z.1 ((n : Int) :: D) ∧ Keeps h h' ∧ (∀ c, z.1.foot c → h c = none) ∧ Buf (cInt .i64) 1 N_int h' s2 ks ∧ ∀ c, z.1.foot c → ¬ s2.foot c) ?_ ?_
    rotate_left
    · refine ⟨rfl, [], l1, rfl, hl1, (Buf.one ci_len (x := (n : Int)) c1).keep k2, k1.trans k2, fun c ⟨a, q, r⟩ => by (cases q; subst r; exact f1), bu2, fun c ⟨a, q, r⟩ f => ?_⟩
      cases q; subst r
      have := f2 _ f
      rw [c1] at this; cases this
    rintro rec j ⟨out, jz⟩ h' hj ⟨ej, D, E, rfl, hE, bu, kp, fo, b2, ap⟩ more
    have ej : jz = (j : Int) := ej
    subst ej
    have bu : Buf (cInt .i64) 1 N_int h' out ((n : Int) :: D) := bu
    have l2 := b2.len
    have lD := bu.len
    rw [List.length_append] at h256 hN
    refine w_if' (fun c => ?_) fun c => ?_
    · have c : (j : Int) < (s2.len : Int) := c
      have hjl : j < ks.length := by omega
      have hk := List.getElem?_eq_getElem hjl
      have ed : ks.drop j = ks[j] :: ks.drop (j + 1) := List.drop_eq_getElem_cons hjl
      rw [ed] at hE
      generalize hz : ks[j] = z at hE hk
      obtain ⟨m1, L1, rfl, p1, p2⟩ : ∃ m1 L1, E = z :: (m1 ++ L1) ∧ PreL (chN (nds es)) (chN (nds es) z) m1 ∧ PreL (chN (nds es)) (ks.drop (j + 1)) L1 := by
        cases hE with
        | cons a b => exact ⟨_, _, rfl, a, b⟩
      obtain ⟨m, u, us, rfl, hm⟩ := hasN_nds.1 (live z (by simp))
      simp only [List.length_cons, List.length_append] at h256 hN
      refine w_get ci_len b2.arr hk rfl (v' := (m : Int)) rfl ?_
      have p1' : PreL (chN (nds es)) [(m : Int)] ((m : Int) :: m1) := by
        have := PreL.cons p1 PreL.nil
        rwa [List.append_nil] at this
      refine ih (x.keep kp) p1' (fun w hw => live w ?_) (by simp only [List.length_cons]; omega) (by simp only [List.length_cons]; omega) fun s3 h3 bu3 k3 f3 => ?_
      · rcases List.mem_cons.1 hw with q | q
        · rw [q]; simp
        · simp [q]
      refine w_append (by_ := 8) ci_len ci_plain rfl (bu.keep k3) bu3.arr (.inl (by simp only [List.length_cons]; omega)) fun s4 h4 bu4 k4 f4 d4 => ?_
      refine more _ _ hjl ⟨ia1 j (by omega), D ++ (m : Int) :: m1, L1, by simp, p2, bu4, (kp.trans k3).but k4 fo, fun c f => (f4 c f).elim (fo c) fun q => kp.fresh (k3.fresh q), (b2.keep k3).but k4 fun a ha f => ap _ f ⟨a, ha, rfl⟩, fun c f g => ?_⟩
      rcases f4 c f with q | q
      · exact ap c q g
      · exact (b2.keep k3).has g q
    · have c : ¬ (j : Int) < (s2.len : Int) := c
      obtain rfl : j = ks.length := by omega
      rw [List.drop_length] at hE
      cases hE
      rw [List.append_nil] at y
      exact y _ _ bu kp fo
theorem t_RDown (x : Ref h p ev G es) {n : Nat} {l : List Int} (b : Below es n l) {K : Sl → H → Prop} (y : ∀ s' h', Buf (cInt .i64) 1 N_int h' s' l → Keeps h h' → (∀ c, s'.foot c → h c = none) → K s' h') : m_ref11_Catalogue_Down (some ⟨p, 0, none⟩) (n : Int) K h :=
  ⟨l.length, t_RDownN l.length x b.pre b.live (by have := b.len; have := x.wf.len; omega) (Nat.le_refl _) y⟩
theorem t_ROf (x : Ref h p ev G es) {o : Int} {K : Sl → H → Prop} (no : (∀ i t ks, Has es i t ks → t.Cap.Obj ≠ o) → ∀ h', Keeps h h' → K Sl.nil h')
    (y : ∀ n t ks l, Has es n t ks → t.Cap.Obj = o → t.Parent = -1 → Below es n l → ∀ s' h', Buf cTok 5 N_api_Token h' s' (ofE es l) → Keeps h h' → (∀ c, s'.foot c → h c = none) → K s' h') : m_ref11_Catalogue_Of (some ⟨p, 0, none⟩) o K h := by
  have wf := x.wf
  have wl := wf.len
  obtain ⟨s, pl, a, b, g⟩ := x.ex
  have hl := a.buf.len
  have hb := b.len
  unfold m_ref11_Catalogue_Of
  refine w_for es.length (fun i (z : Sl × Int) h' => z.2 = (i : Int) ∧ Keeps h h' ∧ ((z.1 = Sl.nil ∧ ∀ j, j < i → ∀ t ks, Has es j t ks → t.Cap.Obj = o → t.Parent ≠ -1) ∨ ∃ n t ks l, n < i ∧ Has es n t ks ∧ t.Cap.Obj = o ∧ t.Parent = -1 ∧ Below es n l ∧ Buf cTok 5 N_api_Token h' z.1 (ofE es l) ∧ ∀ c, z.1.foot c → h c = none)) ?_ ⟨rfl, .refl _, .inl ⟨rfl, fun j hj => absurd hj (Nat.not_lt_zero _)⟩⟩
  rintro rec i ⟨out, iz⟩ h' hi ⟨ei, kp, hst⟩ more
  have ei : iz = (i : Int) := ei
  subst ei
  have hst : (out = Sl.nil ∧ ∀ j, j < i → ∀ t ks, Has es j t ks → t.Cap.Obj = o → t.Parent ≠ -1) ∨ ∃ n t ks l, n < i ∧ Has es n t ks ∧ t.Cap.Obj = o ∧ t.Parent = -1 ∧ Below es n l ∧ Buf cTok 5 N_api_Token h' out (ofE es l) ∧ ∀ c, out.foot c → h c = none := hst
  have a' := a.keep kp
  have x' := x.keep kp
  refine w_deref (w_load a'.f0 (w_if' (fun d => ?_) fun d => ?_))
  · have d : (i : Int) < (s.len : Int) := d
    have hil : i < es.length := by omega
    obtain ⟨P, e, h1, h2, ok⟩ := b.place hil
    refine w_deref (w_load a'.f0 (w_field rp_len a'.buf.arr h1 rfl (v' := P.Live) (cells' := cBool) (l1 := []) (l3 := (cPl P).drop 1) rfl rfl ?_))
    refine w_joinV (!P.Live || !decide (P.Cap.Obj = o)) (fun J hJ => ?_) ?_
    · refine w_if (fun e => ?_) fun e => ?_
      · rw [e, Bool.true_or] at hJ; exact hJ
      · refine w_deref (w_load a'.f0 (w_idx rp_len a'.buf.arr h1 rfl fun ad _ ha => w_load (v := P.Cap.Obj) (cells := cInt .i64) ?_ ?_))
        · rw [show (ad.add 1).add 0 = ad.add 1 from add_zero _]
          exact At.head (l2 := (cPl P).drop 2) (At.sub (l1 := (cPl P).take 1) (l3 := []) (by rw [List.append_nil]; exact ha) rfl)
        · rw [e, Bool.false_or] at hJ; exact hJ
    refine w_joinV ((!P.Live || !decide (P.Cap.Obj = o)) || decide (0 ≤ P.Parent)) (fun J hJ => ?_) ?_
    · refine w_if (fun e => ?_) fun e => ?_
      · rw [e, Bool.true_or] at hJ; exact hJ
      · refine w_deref (w_load a'.f0 (w_field rp_len a'.buf.arr h1 rfl (v' := P.Parent) (cells' := cInt .i64) (l1 := (cPl P).take 5) (l3 := (cPl P).drop 6) rfl rfl ?_))
        rw [e, Bool.false_or] at hJ; exact hJ
    refine w_if (fun e => ?_) fun e => ?_
    · refine more _ _ hil ⟨ia1 i (by omega), kp, ?_⟩
      rcases hst with ⟨rfl, hno⟩ | ⟨n, t, ks, l, hni, r⟩
      · refine .inl ⟨rfl, fun j hj t ks ht ho hp => ?_⟩
        by_cases z : j = i
        · subst z
          obtain ⟨P', hP', e1, e2, _, e4⟩ := b.has ht
          rw [h1] at hP'; cases hP'
          rw [e1, e2, ho, e4, hp] at e
          simp at e
        · exact hno j (by omega) t ks ht ho hp
      · exact .inr ⟨n, t, ks, l, by omega, r⟩
    · -- a root
      rw [Bool.or_eq_false_iff, Bool.or_eq_false_iff] at e
      obtain ⟨⟨e1, e2⟩, e3⟩ := e
      have hlive : P.Live = true := by simpa using e1
      have hobj : P.Cap.Obj = o := by simpa using e2
      have hpar : ¬ 0 ≤ P.Parent := of_decide_eq_false e3
      obtain ⟨t, ks, ht, q1, q2, q3⟩ := b.live h1 hlive
      have hto : t.Cap.Obj = o := by rw [← q1]; exact hobj
      have htp : t.Parent = -1 := by
        rcases wf.up _ _ _ ht with z | ⟨j, _, _, z, _⟩
        · exact z
        · omega
      have hnil : out = Sl.nil := by
        rcases hst with ⟨q, _⟩ | ⟨n, t', ks', l, hni, hn, ho, hp, _⟩
        · exact q
        · have := wf.one _ _ _ _ _ _ hn ht hp htp (ho.trans hto.symm)
          omega
      subst hnil
      obtain ⟨l, bl⟩ := wf.ex ht
      have ll := bl.len
      refine t_RDown x' bl fun s2 hh2 bu2 k2 f2 => ?_
      refine w_for l.length (fun j (z : Sl × Int) h'' => z.2 = (j : Int) ∧ Keeps h h'' ∧ Buf (cInt .i64) 1 N_int h'' s2 l ∧ Buf cTok 5 N_api_Token h'' z.1 ((l.take j).map (tokIn es l)) ∧ ∀ c, z.1.foot c → h c = none) ?_ ⟨rfl, kp.trans k2, bu2, Buf.nil, fun c ⟨_, q, _⟩ => by cases q⟩
      rintro rec2 j ⟨ou, jz⟩ h3 hj ⟨ej, kp3, b2, bu3, fo3⟩ more2
      have ej : jz = (j : Int) := ej
      subst ej
      have bu3 : Buf cTok 5 N_api_Token h3 ou ((l.take j).map (tokIn es l)) := bu3
      have l2 := b2.len
      have a3 := a.keep kp3
      refine w_if' (fun c => ?_) fun c => ?_
      · have c : (j : Int) < (s2.len : Int) := c
        have hjl : j < l.length := by omega
        have hz := List.getElem?_eq_getElem hjl
        generalize hzz : l[j] = zm at hz
        obtain ⟨q, u, us, rfl, hu⟩ := hasN_nds.1 (bl.live _ (List.mem_of_getElem? hz))
        refine w_get ci_len b2.arr hz rfl (v' := (q : Int)) rfl (t_RAt (x.keep kp3) ?_)
        have eat : atOut es (q : Int) = (u, true) := by
          unfold atOut
          rw [(atE_has (i := (q : Int))).2 ⟨q, rfl, hu⟩]
        rw [eat]
        obtain ⟨Pq, hPq, _, _, _, ePq⟩ := b.has hu
        have hahead := bl.ahead wf ht hz hu
        refine w_for j (fun m (z : Int × Int × Int × Int × Int × Int) h4 => h3 = h4 ∧ z = ((m : Int), u.Cap.Obj, u.Cap.Pass.Hi, u.Cap.Pass.Lo, u.Rights, if u.Parent ∈ l.take m then placeIn l u.Parent else u.Parent)) ?_ ⟨rfl, by rw [List.take_zero, if_neg (by simp)]; rfl⟩
        rintro rec3 m z h4 hm ⟨rfl, rfl⟩ more3
        refine w_if' (fun c => ?_) fun c => ?_
        · have c : (m : Int) < (j : Int) := c
          have hmj : m < j := by omega
          have hml : m < l.length := by omega
          have hzm := List.getElem?_eq_getElem hml
          generalize hzzm : l[m] = zm' at hzm
          refine w_idx ci_len b2.arr hzm rfl fun ad1 _ had1 => w_deref (w_idx ci_len b2.arr hz rfl fun ad2 _ had2 => w_load (v := zm') had1 (w_load a3.f0 (w_load (v := (q : Int)) had2 ?_)))
          refine w_field rp_len a3.buf.arr hPq rfl (v' := Pq.Parent) (cells' := cInt .i64) (l1 := (cPl Pq).take 5) (l3 := (cPl Pq).drop 6) rfl rfl ?_
          rw [ePq]
          obtain ⟨qm, _, _, eqm, _⟩ := hasN_nds.1 (bl.live _ (List.mem_of_getElem? hzm))
          have take1 : l.take (m + 1) = l.take m ++ [zm'] := by rw [List.take_add_one, hzm]; rfl
          refine w_if' (fun e => ?_) fun e => ?_
          · refine more3 _ _ hmj ⟨rfl, ?_⟩
            show (iAdd .i64 (m : Int) 1, _, _, _, _, _) = _
            have hmem : u.Parent ∈ l.take m ++ [zm'] := by rw [← e]; simp
            have hpl : placeIn l u.Parent = (m : Int) := by
              unfold placeIn
              rw [if_neg (by omega), ← e, idx_of bl.nd hzm]
            rw [ia1 m (by omega), take1, if_pos hmem, hpl]
          · refine more3 _ _ hmj ⟨rfl, ?_⟩
            show (iAdd .i64 (m : Int) 1, _, _, _, _, _) = _
            have e' : ¬ u.Parent = zm' := fun z => e z.symm
            rw [ia1 m (by omega), take1]
            simp only [List.mem_append, List.mem_singleton, e', or_false]
        · have c : ¬ (m : Int) < (j : Int) := c
          obtain rfl : m = j := by omega
          have epar : (if u.Parent ∈ l.take m then placeIn l u.Parent else u.Parent) = placeIn l u.Parent := by
            rcases hahead with ⟨rfl, rfl⟩ | ⟨_, q2⟩
            · have : u.Parent = -1 := htp
              rw [this]
              split
              · rfl
              · rfl
            · rw [if_pos q2]
          refine w_app (by_ := 40) tok_len rfl bu3 [tokIn es l (q : Int)] ?_ rfl (.inl (by simp only [List.length_map, List.length_take, List.length_singleton]; omega)) fun s5 h5 bu5 k5 f5 d5 => ?_
          · rw [tokIn_has hu, epar]; rfl
          refine more2 _ _ hjl ⟨ia1 m (by omega), kp3.but k5 fo3, b2.but k5 fun ad' ha f => (bu3.typed f).ne (b2.typed ⟨ad', ha, rfl⟩) (by decide) rfl, ?_, fun c f => (f5 c f).elim (fo3 c) fun q => kp3.fresh q⟩
          rw [List.take_add_one, hz, List.map_append]
          exact bu5
      · have c : ¬ (j : Int) < (s2.len : Int) := c
        obtain rfl : j = l.length := by omega
        rw [List.take_length] at bu3
        exact more _ _ hil ⟨ia1 i (by omega), kp3, .inr ⟨i, t, ks, l, by omega, ht, hto, htp, bl, bu3, fo3⟩⟩
  · have d : ¬ (i : Int) < (s.len : Int) := d
    obtain rfl : i = es.length := by omega
    rcases hst with ⟨rfl, hno⟩ | ⟨n, t, ks, l, hni, hn, ho, hp, bl, bu, fo⟩
    · refine no (fun j t ks ht ho => ?_) h' kp
      obtain ⟨r, v, vs, hr, hp, hob, _⟩ := wf.rootOf ht
      exact hno r hr.lt v vs hr (hob.trans ho) hp
    · exact y n t ks l hn ho hp bl out h' bu kp fo
end
deriving instance DecidableEq for S_api_Token
section
variable {h : H}
theorem tok_eqB (x y : S_api_Token) : (((decide (x.Cap.Obj = y.Cap.Obj)) && (((decide (x.Cap.Pass.Hi = y.Cap.Pass.Hi)) && ((decide (x.Cap.Pass.Lo = y.Cap.Pass.Lo)) && true)) && true)) && ((decide (x.Rights = y.Rights)) && ((decide (x.Parent = y.Parent)) && true))) = decide (x = y) := by
  rw [cap_eqB]
  obtain ⟨c, r, p⟩ := x
  obtain ⟨c', r', p'⟩ := y
  rw [Bool.eq_iff_iff]
  simp only [Bool.and_eq_true, Bool.and_true, decide_eq_true_eq, S_api_Token.mk.injEq]
end
def intoV (a b : Int) : Int := if a.tmod b < 0 then a.tmod b + b else a.tmod b
theorem intoV_rng (a : Int) {b : Int} (h : 0 < b) : 0 ≤ intoV a b ∧ intoV a b < b := by
  unfold intoV
  have h1 := Int.tmod_lt_of_pos a h
  have h2 := Int.lt_tmod_of_pos a h
  split <;> omega
theorem Below.uniq {es : List En} {n : Nat} {l l' : List Int} (a : Below es n l) (b : Below es n l') : l = l' := a.pre.inj b.pre
open Classical in
noncomputable def belowOf (es : List En) (n : Nat) : List Int := if h : ∃ l, Below es n l then h.choose else []
theorem Below.eq {es : List En} {n : Nat} {l : List Int} (b : Below es n l) : belowOf es n = l := by
  unfold belowOf
  rw [dif_pos ⟨l, b⟩]
  exact (Exists.choose_spec (⟨l, b⟩ : ∃ l, Below es n l)).uniq b
section
variable {h : H} {p : Nat} {knob : Int} {G : Nat → Prop} {es : List En}
theorem CWF.parDesc {es : List En} (w : CWF es) {c : Nat} {u us} (hc : Has es c u us) {j : Int} (hne : j ≠ c) : Desc (chN (nds es)) j (c : Int) ↔ 0 ≤ u.Parent ∧ Desc (chN (nds es)) j u.Parent := by
  constructor
  · intro d
    cases d with
    | refl => exact absurd rfl hne
    | snoc d hz =>
      obtain ⟨a, v, vs, rfl, ha, hk⟩ := chN_mem hz
      obtain ⟨b, v', vs', e, hb, hp⟩ := w.down _ _ _ ha _ hk
      obtain rfl : c = b := by omega
      obtain ⟨rfl, _⟩ := hc.uniq hb
      rw [hp]
      exact ⟨by omega, d⟩
  · rintro ⟨h0, d⟩
    rcases w.up _ _ _ hc with q | ⟨i, t, ks, q, hi, hm, _⟩
    · omega
    · rw [q] at d
      exact d.snoc (by rw [chN_nds hi]; exact hm)
end
theorem Below.cnt {es : List En} (w : CWF es) {n : Nat} {t ks} (hn : Has es n t ks) {l : List Int} (bl : Below es n l) : (∀ o, cnt es o = cnt (cutE l es) o + if o = t.Cap.Obj then l.length else 0) ∧ (capsG 0 es).length = (capsG 0 (cutE l es)).length + l.length := by
  obtain ⟨m, hm, hpost, hperm⟩ := bl.pre.post w.forest
  have hmem : ∀ z, z ∈ m.reverse ↔ z ∈ l := fun z => hperm.mem_iff
  have hmlen := hperm.length_eq
  have hmnd : m.reverse.Nodup := hperm.nodup_iff.2 bl.nd
  have main : ∀ j, j ≤ m.reverse.length → (∀ o, K.cnt es o = K.cnt (cutE (m.reverse.take j) es) o + if o = t.Cap.Obj then j else 0) ∧ (capsG 0 es).length = (capsG 0 (cutE (m.reverse.take j) es)).length + j := by
    intro j
    induction j with
    | zero => intro _; rw [List.take_zero, cutE_nil]; exact ⟨fun o => by simp, rfl⟩
    | succ j ih =>
      intro hj
      have hjl : j < m.reverse.length := by omega
      obtain ⟨i1, i2⟩ := ih (by omega)
      have hz := List.getElem?_eq_getElem hjl
      generalize hzz : m.reverse[j] = zm at hz
      obtain ⟨q, u, us, rfl, hu⟩ := hasN_nds.1 (bl.live _ ((hmem _).1 (List.mem_of_getElem? hz)))
      have take1 : m.reverse.take (j + 1) = m.reverse.take j ++ [(q : Int)] := by rw [List.take_add_one, hz]; rfl
      have hqS : (q : Int) ∉ m.reverse.take j := fun w => by
        have nd := hmnd
        rw [← List.take_append_drop (j + 1) m.reverse, take1] at nd
        have nd := (List.nodup_append.1 nd).1
        rw [List.nodup_append] at nd
        exact nd.2.2 _ w _ (List.mem_singleton_self _) rfl
      have hkS : ∀ k ∈ us, k ∈ m.reverse.take j := fun k hk => hpost.behind hz k (by rw [chN_nds hu]; exact hk)
      have hpS : ∀ q' : Nat, u.Parent = q' → (q' : Int) ∉ m.reverse.take j := fun q' e w' => by
        rcases w.up _ _ _ hu with z | ⟨i', v, vs, z, hi', hm', _⟩
        · omega
        · obtain rfl : q' = i' := by omega
          obtain ⟨j', hj', w''⟩ := List.mem_take_iff_getElem.1 w'
          have w3 : m.reverse[j']? = some (q' : Int) := by rw [List.getElem?_eq_getElem (by omega), w'']
          have := hpost.behind w3 (q : Int) (by rw [chN_nds hi']; exact hm')
          exact hqS (List.take_subset_take_left _ (by omega) this)
      have st := w.cutStep hu hqS hkS hpS
      have sc := st.caps
      have hob := bl.obj w hn ((hmem _).1 (List.mem_of_getElem? hz)) hu
      rw [take1]
      refine ⟨fun o => ?_, ?_⟩
      · rw [i1 o, cnt_cons sc o, hob]
        by_cases z : o = t.Cap.Obj
        · subst z; simp only [if_pos]; omega
        · have z' : ¬ t.Cap.Obj = o := fun w => z w.symm
          simp only [if_neg z, if_neg z']
      · have := sc.length_eq
        rw [List.length_cons] at this
        omega
  have := main m.reverse.length (Nat.le_refl _)
  rw [List.take_length, cutE_congr hmem es, hmlen] at this
  exact this
theorem CWF.cntObj {es : List En} (w : CWF es) {n : Nat} {t ks} (hn : Has es n t ks) (hp : t.Parent = -1) {l : List Int} (bl : Below es n l) : K.cnt es t.Cap.Obj = l.length := by
  have h1 := (bl.cnt w hn).1 t.Cap.Obj
  rw [if_pos rfl] at h1
  have h0 : K.cnt (cutE l es) t.Cap.Obj = 0 := by
    cases e : K.cnt (cutE l es) t.Cap.Obj with
    | zero => rfl
    | succ k =>
      obtain ⟨j, u, us, hj, eo⟩ := cnt_pos.1 (by omega : 0 < K.cnt (cutE l es) t.Cap.Obj)
      obtain ⟨hjl, vs, hj', _⟩ := has_cut.1 hj
      obtain ⟨r, v, ws, hr, pr, orr, d⟩ := w.rootOf hj'
      obtain rfl := w.one _ _ _ _ _ _ hn hr hp pr (orr.trans eo).symm
      exact absurd (bl.pre.mem.2 ⟨_, by simp, d⟩) hjl
  omega
theorem Below.tell {es : List En} (w : CWF es) {n : Nat} {t ks} (hn : Has es n t ks) (hp : t.Parent = -1) {l : List Int} (bl : Below es n l) {i q : Nat} {u us} (hz : l[i]? = some (q : Int)) (hu : Has es q u us) :
    (i = 0 ∧ u.Parent = -1 ∧ placeIn l u.Parent = -1) ∨ (0 < i ∧ ∃ (m a : Nat) (v : S_api_Token) (vs : List Int), m < i ∧ l[m]? = some (a : Int) ∧ Has es a v vs ∧ u.Parent = a ∧ placeIn l u.Parent = m) := by
  rcases bl.ahead w hn hz hu with ⟨rfl, rfl⟩ | ⟨h0, hm⟩
  · refine .inl ⟨?_, hp, by rw [hp]; rfl⟩
    obtain ⟨l1, e, _⟩ := bl.pre.one
    have h1 := idx_of bl.nd hz
    have h2 := idx_of bl.nd (show l[0]? = some (q : Int) by rw [e]; rfl)
    omega
  · obtain ⟨m, hm', e⟩ := List.mem_take_iff_getElem.1 hm
    have hml : l[m]? = some u.Parent := by rw [List.getElem?_eq_getElem (by omega), e]
    obtain ⟨a, v, vs, ea, ha⟩ := hasN_nds.1 (bl.live _ (List.mem_of_getElem? hml))
    refine .inr ⟨by omega, m, a, v, vs, by omega, ea ▸ hml, ha, ea, ?_⟩
    unfold placeIn
    rw [if_neg (by omega), idx_of bl.nd hml]
theorem atOut_has {es : List En} {i : Nat} {t ks} (h : Has es i t ks) : atOut es (i : Int) = (t, true) := by
  unfold atOut
  rw [(atE_has (i := (i : Int))).2 ⟨i, rfl, h⟩]
theorem t_CDropU {h : H} {p : Nat} {knob : Int} {G : Nat → Prop} {es : List En} (x : Cat h p knob G es) {j : Nat} {S : List Int} (hS : (∀ t ks, ¬ Has es j t ks) ∧ S = [] ∨ ∃ t ks, Has es j t ks ∧ Below es j S) {K : Sl × Int → H → Prop}
    (y : ∀ s' e' G' h', Cat h' p knob G' (cutE S es) → KChg G G' h h' → s'.len = S.length → (e' = 20 ∧ (∀ t ks, ¬ Has es j t ks) ∨ e' = 0 ∧ ∃ t ks, Has es j t ks ∧ Below es j S) → Buf S_api_Cap.cells 3 N_api_Cap h' s' (S.map (capAt es)) → (∀ c, s'.foot c → h c = none) → (∀ c, s'.foot c → ¬ G' c) → K (s', e') h') : m_catalogue_Catalogue_Drop (some ⟨p, 0, none⟩) (j : Int) K h := by
  refine t_CDrop x (fun hno h' k' => ?_) fun n t ks l e hn bl s' G' h' c' k' bu f ap => ?_
  · rcases hS with ⟨hd, rfl⟩ | ⟨t, ks, hh, _⟩
    · exact y Sl.nil 20 G h' (by rw [cutE_nil]; exact x.keep k') ⟨.of k', fun c q => .inl q, fun c q => k'.fresh q⟩ rfl (.inl ⟨rfl, hd⟩) Buf.nil (fun c ⟨_, q, _⟩ => by cases q) fun c ⟨_, q, _⟩ => by cases q
    · rw [(atE_has (i := (j : Int))).2 ⟨j, rfl, hh⟩] at hno; cases hno
  · obtain rfl : j = n := by omega
    rcases hS with ⟨hd, rfl⟩ | ⟨t', ks', hh, bl'⟩
    · exact absurd hn (hd t ks)
    · obtain rfl := bl.uniq bl'
      have := bu.len
      rw [List.length_map] at this
      exact y s' 0 G' h' c' k' this (.inr ⟨rfl, t', ks', hh, bl⟩) bu f ap
open Classical in
noncomputable def ofO (es : List En) (o : Int) : List S_api_Token := if h : ∃ n t ks, Has es n t ks ∧ t.Cap.Obj = o ∧ t.Parent = -1 then ofE es (belowOf es h.choose) else []
theorem ofO_some {es : List En} (w : CWF es) {o : Int} {n t ks l} (hn : Has es n t ks) (ho : t.Cap.Obj = o) (hp : t.Parent = -1) (bl : Below es n l) : ofO es o = ofE es l := by
  have hex : ∃ n t ks, Has es n t ks ∧ t.Cap.Obj = o ∧ t.Parent = -1 := ⟨n, t, ks, hn, ho, hp⟩
  unfold ofO
  rw [dif_pos hex]
  obtain ⟨t', ks', h1, h2, h3⟩ := hex.choose_spec
  have : hex.choose = n := w.one _ _ _ _ _ _ h1 hn h3 hp (h2.trans ho.symm)
  rw [this, bl.eq]
theorem ofO_none {es : List En} {o : Int} (hno : ∀ i t ks, Has es i t ks → t.Cap.Obj ≠ o) : ofO es o = [] := by
  unfold ofO
  rw [dif_neg]
  rintro ⟨n, t, ks, h1, h2, _⟩
  exact hno n t ks h1 h2
theorem ofO_len {es : List En} (w : CWF es) (o : Int) : (ofO es o).length ≤ es.length := by
  unfold ofO
  split
  · rename_i hex
    obtain ⟨t, ks, h1, _⟩ := hex.choose_spec
    obtain ⟨l, bl⟩ := w.ex h1
    rw [bl.eq]
    unfold ofE
    rw [List.length_map]
    exact bl.len
  · exact Nat.zero_le _
section
variable {h : H} {p : Nat} {knob : Int} {G : Nat → Prop} {es : List En}
theorem t_COfU (x : Cat h p knob G es) {o : Int} {K : Sl → H → Prop} (y : ∀ s' h', Buf cTok 5 N_api_Token h' s' (ofO es o) → Keeps h h' → (∀ c, s'.foot c → h c = none) → K s' h') : m_catalogue_Catalogue_Of (some ⟨p, 0, none⟩) o K h :=
  t_COf x (fun hno h' k => y _ h' (by rw [ofO_none hno]; exact Buf.nil) k fun c ⟨_, q, _⟩ => by cases q) fun n t ks l hn ho hp bl s' h' bu k f => y s' h' (by rw [ofO_some x.wf hn ho hp bl]; exact bu) k f
end
end Go.Proofs.YtcclfjhnpeappaaGreat.K
