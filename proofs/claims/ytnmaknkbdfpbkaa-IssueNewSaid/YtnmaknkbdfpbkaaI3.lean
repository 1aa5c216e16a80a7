/- The law IssueNew. -/
import Derived.Test.YtnmaknkbdfpbkaaI2
import Derived.Test.YtnmaknkbdfpbkaaFlaw13x3
namespace Go.Proofs.Ytnmaknkbdfpbkaa.K
open Go Go.Proofs

/-- What is known of a draw of a word that is not taken. -/
structure Issued (f : S_api_Word → Bool) (ws : List S_api_Word) (k n : Nat) (r : S_api_Word × Int) (m : Nat) : Prop where
  lo : n ≤ m
  hi : m ≤ n + k
  ok : r.2 = 0 → n < m ∧ ws[m - 1]? = some r.1 ∧ f r.1 = false
  bad : r.2 ≠ 0 → r.1 = ⟨0, 0⟩ ∧ ((r.2 = 11 ∧ ws.length ≤ m ∧ m < n + k) ∨ (r.2 = 12 ∧ m = n + k))
  tk : ∀ i, n ≤ i → i < m → ∃ w, ws[i]? = some w ∧ (f w = true ∨ (r.2 = 0 ∧ i = m - 1 ∧ w = r.1))
theorem issued {f : S_api_Word → Bool} {ws : List S_api_Word} : ∀ (k n : Nat) (r : S_api_Word × Int) (m : Nat), issueF f ws k n = (r, m) → Issued f ws k n r m := by
  intro k
  induction k with
  | zero =>
    intro n r m e
    simp only [issueF] at e
    cases e
    exact ⟨Nat.le_refl _, Nat.le_refl _, fun e => absurd e (by decide), fun _ => ⟨rfl, .inr ⟨rfl, rfl⟩⟩, fun i h1 h2 => absurd h2 (by omega)⟩
  | succ k ih =>
    intro n r m e
    cases hw : ws[n]? with
    | none =>
      rw [issueF_none hw] at e
      cases e
      have hn : ws.length ≤ n := by
        rcases Nat.lt_or_ge n ws.length with q | q
        · rw [List.getElem?_eq_getElem q] at hw; cases hw
        · exact q
      exact ⟨Nat.le_refl _, by omega, fun e => absurd e (by decide), fun _ => ⟨rfl, .inl ⟨rfl, hn, by omega⟩⟩, fun i h1 h2 => absurd h2 (by omega)⟩
    | some w =>
      rw [issueF_some hw] at e
      cases hf : f w with
      | true =>
        rw [hf, if_pos rfl] at e
        have x := ih (n + 1) r m e
        refine ⟨by have := x.lo; omega, by have := x.hi; omega, fun e => ?_, fun e => ?_, fun i h1 h2 => ?_⟩
        · obtain ⟨a, b, c⟩ := x.ok e; exact ⟨by omega, b, c⟩
        · obtain ⟨a, b⟩ := x.bad e
          refine ⟨a, b.imp (fun ⟨p, q, s⟩ => ⟨p, q, by omega⟩) fun ⟨p, q⟩ => ⟨p, by omega⟩⟩
        · by_cases c : i = n
          · subst c; exact ⟨w, hw, .inl hf⟩
          · exact x.tk i (by omega) h2
      | false =>
        rw [hf] at e
        simp only [Bool.false_eq_true, if_false] at e
        cases e
        refine ⟨by omega, by omega, fun _ => ⟨by omega, hw, hf⟩, fun e => absurd rfl e, fun i h1 h2 => ⟨w, ?_, .inr ⟨rfl, by omega, rfl⟩⟩⟩
        have : i = n := by omega
        subst this; exact hw
theorem t_among {h : H} {a1 : Sl} {w : S_api_Word} {tk : List S_api_Word} {K : Bool → H → Prop} (ha : Arr S_api_Word.cells h a1 tk) (hc : a1.len ≤ 9223372036854775807) (k : K (hasW tk w) h) : m_law13_among w a1 K h := by
  unfold m_law13_among
  have hl := ha.len
  have hcap := ha.cap
  refine w_loop (fun i : Int => tk.length - i.toNat) (fun i h' => h = h' ∧ ∃ j : Nat, i = (j : Int) ∧ j ≤ tk.length ∧ hasW tk w = hasW (tk.drop j) w) ?_ ⟨rfl, 0, rfl, Nat.zero_le _, rfl⟩
  rintro rec i _ ⟨rfl, j, rfl, hj, he⟩ ih
  refine w_if' (fun c => ?_) fun c => ?_
  · have hj' : j < tk.length := by omega
    refine w_idx word_len ha (List.getElem?_eq_getElem hj') rfl fun x _ hax => w_load hax ?_
    rw [List.drop_eq_getElem_cons hj'] at he
    refine w_if (fun e => ?_) fun e => ?_
    · have : eqB tk[j] w = true := e
      rw [he, hasW_cons, this] at k; exact k
    · rw [iAdd_eq (by omega) (by omega)]
      refine ih _ _ ⟨rfl, j + 1, rfl, hj', ?_⟩ (by omega)
      have : eqB tk[j] w = false := e
      rw [he, hasW_cons, this]; rfl
  · rw [he, List.drop_eq_nil_of_le (by omega)] at k
    exact k
/-- A place out of any number: 0 .. n. -/
theorem place (a : Int) (n : Nat) (hn : n ≤ 500):
    ∃ m : Nat, iRem .i64 (iAdd .i64 (iAdd .i64 (iRem .i64 a (iAdd .i64 (n : Int) 1)) (n : Int)) 1) (iAdd .i64 (n : Int) 1) = (m : Int) ∧ m ≤ n := by
  rw [iAdd_eq (a := (n : Int)) (by omega) (by omega)]
  unfold iRem
  have h1 := Int.tmod_lt_of_pos a (b := (n : Int) + 1) (by omega)
  have h2 := Int.lt_tmod_of_pos a (b := (n : Int) + 1) (by omega)
  rw [iAdd_eq (a := a.tmod ((n : Int) + 1)) (by omega) (by omega), iAdd_eq (a := a.tmod ((n : Int) + 1) + n) (by omega) (by omega)]
  have h3 := Int.tmod_lt_of_pos (a.tmod ((n : Int) + 1) + n + 1) (b := (n : Int) + 1) (by omega)
  have h4 := Int.tmod_nonneg ((n : Int) + 1) (show 0 ≤ a.tmod ((n : Int) + 1) + n + 1 by omega)
  obtain ⟨m, hm⟩ := Int.eq_ofNat_of_zero_le h4
  exact ⟨m, hm, by omega⟩
theorem w_nz {h : H} {b : Int} {k : H → Prop} (e : b ≠ 0) (x : k h) : mNZ b k h := ⟨e, x⟩

theorem t_IssueNew {h : H} {a0 a3 : Sl} {a1 a2 : Int} {ws0 tk : List S_api_Word} {K : Bool → H → Prop} (ha0 : Arr S_api_Word.cells h a0 ws0)
    (ha3 : Arr S_api_Word.cells h a3 tk) (hroom : tk.length * 16 ≤ 2 ^ 47 - 4096) (k : ∀ h', Keeps h h' → K true h') : m_law13_IssueNew a0 a1 a2 a3 K h := by
  unfold m_law13_IssueNew
  obtain ⟨wd, hwd, hw1, hw2⟩ := width a1
  rw [hwd]
  have hl3 := ha3.len
  have hc3 := ha3.cap
  refine w_joinP (fun s1 h' => h = h' ∧ ∃ ws, Arr S_api_Word.cells h s1 ws ∧ ws.length ≤ 500) (fun rest hr => ?_) ?_
  · refine w_if' (fun c => ?_) fun c => ?_
    · refine w_take ha0 (n := 500) (by have := ha0.len; omega) rfl rfl fun s1 hs _ _ => hr _ _ ⟨rfl, _, hs, by rw [List.length_take]; omega⟩
    · exact hr _ _ ⟨rfl, _, ha0, by have := ha0.len; omega⟩
  rintro s1 _ ⟨rfl, ws, ha, hlen⟩
  have hl := ha.len
  refine t_draws_New ha (fun e => absurd e (by omega)) (fun _ _ e => absurd e (by omega)) fun _ _ _ p q h1 k1 d1 fd => ?_
  refine w_join (t_law13_known fun h2 k2 => w_ifF rfl (w_ifF rfl (w_ifF rfl ?_)))
  have fr : h p.block = none := fd _ (.inl rfl)
  have d2 := d1.keep k2
  have k12 := k1.trans k2
  generalize hC : ws.map (cutW wd) = C at d1 d2
  have ml : C.length = ws.length := by rw [← hC]; exact List.length_map ..
  obtain ⟨at_, hat, hat1⟩ := place a2 s1.len (by omega)
  have hnz : iAdd .i64 (s1.len : Int) 1 ≠ 0 := by rw [iAdd_eq (by omega) (by omega)]; omega
  refine w_nz hnz (w_nz hnz ?_)
  rw [hat]
  have skip : ∀ (m : Nat) (h : H) (K : Int → H → Prop), DrawsAt h p q C m → (∀ h', But (fun b => b = p.block) h h' → DrawsAt h' p q C at_ → K 0 h') → m_draws_Draws_Skip (some p) (at_ : Int) K h := fun m h K d k =>
    t_Skip d (fun e => absurd e (by omega)) fun j h' e1 e2 b d' _ => by
      have : j = at_ := by omega
      subst this
      exact k h' b d'
  refine skip 0 h2 _ d2 fun h3 b3 d3 => ?_
  have kF : ∀ n, n = p.block → h n = none := fun n e => by rw [e]; exact fr
  have k3 : Keeps h h3 := k12.but b3 kF
  refine w_new fun b0 hb0 => ?_
  have k4 : Keeps h3 (upd h3 b0 (.cells #[] 25 (0, 0))) := .new hb0
  have bu0 : Buf S_api_Word.cells 2 25 (upd h3 b0 (.cells #[] 25 (0, 0))) ⟨some ⟨b0, 0, none⟩, 0, 0⟩ ([] : List S_api_Word) := ⟨rfl, Nat.le_refl _, .inr ⟨b0, [], rfl, upd_same _ _ _, rfl⟩⟩
  generalize upd h3 b0 (.cells #[] 25 (0, 0)) = h4 at k4 bu0
  refine w_append word_len word_plain rfl bu0 ((ha3.keep k3).keep k4) (.inr ⟨rfl, by omega⟩) fun s13 h5 bu13 bt13 f13 m13 => ?_
  rw [List.nil_append] at bu13
  have fr13 : ∀ b, s13.foot b → h3 b = none := fun b f => (f13 b f).elim (fun ⟨a, e, e'⟩ => by cases e; cases e'; exact hb0) k4.fresh
  have k5 : Keeps h3 h5 := k4.but bt13 fun n ⟨a, e, e'⟩ => by cases e; cases e'; exact hb0
  refine w_app word_len rfl bu13 [⟨71, 0⟩, ⟨72, 0⟩] rfl rfl (.inl (by simp; omega)) fun s15 h6 bu15 bt15 f15 m15 => ?_
  have fr15 : ∀ b, s15.foot b → h3 b = none := fun b f => (f15 b f).elim (fr13 b) k5.fresh
  have k6 : Keeps h3 h6 := k5.but bt15 fr13
  have np : ∀ b, s15.foot b → ¬ b = p.block := fun b f e => by have := fr15 b f; rw [e, d3.cell] at this; cases this
  have fh15 : ∀ b, s15.foot b → h b = none := fun b f => k3.fresh (fr15 b f)
  have d6 := d3.keep k6
  have kk6 := k3.trans k6
  have bl := bu15.len
  have bc := bu15.cap
  rw [List.length_append] at bl
  simp only [List.length_cons, List.length_nil] at bl
  clear bu0 bu13 bt13 f13 m13 fr13 bt15 f15 m15 k4 k5 hb0
  refine w_take bu15.arr (n := tk.length) (by simp) rfl (by rw [hl3]) fun s16 hs16 f16 c16 => ?_
  rw [List.take_left] at hs16
  refine t_issue_Draw d6 hs16 (by have := hs16.len; omega) (fun _ a e => np _ (f16 _ ⟨a, e, rfl⟩)) fun r m h7 e7 b7 d7 => ?_
  have X := issued 9 at_ r m e7
  obtain ⟨rw, re⟩ := r
  have k7 : Keeps h h7 := kk6.but b7 kF
  have bu7 := bu15.but b7 fun a e f => np _ ⟨a, e, rfl⟩ f
  refine t_Taken d7 ?_
  have hm1 := X.lo
  have hm2 := X.hi
  have sub : iSub .i64 (m : Int) (at_ : Int) = ((m - at_ : Nat) : Int) := by rw [iSub_eq (by omega) (by omega)]; omega
  rw [sub]
  refine w_join ?_
  refine w_ifF (decide_eq_false (by omega)) (w_ifF (decide_eq_false (by omega)) ?_)
  refine w_idx word_len bu7.arr (i := tk.length) (v := ⟨71, 0⟩) (by simp) (by rw [hl3]) fun x _ hx => w_load hx (w_ifF (by decide) ?_)
  rw [iAdd_eq (a := (a3.len : Int)) (b := 1) (by omega) (by omega)]
  refine w_idx word_len bu7.arr (i := tk.length + 1) (v := ⟨72, 0⟩) (by simp) (by rw [hl3]; rfl) fun x _ hx => w_load hx (w_ifF (by decide) ?_)
  refine skip m h7 _ d7 fun h8 b8 d8 => ?_
  have k8 := k7.but b8 kF
  have bu8 := bu7.but b8 fun a e f => np _ ⟨a, e, rfl⟩ f
  refine w_loop (fun i : Int => (m - at_) - i.toNat) (fun i h' => ∃ j : Nat, i = (j : Int) ∧ j ≤ m - at_ ∧ DrawsAt h' p q C (at_ + j) ∧ But (fun b => b = p.block) h8 h') ?_ ⟨0, rfl, Nat.zero_le _, d8, .refl _ _⟩
  rintro rec i h9 ⟨j, rfl, hj, d9, b9⟩ ih
  have k9 := k8.but b9 kF
  have bu9 := bu8.but b9 fun a e f => np _ ⟨a, e, rfl⟩ f
  refine w_if' (fun c => ?_) fun c => ?_
  · have hj' : j < m - at_ := by omega
    obtain ⟨w, hw, hor⟩ := X.tk (at_ + j) (by omega) (by omega)
    refine t_Draw d9 (fun e => absurd (lt_of_get hw) (by omega)) fun w' h10 hw' b10 d10 _ => ?_
    rw [hw] at hw'
    obtain rfl := Option.some.inj hw'
    have k10 := k9.but b10 kF
    refine w_joinP (fun b h' => h10 = h' ∧ b = (decide (re = 0) && decide (at_ + j = m - 1))) (fun rest hr => ?_) ?_
    · refine w_if' (fun c0 => hr _ _ ⟨rfl, ?_⟩) fun c0 => hr _ _ ⟨rfl, ?_⟩
      · rw [decide_eq_true c0, Bool.true_and, iSub_eq (by omega) (by omega), decide_eq_decide]; omega
      · rw [decide_eq_false c0]; rfl
    rintro b _ ⟨rfl, rfl⟩
    refine w_joinP (fun b h' => h10 = h' ∧ b = false) (fun rest hr => ?_) ?_
    · refine w_ifF rfl (t_among (ha3.keep k10) (by omega) ?_)
      have hx : hasW tk w = !(decide (re = 0) && decide (at_ + j = m - 1)) := by
        by_cases c1 : re = 0 ∧ at_ + j = m - 1
        · rw [decide_eq_true c1.1, decide_eq_true c1.2]
          obtain ⟨_, h2, h3⟩ := X.ok c1.1
          rw [← c1.2, hw] at h2
          obtain rfl := Option.some.inj h2
          exact h3
        · have : (decide (re = 0) && decide (at_ + j = m - 1)) = false := by
            rw [Bool.and_eq_false_iff, decide_eq_false_iff_not, decide_eq_false_iff_not]
            by_cases c2 : re = 0
            · exact .inr fun c3 => c1 ⟨c2, c3⟩
            · exact .inl c2
          rw [this]
          rcases hor with q | ⟨q1, q2, _⟩
          · exact q
          · exact absurd ⟨q1, q2⟩ c1
      rw [hx]
      refine w_ifF (by cases (decide (re = 0) && decide (at_ + j = m - 1)) <;> rfl) ?_
      refine w_if (fun e => ?_) fun _ => hr _ _ ⟨rfl, rfl⟩
      rw [Bool.and_eq_true, decide_eq_true_eq, decide_eq_true_eq] at e
      obtain ⟨_, h2, h3⟩ := X.ok e.1
      rw [← e.2, hw] at h2
      obtain rfl := Option.some.inj h2
      exact hr _ _ ⟨rfl, eqw _⟩
    · rintro b _ ⟨rfl, rfl⟩
      refine w_ifF rfl ?_
      rw [iAdd_eq (by omega) (by omega)]
      exact ih _ _ ⟨j + 1, rfl, hj', d10, b9.trans b10 fun _ e => .inl e⟩ (by omega)
  clear ih
  have hje : at_ + j = m := by omega
  rw [hje] at d9
  refine t_Left d9 ?_
  have hmC := d9.le
  refine w_joinP (fun b h' => h9 = h' ∧ b = false) (fun rest hr => ?_) ?_
  · by_cases c0 : re = 0
    · obtain ⟨o1, _, _⟩ := X.ok c0
      subst c0
      exact w_ifT rfl (w_ifF (decide_eq_false (by omega)) (w_ifF rfl (w_ifF rfl (w_ifF rfl (hr _ _ ⟨rfl, rfl⟩)))))
    · obtain ⟨z, o⟩ := X.bad c0
      cases z
      rcases o with ⟨o1, o2, o3⟩ | ⟨o1, o2⟩
      · cases o1
        refine w_ifF rfl (w_ifT rfl (w_ifF ?_ (w_ifF (decide_eq_false (by omega)) (w_ifF rfl (w_ifT rfl (w_ifF rfl (hr _ _ ⟨rfl, by decide⟩)))))))
        rw [show C.length - m = 0 by omega]; rfl
      · cases o1
        refine w_ifF rfl (w_ifF rfl (w_ifT rfl (w_ifF ?_ (w_ifT rfl (w_ifT rfl (w_ifF rfl (hr _ _ ⟨rfl, by decide⟩)))))))
        rw [show m - at_ = 9 by omega]; rfl
  rintro b _ ⟨rfl, rfl⟩
  refine w_ifF rfl (skip m h9 _ d9 fun h10 b10 d10 => ?_)
  have k10 := k9.but b10 kF
  have bu10 := bu9.but b10 fun a e f => np _ ⟨a, e, rfl⟩ f
  refine w_take bu10.arr (n := tk.length) (by simp) rfl (by rw [hl3]) fun s52 hs52 f52 _ => ?_
  rw [List.take_left] at hs52
  refine t_issue_Draw d10 hs52 (by have := hs52.len; omega) (fun _ a e => np _ (f52 _ ⟨a, e, rfl⟩)) fun r2 m2 h11 e11 b11 d11 => ?_
  obtain ⟨rfl, rfl⟩ := Prod.mk.inj (e7.symm.trans e11)
  have k11 := k10.but b11 kF
  have bu11 := bu10.but b11 fun a e f => np _ ⟨a, e, rfl⟩ f
  refine w_join (w_ifF (eqw _) (w_ifF (by simp) ?_))
  refine w_loop (fun i : Int => tk.length - i.toNat) (fun i h' => h11 = h' ∧ ∃ j : Nat, i = (j : Int) ∧ j ≤ tk.length) ?_ ⟨rfl, 0, rfl, Nat.zero_le _⟩
  rintro rec i _ ⟨rfl, j2, rfl, hj2⟩ ih
  refine w_if' (fun c => ?_) fun c => ?_
  · have hj' : j2 < tk.length := by omega
    refine w_idx word_len bu11.arr (i := j2) (v := tk[j2]) (by rw [List.getElem?_append_left hj', List.getElem?_eq_getElem hj']) rfl fun x _ hx => ?_
    refine w_idx word_len (ha3.keep k11) (List.getElem?_eq_getElem hj') rfl fun y _ hy => w_load hx (w_load hy (w_ifF (eqw _) ?_))
    rw [iAdd_eq (by omega) (by omega)]
    exact ih _ _ ⟨rfl, j2 + 1, rfl, hj'⟩ (by omega)
  clear ih
  refine w_joinP (fun b h' => h11 = h' ∧ (b = false → re = 0 ∧ 0 < tk.length)) (fun rest hr => ?_) ?_
  · refine w_if (fun _ => hr _ _ ⟨rfl, fun e => by cases e⟩) fun e => hr _ _ ⟨rfl, fun e2 => ⟨?_, ?_⟩⟩
    · have e : (!decide (re = 0)) = false := e
      simpa using e
    · have := of_decide_eq_false e2; omega
  rintro b _ ⟨rfl, hb⟩
  refine w_if (fun _ => k _ k11) fun e => ?_
  obtain ⟨c0, c1⟩ := hb e
  subst c0
  obtain ⟨o1, o2, o3⟩ := X.ok rfl
  have hg : (tk ++ [⟨71, 0⟩, ⟨72, 0⟩])[0]? = some tk[0] := by rw [List.getElem?_append_left c1, List.getElem?_eq_getElem c1]
  refine w_idx word_len bu11.arr (i := 0) hg rfl fun x hx hax => ?_
  refine w_set word_len bu11 (v' := rw) hg hx (c1 := []) (c2 := S_api_Word.cells tk[0]) (c3 := []) (new := S_api_Word.cells rw) (by simp) (by simp) rfl (add_zero _).symm fun h12 bu12 b12 _ => ?_
  have k12' := k11.but b12 fh15
  have d12 := d11.but b12 fun b f s => by
    rcases f with rfl | f
    · exact np _ s rfl
    · have := fr15 b s; exact d3.live (.inr f) this
  refine skip m h12 _ d12 fun h13 b13 d13 => ?_
  have bu13 := bu12.but b13 fun a e f => np _ ⟨a, e, rfl⟩ f
  have hset : (tk ++ [(⟨71, 0⟩ : S_api_Word), ⟨72, 0⟩]).set 0 rw = tk.set 0 rw ++ [⟨71, 0⟩, ⟨72, 0⟩] := by rw [List.set_append_left _ _ c1]
  rw [hset] at bu13
  have ls : (tk.set 0 rw).length = tk.length := List.length_set ..
  refine w_take bu13.arr (n := (tk.set 0 rw).length) (by simp) rfl (by rw [hl3, ls]) fun s77 hs77 f77 _ => ?_
  rw [List.take_left] at hs77
  refine t_issue_Draw d13 hs77 (by have := hs77.len; omega) (fun _ a e => np _ (f77 _ ⟨a, e, rfl⟩)) fun r3 m3 h14 e14 b14 d14 => ?_
  have k14 := (k12'.but b13 kF).but b14 kF
  have Y := issued 9 at_ r3 m3 e14
  obtain ⟨rw3, re3⟩ := r3
  refine w_if (fun e => ?_) fun e => ?_
  · have e : (!decide (re3 = 0)) = true := e
    obtain ⟨z, _⟩ := Y.bad (by simpa using e)
    cases z
    exact k _ k14
  · have e : (!decide (re3 = 0)) = false := e
    obtain ⟨_, _, y3⟩ := Y.ok (by simpa using e)
    have : eqB rw3 rw = false := by
      cases hq : eqB rw3 rw with
      | false => rfl
      | true =>
        have hqq := (eqB_iff _ _).1 hq
        subst hqq
        have : hasW (tk.set 0 rw3) rw3 = true := by
          unfold hasW
          rw [List.any_eq_true]
          exact ⟨rw3, List.mem_iff_getElem?.2 ⟨0, by rw [List.getElem?_set_self c1]⟩, (eqB_iff _ _).2 rfl⟩
        rw [this] at y3; cases y3
    show K (!(eqB rw3 rw)) h14
    rw [this]
    exact k _ k14
end Go.Proofs.Ytnmaknkbdfpbkaa.K
