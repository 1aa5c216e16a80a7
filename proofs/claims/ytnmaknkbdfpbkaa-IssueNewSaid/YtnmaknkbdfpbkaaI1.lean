/- A password that is none of a list: what the functions come to. -/
import Derived.Test.YtnmaknkbdfpbkaaP5
import Derived.Test.YtnmaknkbdfpbkaaFissue
import Derived.Test.YtnmaknkbdfpbkaaFslices
import Derived.Test.YtnmaknkbdfpbkaaFref13
namespace Go.Proofs.Ytnmaknkbdfpbkaa.K
open Go Go.Proofs

def eqB (x w : S_api_Word) : Bool := (decide (x.Hi = w.Hi)) && ((decide (x.Lo = w.Lo)) && true)
theorem eqB_comm (x w : S_api_Word) : eqB x w = eqB w x := by
  unfold eqB
  rw [show decide (x.Hi = w.Hi) = decide (w.Hi = x.Hi) from by rw [decide_eq_decide]; exact eq_comm, show decide (x.Lo = w.Lo) = decide (w.Lo = x.Lo) from by rw [decide_eq_decide]; exact eq_comm]
theorem eqB_iff (x w : S_api_Word) : eqB x w = true ↔ x = w := by
  cases x; cases w; simp [eqB]
/-- Is a word one of a list? -/
def hasW (tk : List S_api_Word) (w : S_api_Word) : Bool := tk.any fun x => eqB x w
/-- What a draw of a word that is not taken comes to: the answer, and how many words are drawn then. -/
def issueF (f : S_api_Word → Bool) (ws : List S_api_Word) : Nat → Nat → (S_api_Word × Int) × Nat
  | 0, n => ((⟨0, 0⟩, 12), n)
  | k + 1, n => match ws[n]? with
    | none => ((⟨0, 0⟩, 11), n)
    | some w => if f w then issueF f ws k (n + 1) else ((w, 0), n + 1)

theorem issueF_none {f : S_api_Word → Bool} {ws : List S_api_Word} {k n : Nat} (e : ws[n]? = none) : issueF f ws (k + 1) n = ((⟨0, 0⟩, 11), n) := by simp only [issueF, e]
theorem issueF_some {f : S_api_Word → Bool} {ws : List S_api_Word} {k n : Nat} {w : S_api_Word} (e : ws[n]? = some w) : issueF f ws (k + 1) n = if f w then issueF f ws k (n + 1) else ((w, 0), n + 1) := by simp only [issueF, e]
theorem hasW_cons (x : S_api_Word) (r : List S_api_Word) (w : S_api_Word) : hasW (x :: r) w = (eqB x w || hasW r w) := rfl
theorem t_Index {h : H} {a0 : Sl} {w : S_api_Word} {tk : List S_api_Word} {K : Int → H → Prop} (ha : Arr S_api_Word.cells h a0 tk) (hc : a0.len ≤ 9223372036854775807) (k : ∀ i, decide (0 ≤ i) = hasW tk w → K i h) : m_slices_Index_api_Word_api_Word a0 w K h := by
  unfold m_slices_Index_api_Word_api_Word
  have hl := ha.len
  have hcap := ha.cap
  refine w_loop (fun i : Int => tk.length - i.toNat) (fun i h' => h = h' ∧ ∃ j : Nat, i = (j : Int) ∧ j ≤ tk.length ∧ hasW tk w = hasW (tk.drop j) w) ?_ ⟨rfl, 0, rfl, Nat.zero_le _, rfl⟩
  rintro rec i _ ⟨rfl, j, rfl, hj, he⟩ ih
  refine w_if' (fun c => ?_) fun c => ?_
  · have hj' : j < tk.length := by omega
    refine w_idx word_len ha (List.getElem?_eq_getElem hj') rfl fun x _ hax => w_load hax ?_
    rw [List.drop_eq_getElem_cons hj'] at he
    refine w_if (fun e => ?_) fun e => ?_
    · refine k _ ?_
      have : eqB tk[j] w = true := by rw [eqB_comm]; exact e
      rw [he, decide_eq_true (by omega), hasW_cons, this]; rfl
    · rw [iAdd_eq (by omega) (by omega)]
      refine ih _ _ ⟨rfl, j + 1, rfl, hj', ?_⟩ (by omega)
      have : eqB tk[j] w = false := by rw [eqB_comm]; exact e
      rw [he, hasW_cons, this]; rfl
  · refine k _ ?_
    rw [he, List.drop_eq_nil_of_le (by omega)]
    rfl
theorem t_Contains {h : H} {a0 : Sl} {w : S_api_Word} {tk : List S_api_Word} {K : Bool → H → Prop} (ha : Arr S_api_Word.cells h a0 tk) (hc : a0.len ≤ 9223372036854775807) (k : K (hasW tk w) h) : m_slices_Contains_api_Word_api_Word a0 w K h := by
  unfold m_slices_Contains_api_Word_api_Word
  exact t_Index ha hc fun i e => by rw [e]; exact k

theorem t_issue_draw {h : H} {p : Addr} {q : Sl} {ws : List S_api_Word} {n : Nat} {fv : Value} {f : S_api_Word → Bool} {K : S_api_Word × Int → H → Prop} (I : H → Prop) (hI : ∀ a b, But (fun b => b = p.block) a b → I a → I b)
    (hcall : ∀ (w : S_api_Word) (h : H) (k : Bool → H → Prop), I h → k (f w) h → mCallV (T := Bool) Try.prog (fun r => (Value.bool r)) fv [(S_api_Word.val w)] k h)
    (d : DrawsAt h p q ws n) (i : I h) (k : ∀ r m h', issueF f ws 9 n = (r, m) → But (fun b => b = p.block) h h' → DrawsAt h' p q ws m → K r h') : m_issue_draw (some p) fv K h := by
  unfold m_issue_draw
  refine w_loop (fun i : Int => 9 - i.toNat) (fun i h' => ∃ (j m : Nat), i = (j : Int) ∧ j ≤ 9 ∧ issueF f ws 9 n = issueF f ws (9 - j) m ∧ But (fun b => b = p.block) h h' ∧ DrawsAt h' p q ws m ∧ I h') ?_ ⟨0, n, rfl, by omega, rfl, .refl _ _, d, i⟩
  rintro rec i h1 ⟨j, m, rfl, hj, he, b1, d1, i1⟩ ih
  refine w_if' (fun c => ?_) fun c => ?_
  · have e9 : 9 - j = (8 - j) + 1 := by omega
    rw [e9] at he
    refine t_Draw d1 (fun e => ?_) fun w h2 hw b2 d2 m2 => ?_
    · refine w_ifT (by decide) (k _ m h1 ?_ b1 d1)
      rw [he, issueF_none (List.getElem?_eq_none (by omega))]
    · have b12 : But (fun b => b = p.block) h h2 := b1.trans b2 fun _ e => .inl e
      refine w_ifF rfl (hcall w h2 _ (hI _ _ b2 i1) ?_)
      rw [issueF_some hw] at he
      refine w_if (fun e => ?_) fun e => ?_
      · have : f w = false := by simpa using e
        refine k _ (m + 1) h2 ?_ b12 d2
        rw [he, this]; rfl
      · have : f w = true := by simpa using e
        rw [iAdd_eq (by omega) (by omega)]
        refine ih _ _ ⟨j + 1, m + 1, rfl, by omega, ?_, b12, d2, hI _ _ b2 i1⟩ (by omega)
        rw [he, this, if_pos rfl]
        congr 1; omega
  · have : j = 9 := by omega
    subst this
    exact k _ m h1 (by rw [he]; rfl) b1 d1

theorem t_issue_Draw {h : H} {p : Addr} {q a1 : Sl} {ws tk : List S_api_Word} {n : Nat} {K : S_api_Word × Int → H → Prop} (d : DrawsAt h p q ws n) (ha : Arr S_api_Word.cells h a1 tk) (hc : a1.len ≤ 9223372036854775807) (hp : tk ≠ [] → ∀ a, a1.a = some a → a.block ≠ p.block)
    (k : ∀ r m h', issueF (hasW tk) ws 9 n = (r, m) → But (fun b => b = p.block) h h' → DrawsAt h' p q ws m → K r h') : m_issue_Draw (some p) a1 K h := by
  unfold m_issue_Draw
  refine w_new fun b hb => ?_
  have k1 : Keeps h (upd h b (.cells #[(Sl.val a1)] 22 (0, 0))) := .new hb
  have hne : b ≠ p.block := fun e => by rw [e, d.cell] at hb; cases hb
  refine t_issue_draw (f := hasW tk) (fun h' => h' b = some (.cells #[(Sl.val a1)] 22 (0, 0)) ∧ Arr S_api_Word.cells h' a1 tk) (fun x y bt ⟨i1, i2⟩ => ⟨bt _ _ i1 hne, i2.but bt hp⟩) (fun w h2 k2 ⟨i1, i2⟩ kk => ?_) (d.keep k1) ⟨upd_same _ _ _, ha.keep k1⟩ fun r m h' e bt d' => ?_
  · refine ⟨56, Try.f56, #[.pointer (some ⟨b, 0, none⟩)], rfl, callee56, ?_⟩
    refine c_issue_Draw_1 (a0 := w) (a1 := ⟨b, 0, none⟩) (K := k2) ?_
    unfold m_issue_Draw_1
    exact w_load (cells := cSl) (v := a1) (At.own (l1 := []) (l2 := [a1.val]) (l3 := []) i1 rfl) (t_Contains i2 hc kk)
  · exact k r m h' e (fun c o ho hf => bt c o (k1 c o ho) hf) d'

theorem t_ref13_Draw {h : H} {p : Addr} {s a1 : Sl} {ws tk : List S_api_Word} {wd : Int} {n : Nat} {K : S_api_Word × Int → H → Prop} (hw : ∀ w ∈ ws, ∃ hi lo, IsW w hi lo) (w1 : 1 ≤ wd) (w2 : wd ≤ 128) (d : RefAt h p s ws wd n)
    (ha : Arr S_api_Word.cells h a1 tk) (hc : a1.len ≤ 9223372036854775807) (hp : tk ≠ [] → ∀ a, a1.a = some a → a.block ≠ p.block)
    (k : ∀ r m h', issueF (hasW tk) (ws.map (cutW wd)) 9 n = (r, m) → But (fun b => b = p.block) h h' → RefAt h' p s ws wd m → K r h') : m_ref13_Draw (some p) a1 K h := by
  unfold m_ref13_Draw
  have hl := ha.len
  have hcap := ha.cap
  refine w_loop (fun i : Int => 9 - i.toNat) (fun i h' => ∃ (j m : Nat), i = (j : Int) ∧ j ≤ 9 ∧ issueF (hasW tk) (ws.map (cutW wd)) 9 n = issueF (hasW tk) (ws.map (cutW wd)) (9 - j) m ∧ But (fun b => b = p.block) h h' ∧ RefAt h' p s ws wd m) ?_ ⟨0, n, rfl, by omega, rfl, .refl _ _, d⟩
  rintro rec i h1 ⟨j, m, rfl, hj, he, b1, d1⟩ ih
  refine w_if' (fun c => ?_) fun c => ?_
  · have e9 : 9 - j = (8 - j) + 1 := by omega
    rw [e9] at he
    refine t_RDraw hw w1 w2 d1 (fun e => ?_) fun w h2 hg b2 d2 => ?_
    · refine w_ifT (by decide) (k _ m h1 ?_ b1 d1)
      rw [he, issueF_none (List.getElem?_eq_none (by rw [List.length_map]; omega))]
    · have b12 : But (fun b => b = p.block) h h2 := b1.trans b2 fun _ e => .inl e
      refine w_ifF rfl ?_
      have hg' : (ws.map (cutW wd))[m]? = some (cutW wd w) := by rw [List.getElem?_map, hg]; rfl
      rw [issueF_some hg'] at he
      generalize cutW wd w = cw at he ⊢
      refine w_loop (fun s : Bool × Int => tk.length - s.2.toNat) (fun s h' => h2 = h' ∧ ∃ j : Nat, s.2 = (j : Int) ∧ j ≤ tk.length ∧ hasW tk cw = (s.1 || hasW (tk.drop j) cw)) ?_ ⟨rfl, 0, rfl, Nat.zero_le _, rfl⟩
      rintro rec2 ⟨fd, jj⟩ _ ⟨rfl, jn, rfl, hjn, hf⟩ ih2
      refine w_if' (fun c2 => ?_) fun c2 => ?_
      · have hj' : jn < tk.length := by omega
        rw [List.drop_eq_getElem_cons hj'] at hf
        refine w_if (fun e => ?_) fun e => ?_
        · show rec2 (true, iAdd .i64 (jn : Int) 1) h2
          rw [iAdd_eq (by omega) (by omega)]
          have e' : fd = true := e
          refine ih2 _ _ ⟨rfl, jn + 1, rfl, hj', ?_⟩ (by show tk.length - ((jn : Int) + 1).toNat < tk.length - (jn : Int).toNat; omega)
          rw [hf, e']; rfl
        · refine w_idx word_len (ha.but b12 hp) (List.getElem?_eq_getElem hj') rfl fun x _ hax => w_load hax ?_
          show rec2 (eqB tk[jn] cw, iAdd .i64 (jn : Int) 1) h2
          rw [iAdd_eq (by omega) (by omega)]
          have e' : fd = false := e
          refine ih2 _ _ ⟨rfl, jn + 1, rfl, hj', ?_⟩ (by show tk.length - ((jn : Int) + 1).toNat < tk.length - (jn : Int).toNat; omega)
          rw [hf, e', hasW_cons]; rfl
      · rw [List.drop_eq_nil_of_le (by omega)] at hf
        have hf' : hasW tk cw = fd := by rw [hf]; simp [hasW]
        refine w_if (fun e => ?_) fun e => ?_
        · have : fd = false := by simpa using e
          refine k _ (m + 1) h2 ?_ b12 d2
          rw [he, hf', this]; rfl
        · have : fd = true := by simpa using e
          rw [iAdd_eq (by omega) (by omega)]
          refine ih _ _ ⟨j + 1, m + 1, rfl, by omega, ?_, b12, d2⟩ (by omega)
          rw [he, hf', this, if_pos rfl]
          congr 1; omega
  · have : j = 9 := by omega
    subst this
    exact k _ m h1 (by rw [he]; rfl) b1 d1
end Go.Proofs.Ytnmaknkbdfpbkaa.K
