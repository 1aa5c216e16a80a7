/- The law IssueDraws. -/
import Derived.Test.YtnmaknkbdfpbkaaI1
import Derived.Test.YtnmaknkbdfpbkaaFlaw13
import Derived.Test.YtnmaknkbdfpbkaaFlaw13x2
namespace Go.Proofs.Ytnmaknkbdfpbkaa.K
open Go Go.Proofs

theorem t_law13_known {h : H} {K : Bool → H → Prop} (k : ∀ h', Keeps h h' → K true h') : m_law13_known K h := by
  unfold m_law13_known
  refine w_new fun b hb => ?_
  have hk0 : Keeps h (upd h b (.cells #[(Value.int .u64 0), (Value.int .u64 1), (Value.int .u64 0), (Value.int .u64 1), (Value.int .u64 0), (Value.int .u64 2)] 25 (0, 0))) := .new hb
  have arr : Arr S_api_Word.cells (upd h b (.cells #[(Value.int .u64 0), (Value.int .u64 1), (Value.int .u64 0), (Value.int .u64 1), (Value.int .u64 0), (Value.int .u64 2)] 25 (0, 0))) ⟨some ⟨b, 0, none⟩, 3, 3⟩ [⟨0, 1⟩, ⟨0, 1⟩, ⟨0, 2⟩] :=
    ⟨rfl, Nat.le_refl _, fun _ => ⟨_, rfl, At.own (l1 := []) (l3 := []) (upd_same _ _ _) rfl⟩⟩
  generalize upd h b (.cells #[(Value.int .u64 0), (Value.int .u64 1), (Value.int .u64 0), (Value.int .u64 1), (Value.int .u64 0), (Value.int .u64 2)] 25 (0, 0)) = h1 at hk0 arr
  refine t_draws_New arr (fun e => absurd e (by decide)) (fun _ _ e => absurd e (by decide)) fun _ _ _ p s h2 hk1 d hf => ?_
  have e0 : ([⟨0, 1⟩, ⟨0, 1⟩, ⟨0, 2⟩] : List S_api_Word).map (cutW 8) = [⟨0, 1⟩, ⟨0, 1⟩, ⟨0, 2⟩] := by
    simp only [List.map]
    have e1 : cutW 8 ⟨0, 1⟩ = ⟨0, 1⟩ := by unfold cutW; rw [if_pos (by decide)]; congr 1
    have e2 : cutW 8 ⟨0, 2⟩ = ⟨0, 2⟩ := by unfold cutW; rw [if_pos (by decide)]; congr 1
    rw [e1, e2]
  rw [e0] at d
  have hp : h p.block = none := hk0.fresh (hf _ (.inl rfl))
  refine w_join (w_ifF rfl (w_ifF rfl ?_))
  have nil : ∀ h', Arr S_api_Word.cells h' Sl.nil [] := fun h' => ⟨rfl, Nat.le_refl _, fun e => absurd rfl e⟩
  refine t_issue_Draw d (nil _) (by decide) (fun e => absurd rfl e) fun r m h3 e b1 d1 => ?_
  have e' : issueF (hasW []) [⟨0, 1⟩, ⟨0, 1⟩, ⟨0, 2⟩] 9 0 = ((⟨0, 1⟩, 0), 1) := rfl
  obtain ⟨rfl, rfl⟩ := Prod.mk.inj (e'.symm.trans e)
  refine w_new fun b2 hb2 => ?_
  have k3 : Keeps h3 (upd h3 b2 (.cells #[(Value.int .u64 0), (Value.int .u64 1)] 25 (0, 0))) := .new hb2
  have arr2 : Arr S_api_Word.cells (upd h3 b2 (.cells #[(Value.int .u64 0), (Value.int .u64 1)] 25 (0, 0))) ⟨some ⟨b2, 0, none⟩, 1, 1⟩ [⟨0, 1⟩] :=
    ⟨rfl, Nat.le_refl _, fun _ => ⟨_, rfl, At.own (l1 := []) (l3 := []) (upd_same _ _ _) rfl⟩⟩
  have hne : b2 ≠ p.block := fun e => by rw [e, d1.cell] at hb2; cases hb2
  refine t_issue_Draw (d1.keep k3) arr2 (Nat.le_trans (Nat.le_refl 1) (by decide)) (fun _ a e => by cases e; exact hne) fun r m h4 e b3 d2 => ?_
  have e' : issueF (hasW [⟨0, 1⟩]) [⟨0, 1⟩, ⟨0, 1⟩, ⟨0, 2⟩] 9 1 = ((⟨0, 2⟩, 0), 3) := by kernel_rfl
  obtain ⟨rfl, rfl⟩ := Prod.mk.inj (e'.symm.trans e)
  refine t_issue_Draw d2 (nil _) (by decide) (fun e => absurd rfl e) fun r m h5 e b4 d3 => ?_
  have e' : issueF (hasW []) [⟨0, 1⟩, ⟨0, 1⟩, ⟨0, 2⟩] 9 3 = ((⟨0, 0⟩, 11), 3) := rfl
  obtain ⟨rfl, rfl⟩ := Prod.mk.inj (e'.symm.trans e)
  refine w_ifT (by decide) (w_ifT (by decide) (w_ifT (by decide) (w_ifT (by decide) (w_ifT (by decide) (t_Taken d3 ?_)))))
  have fr : ∀ n, n = p.block → h n = none := fun n e => by rw [e]; exact hp
  exact k _ ((((((hk0.trans hk1).but b1 fr).trans k3).but b3 fr)).but b4 fr)

/-- An ask as it lies in memory. -/
structure Ask where
  Taken : Sl
  Back : Int
def Ask.cells (x : Ask) : List Value := [x.Taken.val, .int .i64 x.Back]
theorem ask_len : ∀ x : Ask, (Ask.cells x).length = 2 := fun _ => rfl
/-- The list of an ask can be read. -/
def AskOk (h : H) (x : Ask) : Prop := ∃ tk, Arr S_api_Word.cells h x.Taken tk ∧ x.Taken.len ≤ 9223372036854775807

theorem t_IssueDraws {h : H} {a0 a2 : Sl} {a1 : Int} {ws : List S_api_Word} {asks : List Ask} {K : Bool → H → Prop} (ha0 : Arr S_api_Word.cells h a0 ws) (hw : ∀ w ∈ ws, ∃ hi lo, IsW w hi lo)
    (ha2 : Arr Ask.cells h a2 asks) (hcap : a2.cap ≤ 9223372036854775807) (hask : ∀ x ∈ asks, AskOk h x) (k : ∀ h', Keeps h h' → K true h') : m_law13_IssueDraws a0 a1 a2 K h := by
  unfold m_law13_IssueDraws
  have hl2 := ha2.len
  have hc2 := ha2.cap
  refine t_RefNew ha0 fun r1 h1 k1 e1 _ s1 => ?_
  refine t_New (ha0.keep k1) fun r3 h2 k2 e3 n3 s3 => ?_
  refine w_join (t_law13_known fun h3 k3 => ?_)
  obtain ⟨p1, c1, c2⟩ := mkPair (hz := h3) hw (.refl h1) (k2.trans k3) k3 e1 s1 e3 n3 s3
  refine w_ifF rfl (w_ifF c1 (w_ifF c2 ?_))
  have G : ∀ b, (Born h h1 b ∨ Born h1 h2 b) → h b = none := by
    rintro b (x | x)
    · exact x.1
    · exact k1.fresh x.1
  generalize hF : (fun b => Born h h1 b ∨ Born h1 h2 b) = F at p1
  have G : ∀ b, F b → h b = none := by rw [← hF]; exact G
  clear hF
  have kk : Keeps h h3 := (k1.trans k2).trans k3
  clear s1 s3 e1 e3 n3 k1 k2 k3 c1
  refine w_loop (fun i : Int => asks.length - i.toNat) (fun i h' => ∃ j : Nat, i = (j : Int) ∧ j ≤ asks.length ∧ Op F h' r3.1 r1.1 ∧ Keeps h h') ?_ ⟨0, rfl, Nat.zero_le _, p1, kk⟩
  rintro rec i h4 ⟨j, rfl, hj, q1, k4⟩ ih
  refine w_joinP (fun b h' => h4 = h' ∧ (b = true → j < asks.length ∧ r1.2 = 0)) (fun rest hr => ?_) ?_
  · refine w_if' (fun c => hr _ _ ⟨rfl, fun e => ⟨by omega, of_decide_eq_true e⟩⟩) fun c => hr _ _ ⟨rfl, fun e => by cases e⟩
  rintro b _ ⟨rfl, hb⟩
  refine w_if (fun e => ?_) fun _ => k _ k4
  obtain ⟨hj', h0⟩ := hb e
  have hg : asks[j]? = some asks[j] := List.getElem?_eq_getElem hj'
  obtain ⟨tk, arr, tcap⟩ := hask _ (List.getElem_mem hj')
  rcases q1 with q1 | ⟨p, ep, pa⟩
  · rw [q1, h0] at c2; exact absurd c2 (by decide)
  obtain ⟨q, r', s, ws', wd, n, er, w1, w2, hw', d, rr, f1, f2, ap⟩ := pa.ex
  rw [ep, er]
  have fresh : ∀ b, F b → tk ≠ [] → ∀ a, asks[j].Taken.a = some a → a.block ≠ b := fun b fb hne a ha e => by
    obtain ⟨a', ha', q⟩ := arr.at_ hne
    rw [ha] at ha'; cases ha'
    obtain ⟨o, ho⟩ := q.ex
    rw [e, G b fb] at ho; cases ho
  have fp : F p.block := f1 _ (.inl rfl)
  have frr : F r'.block := f2 _ (.inl rfl)
  refine w_idx ask_len (ha2.keep k4) hg rfl fun x _ hax => ?_
  refine w_load (cells := cInt .i64) (v := asks[j].Back) (At.sub (l1 := [asks[j].Taken.val]) (l2 := [.int .i64 asks[j].Back]) (l3 := []) hax rfl) ?_
  refine w_meet (fun h' => ∃ n', DrawsAt h' p q (ws'.map (cutW wd)) n' ∧ RefAt h' r' s ws' wd n' ∧ But F h4 h') ?rest (fun main => ?use) ?main
  case use =>
    have pf : ∀ b, Foot r' s b → ¬ b = p.block := fun b f e => ap b (.inl e) f
    have rf : ∀ b, Foot p q b → ¬ b = r'.block := fun b f e => ap b f (.inl e)
    have ml : (ws'.map (cutW wd)).length = ws'.length := List.length_map ..
    refine t_Skip d (fun bad => ?_) fun j' h5 hj5 hl5 b5 d5 m5 => ?_
    · refine w_idx ask_len (ha2.keep k4) hg rfl fun x _ hax => ?_
      refine w_load (cells := cInt .i64) (v := asks[j].Back) (At.sub (l1 := [asks[j].Taken.val]) (l2 := [.int .i64 asks[j].Back]) (l3 := []) hax rfl) ?_
      refine t_RSkip rr (fun _ => ?_) fun j' h' e' e2 => absurd bad (by omega)
      exact main h4 ⟨n, d, rr, .refl _ _⟩
    · have b5' : But F h4 h5 := b5.mono fun b e => by rw [e]; exact fp
      have k5 : Keeps h h5 := k4.but b5' G
      refine w_idx ask_len (ha2.keep k5) hg rfl fun x _ hax => ?_
      refine w_load (cells := cInt .i64) (v := asks[j].Back) (At.sub (l1 := [asks[j].Taken.val]) (l2 := [.int .i64 asks[j].Back]) (l3 := []) hax rfl) ?_
      refine t_RSkip (rr.but b5 pf) (fun e => absurd e (by omega)) fun j'' h6 hj6 hl6 b6 rr6 => ?_
      have : j'' = j' := by omega
      subst this
      exact main h6 ⟨j'', d5.but b6 rf, rr6, b5'.trans (b6.mono fun b e => by rw [e]; exact frr) fun b e => .inl e⟩
  case main =>
    rintro h6 ⟨n', d6, rr6, b6⟩
    have k6 : Keeps h h6 := k4.but b6 G
    have pf : ∀ b, Foot r' s b → ¬ b = p.block := fun b f e => ap b (.inl e) f
    have rf : ∀ b, Foot p q b → ¬ b = r'.block := fun b f e => ap b f (.inl e)
    refine w_idx ask_len (ha2.keep k6) hg rfl fun x _ hax => ?_
    refine w_load (cells := cSl) (v := asks[j].Taken) (At.sub (l1 := []) (l2 := [asks[j].Taken.val]) (l3 := [.int .i64 asks[j].Back]) hax rfl) ?_
    refine t_ref13_Draw hw' w1 w2 rr6 (arr.keep k6) tcap (fresh _ frr) fun r m h7 er7 b7 rr7 => ?_
    have k7 : Keeps h h7 := k6.but (b7.mono fun b e => by rw [e]; exact frr) G
    refine w_idx ask_len (ha2.keep k7) hg rfl fun x _ hax => ?_
    refine w_load (cells := cSl) (v := asks[j].Taken) (At.sub (l1 := []) (l2 := [asks[j].Taken.val]) (l3 := [.int .i64 asks[j].Back]) hax rfl) ?_
    refine t_issue_Draw (d6.but b7 rf) (arr.keep k7) tcap (fresh _ fp) fun r2 m2 h8 er8 b8 d8 => ?_
    obtain ⟨rfl, rfl⟩ := Prod.mk.inj (er7.symm.trans er8)
    have k8 : Keeps h h8 := k7.but (b8.mono fun b e => by rw [e]; exact fp) G
    have rr8 := rr7.but b8 pf
    refine w_join (w_ifF (eqw _) (w_ifF (by simp) (t_Taken d8 (t_RTaken rr8 (w_ifF (by simp) ?_)))))
    rw [iAdd_eq (by omega) (by omega)]
    refine ih _ _ ⟨j + 1, rfl, hj', ?_, k8⟩ (by omega)
    exact .inr ⟨p, ep, ⟨q, r', s, ws', wd, m, er, w1, w2, hw', d8, rr8, f1, f2, ap⟩⟩
end Go.Proofs.Ytnmaknkbdfpbkaa.K
