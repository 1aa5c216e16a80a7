/- The counter of draws: what the functions come to. -/
import Derived.Test.YtnmaknkbdfpbkaaL1
import Derived.Test.YtnmaknkbdfpbkaaU1
import Derived.Test.YtnmaknkbdfpbkaaFdraws
import Derived.Test.YtnmaknkbdfpbkaaFlaw04
import Derived.Test.YtnmaknkbdfpbkaaFref04
import Derived.Test.YtnmaknkbdfpbkaaFwide
namespace Go.Proofs.Ytnmaknkbdfpbkaa.K
open Go

theorem add_mk (b o i : Nat) : (⟨b, o, none⟩ : Addr).add i = ⟨b, o + i, none⟩ := by
  unfold Addr.add; split
  · rename_i e; subst e; rfl
  · rfl
theorem word_len : ∀ x : S_api_Word, (S_api_Word.cells x).length = 2 := fun _ => rfl
theorem word_plain : ∀ x : S_api_Word, (S_api_Word.cells x).all plainVal = true := fun _ => rfl

/-- A word cut to its 'n' lowest bits, as the program cuts it. -/
def cutW (n : Int) (w : S_api_Word) : S_api_Word :=
  if n < 64 then ⟨0, iAnd .u64 w.Lo (iSub .u64 (iShl .u64 1 n) 1)⟩ else if n < 128 then ⟨iAnd .u64 w.Hi (iSub .u64 (iShl .u64 1 (n - 64)) 1), w.Lo⟩ else w
section
variable {h : H} {K : S_api_Word → H → Prop} {w : S_api_Word} {n : Int}
theorem t_law04_cut (h1 : 1 ≤ n) (h2 : n ≤ 128) (k : K (cutW n w) h) : m_law04_cut w n K h := by
  unfold m_law04_cut
  unfold cutW at k
  refine w_if' (fun c => ?_) fun c => w_if' (fun c2 => ?_) fun c2 => ?_
  · rw [if_pos c] at k; exact w_nn (by omega) k
  · rw [if_neg c, if_pos c2] at k
    rw [iSub_eq (by omega) (by omega)]
    exact w_nn (by omega) k
  · rw [if_neg c, if_neg c2] at k; exact k
theorem w_cut0 {K : Int → H → Prop} {w n : Int} (e : n ≤ 0) (k : K 0 h) : m_wide_cut w n K h := w_ifT (decide_eq_true e) k
theorem w_cut1 {K : Int → H → Prop} {w n : Int} (e1 : 0 < n) (e2 : n < 64) (k : K (iAnd .u64 w (iSub .u64 (iShl .u64 1 n) 1)) h) : m_wide_cut w n K h :=
  w_ifF (decide_eq_false (by omega)) (w_ifF (decide_eq_false (by omega)) (w_nn (by omega) k))
theorem w_cut2 {K : Int → H → Prop} {w n : Int} (e2 : 64 ≤ n) (k : K w h) : m_wide_cut w n K h :=
  w_ifF (decide_eq_false (by omega)) (w_ifT (decide_eq_true e2) k)
theorem t_wide_Cut (h1 : 1 ≤ n) (h2 : n ≤ 128) (k : K (cutW n w) h) : m_wide_Cut w n K h := by
  unfold m_wide_Cut
  have e1 : iMax n 0 = n := by unfold iMax; rw [if_neg (by omega)]
  have e2 : iMin n 128 = n := by
    unfold iMin
    split
    · omega
    · rfl
  rw [e1, e2, iSub_eq (by omega) (by omega)]
  unfold cutW at k
  by_cases c : n < 64
  · rw [if_pos c] at k
    exact w_pure 0 (fun h' k' q => w_cut0 (by omega) q) (w_pure _ (fun h' k' q => w_cut1 (by omega) c q) k)
  · rw [if_neg c] at k
    by_cases c2 : n < 128
    · rw [if_pos c2] at k
      by_cases c3 : n = 64
      · subst c3
        refine w_pure 0 (fun h' k' q => w_cut0 (by omega) q) (w_pure _ (fun h' k' q => w_cut2 (by omega) q) ?_)
        have : iAnd .u64 w.Hi (iSub .u64 (iShl .u64 1 (64 - 64)) 1) = 0 := by
          have e : iSub .u64 (iShl .u64 1 (64 - 64)) 1 = 0 := by decide
          rw [e]
          unfold iAnd
          simp
          decide
        rw [this] at k
        exact k
      · exact w_pure _ (fun h' k' q => w_cut1 (by omega) (by omega) q) (w_pure _ (fun h' k' q => w_cut2 (by omega) q) k)
    · rw [if_neg c2] at k
      exact w_pure _ (fun h' k' q => w_cut2 (by omega) q) (w_pure _ (fun h' k' q => w_cut2 (by omega) q) k)
end

/-- A counter of draws at 'p': the words 'ws', of which 'n' are drawn. -/
structure DrawsAt (h : H) (p : Addr) (s : Sl) (ws : List S_api_Word) (n : Nat) : Prop where
  p0 : p = ⟨p.block, 0, none⟩
  cell : h p.block = some (.cells #[s.val, .int .i64 n] 97 (0, 0))
  buf : Buf S_api_Word.cells 2 25 h s ws
  ap : ¬ s.foot p.block
  le : n ≤ ws.length
  most : ws.length ≤ 4096
def Foot (p : Addr) (s : Sl) (b : Nat) : Prop := b = p.block ∨ s.foot b
theorem DrawsAt.but {F : Nat → Prop} {h h' : H} {p : Addr} {s : Sl} {ws : List S_api_Word} {n : Nat} (x : DrawsAt h p s ws n) (k : But F h h') (f : ∀ b, Foot p s b → ¬ F b) : DrawsAt h' p s ws n :=
  ⟨x.p0, k _ _ x.cell (f _ (.inl rfl)), x.buf.but k (fun a ha => f _ (.inr ⟨a, ha, rfl⟩)), x.ap, x.le, x.most⟩
theorem DrawsAt.keep {h h' : H} {p : Addr} {s : Sl} {ws : List S_api_Word} {n : Nat} (x : DrawsAt h p s ws n) (k : Keeps h h') : DrawsAt h' p s ws n :=
  ⟨x.p0, k _ _ x.cell, x.buf.keep k, x.ap, x.le, x.most⟩

theorem t_draws_New {h : H} {a0 : Sl} {a1 : Int} {ws : List S_api_Word} {K : Option Addr × Int → H → Prop} (ha : Arr S_api_Word.cells h a0 ws)
    (k1 : a1 < 1 ∨ 128 < a1 → K (none, 18) h) (k2 : 1 ≤ a1 → a1 ≤ 128 → 4096 < ws.length → K (none, 23) h)
    (k3 : 1 ≤ a1 → a1 ≤ 128 → ws.length ≤ 4096 → ∀ p s h', Keeps h h' → DrawsAt h' p s (ws.map (cutW a1)) 0 → (∀ b, Foot p s b → h b = none) → K (some p, 0) h') :
    m_draws_New a0 a1 K h := by
  unfold m_draws_New
  refine w_join (w_if' (fun c => w_ifT rfl (k1 (.inl c))) fun c => ?_)
  refine w_if' (fun c2 => k1 (.inr c2)) fun c2 => ?_
  refine w_if' (fun c3 => k2 (by omega) (by omega) (by have := ha.len; omega)) fun c3 => ?_
  have hl := ha.len
  refine w_new fun b hb => ?_
  refine w_loop (fun i : Int => ws.length - i.toNat) (fun i h' => ∃ j : Nat, i = (j : Int) ∧ j ≤ ws.length ∧ ∃ s, h' b = some (.cells #[s.val, .int .i64 0] 97 (0, 0)) ∧ Buf S_api_Word.cells 2 25 h' s ((ws.take j).map (cutW a1)) ∧
    ¬ s.foot b ∧ (∀ c, s.foot c → h c = none) ∧ Keeps h h') ?_ ⟨0, rfl, Nat.zero_le _, Sl.nil, upd_same _ _ _, Buf.nil, ?_, ?_, .new hb⟩
  · rintro rec i h' ⟨j, rfl, hj, s, hc, hbuf, hap, hfr, hk⟩ ih
    refine w_if' (fun c => ?_) fun c => ?_
    · have hj' : j < ws.length := by omega
      have ha' := ha.keep hk
      refine w_idx word_len ha' (List.getElem?_eq_getElem hj') rfl fun x _ hx => ?_
      refine w_load hx ?_
      refine w_pure _ (fun _ _ q => t_wide_Cut (by omega) (by omega) q) ?_
      rw [add_mk]
      refine w_load (cells := cSl) (v := s) (At.own (l1 := []) (l2 := [s.val]) (l3 := [.int .i64 0]) hc rfl) ?_
      have hlen : ((ws.take j).map (cutW a1)).length = j := by simp; omega
      refine w_app word_len rfl hbuf [cutW a1 ws[j]] rfl rfl (.inl (by rw [hlen]; simp; omega)) fun s' h'' hb' hbut hfoot hmono => ?_
      have hc' := hbut _ _ hc hap
      have hap' : ¬ s'.foot b := fun f => (hfoot _ f).elim hap fun e => by rw [hc] at e; cases e
      refine w_store (l1 := []) (l2 := [s.val]) (l3 := [.int .i64 0]) rfl hc' rfl rfl ?_
      rw [iAdd_eq (by omega) (by omega)]
      refine ih _ _ ⟨j + 1, rfl, hj', s', upd_same _ _ _, ?_, hap', ?_, ?_⟩ (by omega)
      · have hb2 : Buf S_api_Word.cells 2 25 h'' s' ((ws.take (j + 1)).map (cutW a1)) := by
          rw [List.take_succ_eq_append_getElem hj', List.map_append]
          exact hb'
        exact hb2.but (But.upd (F := fun x => x = b) rfl) fun a ha e => hap' ⟨a, ha, e⟩
      · intro c hc2
        rcases hfoot c hc2 with q | q
        · exact hfr c q
        · exact (But.of hk : But (fun _ => False) _ _).fresh q id
      · refine fun c o hco => ?_
        have h1 := hk c o hco
        have h2 := hbut c o h1 fun f => by rw [hfr c f] at hco; cases hco
        rw [upd_ne]; exact h2
        intro e; subst e; rw [hb] at hco; cases hco
    · have hj' : j = ws.length := by omega
      subst hj'
      rw [List.take_length] at hbuf
      refine k3 (by omega) (by omega) (by omega) ⟨b, 0, none⟩ s h' hk ⟨rfl, hc, hbuf, hap, Nat.zero_le _, by simp; omega⟩ fun c f => ?_
      rcases f with rfl | f
      · exact hb
      · exact hfr c f
  · rintro ⟨a, e, _⟩; cases e
  · rintro c ⟨a, e, _⟩; cases e

theorem t_Draw {h : H} {p : Addr} {s : Sl} {ws : List S_api_Word} {n : Nat} {K : S_api_Word × Int → H → Prop} (d : DrawsAt h p s ws n)
    (k1 : n = ws.length → K (⟨0, 0⟩, 11) h) (k2 : ∀ w h', ws[n]? = some w → But (fun b => b = p.block) h h' → DrawsAt h' p s ws (n + 1) → (∀ b, h' b = none → h b = none) → K (w, 0) h') : m_draws_Draws_Draw (some p) K h := by
  unfold m_draws_Draws_Draw
  refine w_deref (w_deref ?_)
  have hp := d.p0
  have hc := d.cell
  generalize hb : p.block = b at hp hc
  subst hp
  rw [add_mk, add_mk]
  refine w_load (cells := cSl) (v := s) (At.own (l1 := []) (l2 := [s.val]) (l3 := [.int .i64 n]) hc rfl) ?_
  refine w_load (cells := cInt .i64) (v := n) (At.own (l1 := [s.val]) (l2 := [.int .i64 n]) (l3 := []) hc rfl) ?_
  have hl := d.buf.len
  have hcap := d.buf.cap
  have hle := d.le
  have hmost := d.most
  refine w_pure ⟨if s.cap = n then s.a else s.a.map (·.add (n * 2)), s.len - n, s.cap - n⟩ (fun h' k' q => w_cut rfl rfl (by omega) hcap q) ?_
  refine w_if' (fun c => k1 (by simp at c; omega)) fun c => ?_
  have hn : n < ws.length := by simp at c; omega
  refine w_deref ?_
  rw [add_mk]
  refine w_load (cells := cInt .i64) (v := n) (At.own (l1 := [s.val]) (l2 := [.int .i64 n]) (l3 := []) hc rfl) ?_
  refine w_deref ?_
  rw [add_mk, iAdd_eq (by omega) (by omega)]
  refine w_store (l1 := [s.val]) (l2 := [.int .i64 n]) (l3 := []) rfl hc rfl rfl ?_
  have hb' : DrawsAt (upd h b (.cells ([s.val] ++ [Value.int .i64 (n + 1)] ++ []).toArray 97 (0, 0))) ⟨b, 0, none⟩ s ws (n + 1) :=
    ⟨rfl, upd_same _ _ _, d.buf.but (But.upd (F := fun x => x = b) rfl) fun a ha e => d.ap ⟨a, ha, e⟩, d.ap, hn, hmost⟩
  obtain ⟨x, hx, hax⟩ := hb'.buf.arr.idx word_len (List.getElem?_eq_getElem hn)
  obtain ⟨a, ha, _, _, rfl⟩ := hx
  have h0 : (if s.cap = n then s.a else s.a.map (·.add (n * 2))) = some (a.add (n * 2)) := by
    rw [if_neg (by omega), ha]; rfl
  refine ⟨a.add (n * 2), ⟨a.add (n * 2), h0, by omega, by show (0 : Int) < ((s.len - n : Nat) : Int); omega, ?_⟩, w_load (by simpa using hax) (k2 _ _ (List.getElem?_eq_getElem hn) (But.upd (by first | rfl | exact hb.symm)) hb' fun c hc => (upd_none.1 hc).2)⟩
  simp [Addr.add]
theorem t_Taken {h : H} {p : Addr} {s : Sl} {ws : List S_api_Word} {n : Nat} {K : Int → H → Prop} (d : DrawsAt h p s ws n) (k : K n h) : m_draws_Draws_Taken (some p) K h := by
  unfold m_draws_Draws_Taken
  refine w_deref ?_
  have hp := d.p0
  have hc := d.cell
  generalize hb : p.block = b at hp hc
  subst hp
  rw [add_mk]
  exact w_load (cells := cInt .i64) (v := n) (At.own (l1 := [s.val]) (l2 := [.int .i64 n]) (l3 := []) hc rfl) k
theorem t_Left {h : H} {p : Addr} {s : Sl} {ws : List S_api_Word} {n : Nat} {K : Int → H → Prop} (d : DrawsAt h p s ws n) (k : K ((ws.length - n : Nat) : Int) h) : m_draws_Draws_Left (some p) K h := by
  unfold m_draws_Draws_Left
  refine w_deref (w_deref ?_)
  have hp := d.p0
  have hc := d.cell
  have hl := d.buf.len
  have hcap := d.buf.cap
  have hle := d.le
  generalize hb : p.block = b at hp hc
  subst hp
  rw [add_mk, add_mk]
  refine w_load (cells := cSl) (v := s) (At.own (l1 := []) (l2 := [s.val]) (l3 := [.int .i64 n]) hc rfl) ?_
  refine w_load (cells := cInt .i64) (v := n) (At.own (l1 := [s.val]) (l2 := [.int .i64 n]) (l3 := []) hc rfl) ?_
  refine w_pure ⟨if s.cap = n then s.a else s.a.map (·.add (n * 2)), s.len - n, s.cap - n⟩ (fun h' k' q => w_cut rfl rfl (by omega) hcap q) ?_
  rw [← hl] at k
  exact k
theorem t_Skip {h : H} {p : Addr} {s : Sl} {ws : List S_api_Word} {n : Nat} {m : Int} {K : Int → H → Prop} (d : DrawsAt h p s ws n)
    (k1 : m < 0 ∨ (ws.length : Int) < m → K 5 h) (k2 : ∀ (j : Nat) h', m = j → j ≤ ws.length → But (fun b => b = p.block) h h' → DrawsAt h' p s ws j → (∀ b, h' b = none → h b = none) → K 0 h') : m_draws_Draws_Skip (some p) m K h := by
  unfold m_draws_Draws_Skip
  have hp := d.p0
  have hc := d.cell
  have hl := d.buf.len
  refine w_join (w_if' (fun c => w_ifT rfl (k1 (.inl c))) fun c => ?_)
  generalize hb : p.block = b at hp hc
  subst hp
  refine w_deref ?_
  rw [add_mk]
  refine w_load (cells := cSl) (v := s) (At.own (l1 := []) (l2 := [s.val]) (l3 := [.int .i64 n]) hc rfl) ?_
  refine w_if' (fun c2 => k1 (.inr (by omega))) fun c2 => ?_
  refine w_deref ?_
  rw [add_mk]
  obtain ⟨j, rfl⟩ := Int.eq_ofNat_of_zero_le (show 0 ≤ m by omega)
  refine w_store (l1 := [s.val]) (l2 := [.int .i64 n]) (l3 := []) rfl hc rfl rfl ?_
  exact k2 j _ rfl (by omega) (But.upd (by first | rfl | exact hb.symm)) ⟨rfl, upd_same _ _ _, d.buf.but (But.upd (F := fun x => x = b) rfl) fun a ha e => d.ap ⟨a, ha, e⟩, d.ap, by omega, d.most⟩ fun c hc => (upd_none.1 hc).2
end Go.Proofs.Ytnmaknkbdfpbkaa.K
