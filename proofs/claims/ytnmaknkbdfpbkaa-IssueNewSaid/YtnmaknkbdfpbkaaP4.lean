/- The reference's words and draws; the law DrawsAll. -/
import Derived.Test.YtnmaknkbdfpbkaaP2
import Derived.Test.YtnmaknkbdfpbkaaFlaw04x3
import Derived.Test.YtnmaknkbdfpbkaaFref01
import Derived.Test.YtnmaknkbdfpbkaaFref04
namespace Go.Proofs.Ytnmaknkbdfpbkaa.K
open Go

/-- A word of two natural numbers below 2^64. -/
def IsW (w : S_api_Word) (hi lo : Nat) : Prop := w = ⟨hi, lo⟩ ∧ hi < 2 ^ 64 ∧ lo < 2 ^ 64
theorem cutW_eq {hi lo n : Nat} (h1 : hi < 2 ^ 64) (h2 : lo < 2 ^ 64) (hn : n ≤ 128) : cutW (n : Int) ⟨(hi : Int), (lo : Int)⟩ = ⟨((hi % 2 ^ (n - 64) : Nat) : Int), ((lo % 2 ^ (min n 64) : Nat) : Int)⟩ := by
  unfold cutW
  split
  · have e : n - 64 = 0 := by omega
    rw [u_low h2 (by omega), e, Nat.min_eq_left (by omega), Nat.pow_zero, Nat.mod_one]
    rfl
  · split
    · have e : (n : Int) - 64 = ((n - 64 : Nat) : Int) := by omega
      rw [e, u_low h1 (by omega), Nat.min_eq_right (by omega), Nat.mod_eq_of_lt h2]
    · have e : n - 64 = 64 := by omega
      rw [e, Nat.min_eq_right (by omega), Nat.mod_eq_of_lt h2, Nat.mod_eq_of_lt h1]

theorem t_ref01_Bit {h : H} {K : Int → H → Prop} {hi lo i : Nat} (hi' : i < 128) (k : K (((if i < 64 then lo.testBit i else hi.testBit (i - 64)).toNat : Nat) : Int) h) : m_ref01_Bit ⟨(hi : Int), (lo : Int)⟩ (i : Int) K h := by
  unfold m_ref01_Bit
  refine w_if' (fun c => ?_) fun c => ?_
  · rw [if_pos (by omega)] at k
    rw [u_wrap (by omega)]
    refine w_nn (by omega) ?_
    rw [u_bit (by omega)]; exact k
  · rw [if_neg (by omega)] at k
    rw [iSub_eq (by omega) (by omega), show (i : Int) - 64 = ((i - 64 : Nat) : Int) by omega, u_wrap (by omega)]
    refine w_nn (by omega) ?_
    rw [u_bit (by omega)]; exact k
theorem t_ref01_Set {h : H} {K : S_api_Word → H → Prop} {hi lo i : Nat} (h1 : hi < 2 ^ 64) (h2 : lo < 2 ^ 64) (hi' : i < 128) (k : K (if i < 64 then ⟨(hi : Int), ((lo ||| 2 ^ i : Nat) : Int)⟩ else ⟨((hi ||| 2 ^ (i - 64) : Nat) : Int), (lo : Int)⟩) h) : m_ref01_Set ⟨(hi : Int), (lo : Int)⟩ (i : Int) K h := by
  unfold m_ref01_Set
  refine w_join (w_if' (fun c => ?_) fun c => ?_)
  · rw [if_pos (by omega)] at k
    rw [u_wrap (by omega)]
    refine w_nn (by omega) ?_
    rw [u_shl1 (by omega), u_or h2 (pow_lt (by omega))]; exact k
  · rw [if_neg (by omega)] at k
    rw [iSub_eq (by omega) (by omega), show (i : Int) - 64 = ((i - 64 : Nat) : Int) by omega, u_wrap (by omega)]
    refine w_nn (by omega) ?_
    rw [u_shl1 (by omega), u_or h1 (pow_lt (by omega))]; exact k
theorem mod_lt64 (x n : Nat) (h : n ≤ 64) : x % 2 ^ n < 2 ^ 64 := Nat.lt_of_lt_of_le (Nat.mod_lt _ (Nat.two_pow_pos n)) (Nat.pow_le_pow_right (by decide) h)
theorem t_ref01_Cut {h : H} {K : S_api_Word → H → Prop} {hi lo n : Nat} (h1 : hi < 2 ^ 64) (h2 : lo < 2 ^ 64) (hn : n ≤ 128) (k : K (cutW (n : Int) ⟨(hi : Int), (lo : Int)⟩) h) : m_ref01_Cut ⟨(hi : Int), (lo : Int)⟩ (n : Int) K h := by
  unfold m_ref01_Cut
  rw [cutW_eq h1 h2 hn] at k
  refine w_loop (fun s : Int × Int × Int => n - s.1.toNat) (fun s h' => h = h' ∧ ∃ i : Nat, s = ((i : Int), ((hi % 2 ^ (i - 64) : Nat) : Int), ((lo % 2 ^ (min i 64) : Nat) : Int)) ∧ i ≤ n) ?_ ⟨rfl, 0, by simp [Nat.mod_one], by omega⟩
  rintro rec s _ ⟨rfl, i, rfl, hi'⟩ ih
  refine w_joinP (fun b h' => h = h' ∧ b = decide (i < n)) (fun rest hr => ?_) ?_
  · refine w_if' (fun c => hr _ _ ⟨rfl, ?_⟩) fun c => hr _ _ ⟨rfl, ?_⟩
    · show decide ((i : Int) < 128) = _
      rw [decide_eq_decide]; omega
    · exact (decide_eq_false (by omega)).symm
  rintro b _ ⟨rfl, rfl⟩
  refine w_if' (fun c => ?_) fun c => ?_
  · refine w_pure _ (fun _ _ q => t_ref01_Bit (by omega) q) ?_
    have next : ∀ (a b : Int), a = ((hi % 2 ^ (i + 1 - 64) : Nat) : Int) → b = ((lo % 2 ^ (min (i + 1) 64) : Nat) : Int) → rec (iAdd .i64 (i : Int) 1, a, b) h := fun a b ea eb => by
      subst ea; subst eb
      rw [iAdd_eq (by omega) (by omega)]
      exact ih _ _ ⟨rfl, i + 1, rfl, c⟩ (by show n - ((i : Int) + 1).toNat < n - (i : Int).toNat; omega)
    by_cases c64 : i < 64
    · rw [if_pos c64]
      have e1 : i + 1 - 64 = i - 64 := by omega
      have e2 : min (i + 1) 64 = i + 1 := by omega
      have e3 : min i 64 = i := by omega
      rw [e1, e2] at next
      rw [e3]
      have hs := mod_succ lo i
      cases hb : lo.testBit i with
      | true =>
        rw [hb, if_pos rfl] at hs
        refine w_ifT (by rfl) (w_pure _ (fun _ _ q => t_ref01_Set (mod_lt64 _ _ (by omega)) (mod_lt64 _ _ (by omega)) (by omega) q) ?_)
        rw [if_pos c64]
        exact next _ _ rfl (by rw [hs]; show ((lo % 2 ^ i ||| 2 ^ i : Nat) : Int) = _; rw [or_pow (Nat.mod_lt _ (Nat.two_pow_pos i))])
      | false =>
        rw [hb] at hs
        simp only [Bool.false_eq_true, if_false, Nat.add_zero] at hs
        exact w_ifF (by rfl) (next _ _ rfl (by rw [hs]))
    · rw [if_neg c64]
      have e1 : i + 1 - 64 = (i - 64) + 1 := by omega
      have e2 : min (i + 1) 64 = 64 := by omega
      have e3 : min i 64 = 64 := by omega
      rw [e1, e2] at next
      rw [e3]
      have hs := mod_succ hi (i - 64)
      cases hb : hi.testBit (i - 64) with
      | true =>
        rw [hb, if_pos rfl] at hs
        refine w_ifT (by rfl) (w_pure _ (fun _ _ q => t_ref01_Set (mod_lt64 _ _ (by omega)) (mod_lt64 _ _ (by omega)) (by omega) q) ?_)
        rw [if_neg c64]
        exact next _ _ (by rw [hs]; show ((hi % 2 ^ (i - 64) ||| 2 ^ (i - 64) : Nat) : Int) = _; rw [or_pow (Nat.mod_lt _ (Nat.two_pow_pos _))]) rfl
      | false =>
        rw [hb] at hs
        simp only [Bool.false_eq_true, if_false, Nat.add_zero] at hs
        exact w_ifF (by rfl) (next _ _ (by rw [hs]) rfl)
  · have : i = n := by omega
    subst this; exact k

/-- The reference's counter. -/
structure RefAt (h : H) (p : Addr) (s : Sl) (ws : List S_api_Word) (wd : Int) (n : Nat) : Prop where
  p0 : p = ⟨p.block, 0, none⟩
  cell : h p.block = some (.cells #[s.val, .int .i64 wd, .int .i64 n] 100 (0, 0))
  buf : Buf S_api_Word.cells 2 25 h s ws
  ap : ¬ s.foot p.block
  le : n ≤ ws.length
  most : ws.length ≤ 4096
theorem RefAt.but {F : Nat → Prop} {h h' : H} {p : Addr} {s : Sl} {ws : List S_api_Word} {wd : Int} {n : Nat} (x : RefAt h p s ws wd n) (k : But F h h') (f : ∀ b, Foot p s b → ¬ F b) : RefAt h' p s ws wd n :=
  ⟨x.p0, k _ _ x.cell (f _ (.inl rfl)), x.buf.but k (fun a ha => f _ (.inr ⟨a, ha, rfl⟩)), x.ap, x.le, x.most⟩
theorem RefAt.keep {h h' : H} {p : Addr} {s : Sl} {ws : List S_api_Word} {wd : Int} {n : Nat} (x : RefAt h p s ws wd n) (k : Keeps h h') : RefAt h' p s ws wd n :=
  ⟨x.p0, k _ _ x.cell, x.buf.keep k, x.ap, x.le, x.most⟩
/-- What the making of a counter comes to. -/
def outcome (a : Int) (n : Nat) : Int := if a < 1 ∨ 128 < a then 18 else if 4096 < n then 23 else 0
theorem t_New {h : H} {a0 : Sl} {a1 : Int} {ws : List S_api_Word} {K : Option Addr × Int → H → Prop} (ha : Arr S_api_Word.cells h a0 ws)
    (k : ∀ r h', Keeps h h' → r.2 = outcome a1 ws.length → (r.2 ≠ 0 → r.1 = none) → (r.2 = 0 → 1 ≤ a1 ∧ a1 ≤ 128 ∧ ∃ p s, r.1 = some p ∧ DrawsAt h' p s (ws.map (cutW a1)) 0 ∧ ∀ b, Foot p s b → h b = none) → K r h') : m_draws_New a0 a1 K h :=
  t_draws_New ha (fun e => k _ _ (.refl h) (by unfold outcome; rw [if_pos e]) (fun _ => rfl) (fun e => absurd e (by decide)))
    (fun e1 e2 e3 => k _ _ (.refl h) (by unfold outcome; rw [if_neg (by omega), if_pos e3]) (fun _ => rfl) (fun e => absurd e (by decide)))
    (fun e1 e2 e3 p s h' kk d f => k _ _ kk (by unfold outcome; rw [if_neg (by omega), if_neg (by omega)]) (fun e => absurd rfl e) (fun _ => ⟨e1, e2, p, s, rfl, d, f⟩))
theorem t_RefNew {h : H} {a0 : Sl} {a1 : Int} {ws : List S_api_Word} {K : Option Addr × Int → H → Prop} (ha : Arr S_api_Word.cells h a0 ws)
    (k : ∀ r h', Keeps h h' → r.2 = outcome a1 ws.length → (r.2 ≠ 0 → r.1 = none) → (r.2 = 0 → 1 ≤ a1 ∧ a1 ≤ 128 ∧ ∃ p s, r.1 = some p ∧ RefAt h' p s ws a1 0 ∧ ∀ b, Foot p s b → h b = none) → K r h') : m_ref04_New a0 a1 K h := by
  unfold m_ref04_New
  have hl := ha.len
  refine w_join ?_
  have bad : a1 < 1 ∨ 128 < a1 → K (none, 18) h := fun e => k _ _ (.refl h) (by unfold outcome; rw [if_pos e]) (fun _ => rfl) (fun e => absurd e (by decide))
  refine w_if' (fun c => w_ifT rfl (bad (.inl c))) fun c => w_if' (fun c2 => bad (.inr c2)) fun c2 => ?_
  refine w_if' (fun c3 => k _ _ (.refl h) (by unfold outcome; rw [if_neg (by omega), if_pos (by omega)]) (fun _ => rfl) (fun e => absurd e (by decide))) fun c3 => ?_
  refine w_append word_len word_plain rfl Buf.nil ha (.inr ⟨rfl, by omega⟩) fun s h1 bu bt f m => ?_
  rw [List.nil_append] at bu
  refine w_new fun b hb => ?_
  have fr : ∀ c, s.foot c → h c = none := fun c e => (f c e).elim (fun ⟨a, e, _⟩ => by cases e) id
  have k1 : Keeps h h1 := bt.keeps fun c ⟨a, e, _⟩ => by cases e
  have hsb : ¬ s.foot b := fun ⟨a, e, e'⟩ => by
    rcases bu.at_ with ⟨e1, _⟩ | ⟨b', z, e1, e2, _⟩
    · rw [e1] at e; cases e
    · rw [e1] at e; cases e; cases e'; rw [hb] at e2; cases e2
  refine k _ _ (k1.trans (.new hb)) (by unfold outcome; rw [if_neg (by omega), if_neg (by omega)]) (fun e => absurd rfl e) fun _ => ⟨by omega, by omega, ⟨b, 0, none⟩, s, rfl, ⟨rfl, upd_same _ _ _, bu.keep (.new hb), hsb, Nat.zero_le _, by omega⟩, ?_⟩
  rintro c (rfl | e)
  · exact k1.fresh hb
  · exact fr c e

theorem t_RDraw {h : H} {p : Addr} {s : Sl} {ws : List S_api_Word} {wd : Int} {n : Nat} {K : S_api_Word × Int → H → Prop} (hw : ∀ w ∈ ws, ∃ hi lo, IsW w hi lo) (w1 : 1 ≤ wd) (w2 : wd ≤ 128) (d : RefAt h p s ws wd n)
    (k1 : n = ws.length → K (⟨0, 0⟩, 11) h) (k2 : ∀ w h', ws[n]? = some w → But (fun b => b = p.block) h h' → RefAt h' p s ws wd (n + 1) → K (cutW wd w, 0) h') : m_ref04_Draws_Draw (some p) K h := by
  unfold m_ref04_Draws_Draw
  refine w_deref (w_deref ?_)
  have hp := d.p0
  have hc := d.cell
  have hl := d.buf.len
  have hle := d.le
  have hmost := d.most
  generalize hb : p.block = b at hp hc
  subst hp
  rw [add_mk, add_mk]
  refine w_load (cells := cInt .i64) (v := n) (At.own (l1 := [s.val, .int .i64 wd]) (l2 := [.int .i64 n]) (l3 := []) hc rfl) ?_
  refine w_load (cells := cSl) (v := s) (At.own (l1 := []) (l2 := [s.val]) (l3 := [.int .i64 wd, .int .i64 n]) hc rfl) ?_
  refine w_if' (fun c => k1 (by omega)) fun c => ?_
  have hn : n < ws.length := by omega
  refine w_deref ?_
  rw [add_mk]
  refine w_load (cells := cInt .i64) (v := n) (At.own (l1 := [s.val, .int .i64 wd]) (l2 := [.int .i64 n]) (l3 := []) hc rfl) ?_
  refine w_deref ?_
  rw [add_mk, iAdd_eq (by omega) (by omega)]
  refine w_store (l1 := [s.val, .int .i64 wd]) (l2 := [.int .i64 n]) (l3 := []) rfl hc rfl rfl ?_
  have hb' : RefAt (upd h b (.cells ([s.val, .int .i64 wd] ++ [Value.int .i64 (n + 1)] ++ []).toArray 100 (0, 0))) ⟨b, 0, none⟩ s ws wd (n + 1) :=
    ⟨rfl, upd_same _ _ _, d.buf.but (But.upd (F := fun x => x = b) rfl) fun a ha e => d.ap ⟨a, ha, e⟩, d.ap, hn, hmost⟩
  refine w_deref (w_deref (w_deref ?_))
  have hc' := hb'.cell
  rw [add_mk, add_mk, add_mk]
  refine w_load (cells := cSl) (v := s) (At.own (l1 := []) (l2 := [s.val]) (l3 := [.int .i64 wd, .int .i64 (n + 1 : Nat)]) hc' rfl) ?_
  refine w_load (cells := cInt .i64) (v := (n + 1 : Nat)) (At.own (l1 := [s.val, .int .i64 wd]) (l2 := [.int .i64 (n + 1 : Nat)]) (l3 := []) hc' rfl) ?_
  refine w_idx word_len hb'.buf.arr (List.getElem?_eq_getElem hn) (by rw [iSub_eq (by omega) (by omega)]; omega) fun x _ hax => w_load hax ?_
  refine w_load (cells := cInt .i64) (v := wd) (At.own (l1 := [s.val]) (l2 := [.int .i64 wd]) (l3 := [.int .i64 (n + 1 : Nat)]) hc' rfl) ?_
  obtain ⟨hi, lo, e, q1, q2⟩ := hw _ (List.getElem_mem hn)
  obtain ⟨wn, rfl⟩ := Int.eq_ofNat_of_zero_le (show 0 ≤ wd by omega)
  refine w_pure (cutW wn ws[n]) (fun _ _ q => by rw [e] at q ⊢; exact t_ref01_Cut q1 q2 (by omega) q) (k2 _ _ (List.getElem?_eq_getElem hn) (But.upd (by first | rfl | exact hb.symm)) hb')
theorem t_RTaken {h : H} {p : Addr} {s : Sl} {ws : List S_api_Word} {wd : Int} {n : Nat} {K : Int → H → Prop} (d : RefAt h p s ws wd n) (k : K n h) : m_ref04_Draws_Taken (some p) K h := by
  unfold m_ref04_Draws_Taken
  refine w_deref ?_
  have hp := d.p0
  have hc := d.cell
  generalize hb : p.block = b at hp hc
  subst hp
  rw [add_mk]
  exact w_load (cells := cInt .i64) (v := n) (At.own (l1 := [s.val, .int .i64 wd]) (l2 := [.int .i64 n]) (l3 := []) hc rfl) k
theorem t_RLeft {h : H} {p : Addr} {s : Sl} {ws : List S_api_Word} {wd : Int} {n : Nat} {K : Int → H → Prop} (d : RefAt h p s ws wd n) (k : K ((ws.length - n : Nat) : Int) h) : m_ref04_Draws_Left (some p) K h := by
  unfold m_ref04_Draws_Left
  refine w_deref (w_deref ?_)
  have hp := d.p0
  have hc := d.cell
  have hl := d.buf.len
  have hle := d.le
  have hmost := d.most
  generalize hb : p.block = b at hp hc
  subst hp
  rw [add_mk, add_mk]
  refine w_load (cells := cSl) (v := s) (At.own (l1 := []) (l2 := [s.val]) (l3 := [.int .i64 wd, .int .i64 n]) hc rfl) ?_
  refine w_load (cells := cInt .i64) (v := n) (At.own (l1 := [s.val, .int .i64 wd]) (l2 := [.int .i64 n]) (l3 := []) hc rfl) ?_
  rw [iSub_eq (by omega) (by omega), show (s.len : Int) - n = ((ws.length - n : Nat) : Int) by omega]
  exact k
theorem t_RSkip {h : H} {p : Addr} {s : Sl} {ws : List S_api_Word} {wd : Int} {n : Nat} {m : Int} {K : Int → H → Prop} (d : RefAt h p s ws wd n)
    (k1 : m < 0 ∨ (ws.length : Int) < m → K 5 h) (k2 : ∀ (j : Nat) h', m = j → j ≤ ws.length → But (fun b => b = p.block) h h' → RefAt h' p s ws wd j → K 0 h') : m_ref04_Draws_Skip (some p) m K h := by
  unfold m_ref04_Draws_Skip
  have hp := d.p0
  have hc := d.cell
  have hl := d.buf.len
  refine w_join (w_if' (fun c => w_ifT rfl (k1 (.inl c))) fun c => ?_)
  generalize hb : p.block = b at hp hc
  subst hp
  refine w_deref ?_
  rw [add_mk]
  refine w_load (cells := cSl) (v := s) (At.own (l1 := []) (l2 := [s.val]) (l3 := [.int .i64 wd, .int .i64 n]) hc rfl) ?_
  refine w_if' (fun c2 => k1 (.inr (by omega))) fun c2 => ?_
  refine w_deref ?_
  rw [add_mk]
  obtain ⟨j, rfl⟩ := Int.eq_ofNat_of_zero_le (show 0 ≤ m by omega)
  refine w_store (l1 := [s.val, .int .i64 wd]) (l2 := [.int .i64 n]) (l3 := []) rfl hc rfl rfl ?_
  exact k2 j _ rfl (by omega) (But.upd (by first | rfl | exact hb.symm)) ⟨rfl, upd_same _ _ _, d.buf.but (But.upd (F := fun x => x = b) rfl) fun a ha e => d.ap ⟨a, ha, e⟩, d.ap, by omega, d.most⟩

/-- A counter beside its reference, in the blocks of 'F'. -/
structure PairAt (F : Nat → Prop) (h : H) (p : Addr) (r : Option Addr) : Prop where
  ex : ∃ q r' s ws wd n, r = some r' ∧ 1 ≤ wd ∧ wd ≤ 128 ∧ (∀ w ∈ ws, ∃ hi lo, IsW w hi lo) ∧ DrawsAt h p q (ws.map (cutW wd)) n ∧ RefAt h r' s ws wd n ∧ (∀ b, Foot p q b → F b) ∧ (∀ b, Foot r' s b → F b) ∧ (∀ b, Foot p q b → ¬ Foot r' s b)
theorem PairAt.but {F G : Nat → Prop} {h h' : H} {p : Addr} {r : Option Addr} (x : PairAt F h p r) (k : But G h h') (f : ∀ b, F b → ¬ G b) : PairAt F h' p r := by
  obtain ⟨q, r', s, ws, wd, n, e, w1, w2, hw, d, rr, f1, f2, ap⟩ := x.ex
  exact ⟨q, r', s, ws, wd, n, e, w1, w2, hw, d.but k fun b e => f b (f1 b e), rr.but k fun b e => f b (f2 b e), f1, f2, ap⟩
theorem eqw2 (x : S_api_Word) : ((decide (x.Hi = x.Hi)) && ((decide (x.Lo = x.Lo)) && true)) = true := by simp
theorem t_step {F : Nat → Prop} {h : H} {p : Addr} {r : Option Addr} {st : S_law04_Step} {K : Bool → H → Prop} (x : PairAt F h p r) (k : ∀ h', But F h h' → PairAt F h' p r → K true h') : m_law04_Pair_step ⟨some p, r⟩ st K h := by
  unfold m_law04_Pair_step
  obtain ⟨q, r', s, ws, wd, n, rfl, w1, w2, hw, d, rr, f1, f2, ap⟩ := x.ex
  have ml : (ws.map (cutW wd)).length = ws.length := List.length_map ..
  have pf : ∀ b, Foot r' s b → ¬ b = p.block := fun b f e => ap b (.inl e) f
  have rf : ∀ b, Foot p q b → ¬ b = r'.block := fun b f e => ap b f (.inl e)
  refine w_if' (fun _ => ?_) fun _ => w_if' (fun _ => ?_) fun _ => w_if' (fun _ => ?_) fun _ => k h (.refl _ _) x
  · refine t_Draw d (fun e => ?_) fun w h1 hg b1 d1 m1 => ?_
    · refine t_RDraw hw w1 w2 rr (fun _ => ?_) fun w h' e' => absurd (lt_of_get e') (by omega)
      exact w_ifT (by decide) (k h (.refl _ _) x)
    · have rr1 := rr.but b1 pf
      refine t_RDraw hw w1 w2 rr1 (fun e => absurd (lt_of_get hg) (by omega)) fun w' h2 hg' b2 rr2 => ?_
      rw [List.getElem?_map, hg'] at hg
      obtain rfl := Option.some.inj hg
      refine w_ifT (eqw2 _) ?_
      exact k h2 ((b1.mono fun b e => by rw [e]; exact f1 _ (.inl rfl)).trans (b2.mono fun b e => by rw [e]; exact f2 _ (.inl rfl)) fun b e => .inl e)
        ⟨q, r', s, ws, wd, n + 1, rfl, w1, w2, hw, d1.but b2 rf, rr2, f1, f2, ap⟩
  · refine t_Taken d (t_RTaken rr (w_ifT (by simp) (t_Left d (t_RLeft rr ?_))))
    rw [ml, decide_eq_true rfl]
    exact k h (.refl _ _) x
  · refine t_Skip d (fun e => ?_) fun j h1 hj hjl b1 d1 m1 => ?_
    · refine t_RSkip rr (fun _ => k h (.refl _ _) x) fun j h' e' e2 => absurd e (by omega)
    · have rr1 := rr.but b1 pf
      refine t_RSkip rr1 (fun e => absurd e (by omega)) fun j' h2 hj' hjl' b2 rr2 => ?_
      have : j' = j := by omega
      subst this
      exact k h2 ((b1.mono fun b e => by rw [e]; exact f1 _ (.inl rfl)).trans (b2.mono fun b e => by rw [e]; exact f2 _ (.inl rfl)) fun b e => .inl e)
        ⟨q, r', s, ws, wd, j', rfl, w1, w2, hw, d1.but b2 rf, rr2, f1, f2, ap⟩
end Go.Proofs.Ytnmaknkbdfpbkaa.K
