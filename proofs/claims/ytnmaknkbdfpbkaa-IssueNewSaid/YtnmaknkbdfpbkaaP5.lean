/- The law DrawsAll. -/
import Derived.Test.YtnmaknkbdfpbkaaP4
import Derived.Test.YtnmaknkbdfpbkaaFlaw04x4
namespace Go.Proofs.Ytnmaknkbdfpbkaa.K
open Go

/-- Blocks made between two memories. -/
def Born (h h' : H) (b : Nat) : Prop := h b = none ∧ h' b ≠ none
theorem Born.apart {a b c d : H} {n : Nat} (x : Born a b n) (k : Keeps b c) (y : Born c d n) : False := x.2 (k.fresh y.1)
theorem Buf.live {T : Type} {cells : T → List Value} {sz : Nat} {e : TypeId} {h : H} {s : Sl} {xs : List T} (x : Buf cells sz e h s xs) {b : Nat} (f : s.foot b) : h b ≠ none := by
  obtain ⟨a, e1, rfl⟩ := f
  rcases x.at_ with ⟨e2, _⟩ | ⟨b', z, e2, e3, _⟩
  · rw [e2] at e1; cases e1
  · rw [e2] at e1; cases e1; rw [e3]; simp
theorem DrawsAt.live {h : H} {p : Addr} {s : Sl} {ws : List S_api_Word} {n : Nat} (x : DrawsAt h p s ws n) {b : Nat} (f : Foot p s b) : h b ≠ none := by
  rcases f with rfl | f
  · rw [x.cell]; simp
  · exact x.buf.live f
theorem RefAt.live {h : H} {p : Addr} {s : Sl} {ws : List S_api_Word} {wd : Int} {n : Nat} (x : RefAt h p s ws wd n) {b : Nat} (f : Foot p s b) : h b ≠ none := by
  rcases f with rfl | f
  · rw [x.cell]; simp
  · exact x.buf.live f
/-- There is no counter, or one beside its reference. -/
def Op (F : Nat → Prop) (h : H) (o r : Option Addr) : Prop := o = none ∨ ∃ p, o = some p ∧ PairAt F h p r
theorem Op.but {F G : Nat → Prop} {h h' : H} {o r : Option Addr} (x : Op F h o r) (k : But G h h') (f : ∀ b, F b → ¬ G b) : Op F h' o r :=
  x.imp id fun ⟨p, e, q⟩ => ⟨p, e, q.but k f⟩
theorem mkPair {h h1 h4 h5 hz : H} {r1 r7 : Option Addr × Int} {a : Int} {ws : List S_api_Word} (hw : ∀ w ∈ ws, ∃ hi lo, IsW w hi lo) (k14 : Keeps h1 h4) (kz1 : Keeps h1 hz) (kz5 : Keeps h5 hz)
    (e1 : r1.2 = outcome a ws.length) (s1 : r1.2 = 0 → 1 ≤ a ∧ a ≤ 128 ∧ ∃ p s, r1.1 = some p ∧ RefAt h1 p s ws a 0 ∧ ∀ b, Foot p s b → h b = none)
    (e7 : r7.2 = outcome a ws.length) (n7 : r7.2 ≠ 0 → r7.1 = none) (s7 : r7.2 = 0 → 1 ≤ a ∧ a ≤ 128 ∧ ∃ p s, r7.1 = some p ∧ DrawsAt h5 p s (ws.map (cutW a)) 0 ∧ ∀ b, Foot p s b → h4 b = none) :
    Op (fun b => Born h h1 b ∨ Born h4 h5 b) hz r7.1 r1.1 ∧ (!decide (r7.2 = r1.2)) = false ∧ (!((r7.1.isNone) == (!decide (r1.2 = 0)))) = false := by
  have e : r7.2 = r1.2 := e7.trans e1.symm
  refine ⟨?_, by simp [e], ?_⟩
  · by_cases h0 : r7.2 = 0
    · obtain ⟨w1, w2, r', s, er, rr, fr⟩ := s1 (by omega)
      obtain ⟨_, _, p, q, ep, d, fd⟩ := s7 h0
      refine .inr ⟨p, ep, ⟨q, r', s, ws, a, 0, er, w1, w2, hw, d.keep kz5, rr.keep kz1, fun b f => .inr ⟨fd b f, d.live f⟩, fun b f => .inl ⟨fr b f, rr.live f⟩, fun b f g => rr.live g (k14.fresh (fd b f))⟩⟩
    · exact .inl (n7 h0)
  · by_cases h0 : r7.2 = 0
    · obtain ⟨_, _, p, q, ep, d, fd⟩ := s7 h0
      rw [ep, ← e, h0]; rfl
    · rw [n7 h0, ← e]; simp [h0]
theorem step_len : ∀ x : S_law04_Step, (S_law04_Step.cells x).length = 3 := fun _ => rfl

theorem t_DrawsAll {h : H} {a0 a3 : Sl} {a1 a2 : Int} {ws : List S_api_Word} {sts : List S_law04_Step} {K : Bool → H → Prop} (ha0 : Arr S_api_Word.cells h a0 ws) (hw : ∀ w ∈ ws, ∃ hi lo, IsW w hi lo) (hroom : ws.length * 16 ≤ 2 ^ 47)
    (ha3 : Arr S_law04_Step.cells h a3 sts) (hcap : a3.cap ≤ 9223372036854775807) (k : ∀ h', Keeps h h' → K true h') : m_law04_DrawsAll a0 a1 a2 a3 K h := by
  unfold m_law04_DrawsAll
  have hl := ha0.len
  have hl3 := ha3.len
  have hc3 := ha3.cap
  refine t_RefNew ha0 fun r1 h1 k1 e1 _ s1 => ?_
  refine t_RefNew (ha0.keep k1) fun r3 h2 k2 e3 _ s3 => ?_
  refine w_new fun b0 hb0 => ?_
  have k3 : Keeps h2 (upd h2 b0 (.cells #[] 25 (0, 0))) := .new hb0
  have bu0 : Buf S_api_Word.cells 2 25 (upd h2 b0 (.cells #[] 25 (0, 0))) ⟨some ⟨b0, 0, none⟩, 0, 0⟩ ([] : List S_api_Word) := ⟨rfl, Nat.le_refl _, .inr ⟨b0, [], rfl, upd_same _ _ _, rfl⟩⟩
  generalize upd h2 b0 (.cells #[] 25 (0, 0)) = h3 at k3 bu0
  refine w_append word_len word_plain rfl bu0 (((ha0.keep k1).keep k2).keep k3) (.inr ⟨rfl, by omega⟩) fun s6 h4 bu6 bt6 f6 m6 => ?_
  rw [List.nil_append] at bu6
  have fr6 : ∀ b, s6.foot b → h2 b = none := fun b f => (f6 b f).elim (fun ⟨a, e, e'⟩ => by cases e; cases e'; exact hb0) k3.fresh
  have k4 : Keeps h2 h4 := k3.but bt6 fun n ⟨a, e, e'⟩ => by cases e; cases e'; exact hb0
  refine t_New bu6.arr fun r7 h5 k5 e7 n7 s7 => ?_
  refine t_New (bu6.arr.keep k5) fun r9 h6 k6 e9 n9 s9 => ?_
  refine w_join (t_law04_known fun h7 k7 => ?_)
  obtain ⟨p1, c1, c2⟩ := mkPair (hz := h7) hw (k2.trans k4) (((k2.trans k4).trans k5).trans (k6.trans k7)) (k6.trans k7) e1 s1 e7 n7 s7
  obtain ⟨p2, c3, c4⟩ := mkPair (hz := h7) hw (k4.trans k5) ((k4.trans k5).trans (k6.trans k7)) k7 e3 s3 e9 n9 s9
  refine w_ifF rfl (w_ifF c1 (w_ifF c3 (w_ifF c2 ?_)))
  refine w_ifF c4 ?_
  -- what lies where
  have F12 : ∀ b, (Born h h1 b ∨ Born h4 h5 b) → ¬ (Born h1 h2 b ∨ Born h5 h6 b) := by
    rintro b (x | x) (y | y)
    · exact x.apart (.refl _) y
    · exact x.apart ((k2.trans k4).trans k5) y
    · exact y.apart k4 x
    · exact x.apart (.refl _) y
  have F16 : ∀ b, (Born h h1 b ∨ Born h4 h5 b) → ¬ s6.foot b := by
    rintro b (x | x) f
    · exact x.2 (k2.fresh (fr6 b f))
    · exact bu6.live f x.1
  have F26 : ∀ b, (Born h1 h2 b ∨ Born h5 h6 b) → ¬ s6.foot b := by
    rintro b (x | x) f
    · exact x.2 (fr6 b f)
    · exact bu6.live f (k5.fresh x.1)
  have G1 : ∀ b, (Born h h1 b ∨ Born h4 h5 b) → h b = none := by
    rintro b (x | x)
    · exact x.1
    · exact ((k1.trans k2).trans k4).fresh x.1
  have G2 : ∀ b, (Born h1 h2 b ∨ Born h5 h6 b) → h b = none := by
    rintro b (x | x)
    · exact k1.fresh x.1
    · exact (((k1.trans k2).trans k4).trans k5).fresh x.1
  have G6 : ∀ b, s6.foot b → h b = none := fun b f => (k1.trans k2).fresh (fr6 b f)
  have kk : Keeps h h7 := ((((k1.trans k2).trans k4).trans k5).trans k6).trans k7
  have bu7 := ((bu6.keep k5).keep k6).keep k7
  have ul := bu6.len
  generalize hF1 : (fun b => Born h h1 b ∨ Born h4 h5 b) = F1 at p1
  generalize hF2 : (fun b => Born h1 h2 b ∨ Born h5 h6 b) = F2 at p2
  have F12' : ∀ b, F1 b → ¬ F2 b := by rw [← hF1, ← hF2]; exact F12
  have F16' : ∀ b, F1 b → ¬ s6.foot b := by rw [← hF1]; exact F16
  have F26' : ∀ b, F2 b → ¬ s6.foot b := by rw [← hF2]; exact F26
  have G1' : ∀ b, F1 b → h b = none := by rw [← hF1]; exact G1
  have G2' : ∀ b, F2 b → h b = none := by rw [← hF2]; exact G2
  clear hF1 hF2 F12 F16 F26 G1 G2 s1 s3 s7 s9 bu0 bu6 bt6 f6 m6 e1 e3 e7 e9 n7 n9 c1 c2 c3 c4 k1 k2 k3 k4 k5 k6 k7 hb0 fr6
  refine w_loop (fun i : Int => ws.length - i.toNat) (fun i h' => ∃ j : Nat, i = (j : Int) ∧ j ≤ ws.length ∧ (∃ zs, zs.length = j ∧ Buf S_api_Word.cells 2 25 h' s6 (zs ++ ws.drop j)) ∧ But s6.foot h7 h') ?_
    ⟨0, rfl, Nat.zero_le _, ⟨[], rfl, bu7⟩, .refl _ _⟩
  rintro rec1 i h8 ⟨j, rfl, hj, ⟨zs, hzs, bu8⟩, b8⟩ ih
  have k8 : Keeps h h8 := kk.but b8 G6
  refine w_if' (fun c => ?_) fun c => ?_
  · have hj' : j < ws.length := by omega
    have hg : (zs ++ ws.drop j)[j]? = some ws[j] := by
      rw [List.getElem?_append_right (by omega), hzs, Nat.sub_self, List.getElem?_drop, Nat.add_zero, List.getElem?_eq_getElem hj']
    refine w_idx word_len bu8.arr hg rfl fun x hx hax => ?_
    refine w_idx word_len (ha0.keep k8) (List.getElem?_eq_getElem hj') rfl fun y _ hay => ?_
    refine w_load hax (w_load hay (w_ifF (eqw _) ?_))
    refine ⟨x, hx, ?_⟩
    refine w_load (cells := cInt .u64) (v := ws[j].Lo) (At.sub (l1 := [.int .u64 ws[j].Hi]) (l3 := []) hax rfl) ?_
    refine ⟨x, hx, ?_⟩
    refine w_set word_len bu8 (v' := ⟨ws[j].Hi, iAdd .u64 ws[j].Lo 1⟩) hg hx (c1 := [.int .u64 ws[j].Hi]) (c2 := [.int .u64 ws[j].Lo]) (c3 := []) (new := [.int .u64 (iAdd .u64 ws[j].Lo 1)]) rfl rfl rfl rfl fun h9 bu9 b9 m9 => ?_
    rw [iAdd_eq (a := (j : Int)) (by omega) (by omega)]
    refine ih _ _ ⟨j + 1, rfl, hj', ⟨zs ++ [⟨ws[j].Hi, iAdd .u64 ws[j].Lo 1⟩], by simp [hzs], ?_⟩, b8.trans b9 fun n e => .inl e⟩ (by omega)
    have : (zs ++ ws.drop j).set j ⟨ws[j].Hi, iAdd .u64 ws[j].Lo 1⟩ = zs ++ [⟨ws[j].Hi, iAdd .u64 ws[j].Lo 1⟩] ++ ws.drop (j + 1) := by
      rw [List.set_append_right _ _ (by omega), hzs, Nat.sub_self, List.drop_eq_getElem_cons hj']
      simp only [List.cons_append, List.set_cons_zero, List.append_assoc, List.nil_append]
    rw [← this]
    exact bu9
  clear ih bu8 bu7
  have q1 := p1.but b8 F16'
  have q2 := p2.but b8 F26'
  clear p1 p2 b8
  refine w_loop (fun i : Int => sts.length - i.toNat) (fun i h' => ∃ j : Nat, i = (j : Int) ∧ j ≤ sts.length ∧ Op F1 h' r7.1 r1.1 ∧ Op F2 h' r9.1 r3.1 ∧ Keeps h h') ?_ ⟨0, rfl, Nat.zero_le _, q1, q2, k8⟩
  rintro rec2 i h9 ⟨j, rfl, hj, q1, q2, k9⟩ ih
  refine w_if' (fun c => ?_) fun c => ?_
  · have hj' : j < sts.length := by omega
    have hg : sts[j]? = some sts[j] := List.getElem?_eq_getElem hj'
    refine w_joinP (fun b h' => b = true ∧ Op F1 h' r7.1 r1.1 ∧ Op F2 h' r9.1 r3.1 ∧ Keeps h h') (fun rest hr => ?_) ?_
    · refine w_joinP (fun b h' => h9 = h' ∧ (b = true → ∃ p, r9.1 = some p ∧ PairAt F2 h9 p r3.1)) (fun rest2 hr2 => ?_) ?_
      · refine w_idx step_len (ha3.keep k9) hg rfl fun x _ hax => ?_
        refine w_load (cells := cBool) (v := sts[j].Second) (At.sub (l1 := []) (l2 := [.bool sts[j].Second]) (l3 := [.int .i64 sts[j].Kind, .int .i64 sts[j].N]) hax rfl) ?_
        refine w_if (fun _ => hr2 _ _ ⟨rfl, fun e => ?_⟩) fun _ => hr2 _ _ ⟨rfl, fun e => by cases e⟩
        rcases q2 with q | q
        · rw [q] at e; cases e
        · exact q
      · rintro b _ ⟨rfl, hb⟩
        refine w_if (fun e => ?_) fun _ => ?_
        · obtain ⟨p, ep, pa⟩ := hb e
          refine w_idx step_len (ha3.keep k9) hg rfl fun x _ hax => w_load hax ?_
          rw [ep]
          refine t_step pa fun h10 b10 pa' => hr _ _ ⟨rfl, q1.but b10 F12', .inr ⟨p, ep, pa'⟩, k9.but b10 G2'⟩
        · refine w_joinP (fun b h' => h9 = h' ∧ (b = true → ∃ p, r7.1 = some p ∧ PairAt F1 h9 p r1.1)) (fun rest2 hr2 => ?_) ?_
          · refine w_idx step_len (ha3.keep k9) hg rfl fun x _ hax => ?_
            refine w_load (cells := cBool) (v := sts[j].Second) (At.sub (l1 := []) (l2 := [.bool sts[j].Second]) (l3 := [.int .i64 sts[j].Kind, .int .i64 sts[j].N]) hax rfl) ?_
            refine w_if (fun _ => hr2 _ _ ⟨rfl, fun e => ?_⟩) fun _ => hr2 _ _ ⟨rfl, fun e => by cases e⟩
            rcases q1 with q | q
            · rw [q] at e; cases e
            · exact q
          · rintro b _ ⟨rfl, hb⟩
            refine w_if (fun e => ?_) fun _ => hr _ _ ⟨rfl, q1, q2, k9⟩
            obtain ⟨p, ep, pa⟩ := hb e
            refine w_idx step_len (ha3.keep k9) hg rfl fun x _ hax => w_load hax ?_
            rw [ep]
            refine t_step pa fun h10 b10 pa' => hr _ _ ⟨rfl, .inr ⟨p, ep, pa'⟩, q2.but b10 fun b e f => F12' b f e, k9.but b10 G1'⟩
    · rintro b h10 ⟨rfl, q1, q2, k10⟩
      refine w_ifF rfl ?_
      rw [iAdd_eq (by omega) (by omega)]
      exact ih _ _ ⟨j + 1, rfl, hj', q1, q2, k10⟩ (by omega)
  clear ih
  have last : ∀ h', Op F2 h' r9.1 r3.1 → Keeps h h' → ∀ {b : Bool}, b = r9.1.isNone → mIf b (K true) (m_law04_Pair_step ⟨r9.1, r3.1⟩ ⟨false, 1, 0⟩ fun r70 => K r70) h' := by
    rintro h' q2 kh b rfl
    rcases q2 with q | ⟨p, ep, pa⟩
    · rw [q]; exact w_ifT rfl (k _ kh)
    · rw [ep]; exact w_ifF rfl (t_step pa fun h10 b10 _ => k _ (kh.but b10 G2'))
  rcases q1 with q | ⟨p, ep, pa⟩
  · rw [q]
    exact w_ifT rfl (last _ q2 k9 rfl)
  · rw [ep]
    refine w_ifF rfl (t_step pa fun h10 b10 pa' => w_ifT rfl ?_)
    exact last _ (q2.but b10 fun b e f => F12' b f e) (k9.but b10 G1') rfl
end Go.Proofs.Ytnmaknkbdfpbkaa.K
