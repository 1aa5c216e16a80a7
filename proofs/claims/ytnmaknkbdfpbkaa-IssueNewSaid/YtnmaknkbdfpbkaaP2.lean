/- The laws of the counter of draws: DrawsApart. -/
import Derived.Test.YtnmaknkbdfpbkaaP1
import Derived.Test.YtnmaknkbdfpbkaaFlaw04
import Derived.Test.YtnmaknkbdfpbkaaFlaw04x2
namespace Go.Proofs.Ytnmaknkbdfpbkaa.K
open Go

theorem t_law04_known {h : H} {K : Bool → H → Prop} (k : ∀ h', Keeps h h' → K true h') : m_law04_known K h := by
  unfold m_law04_known
  refine w_new fun b hb => ?_
  have hk0 : Keeps h (upd h b (.cells #[(Value.int .u64 0), (Value.int .u64 300), (Value.int .u64 5), (Value.int .u64 1)] 25 (0, 0))) := .new hb
  have arr : Arr S_api_Word.cells (upd h b (.cells #[(Value.int .u64 0), (Value.int .u64 300), (Value.int .u64 5), (Value.int .u64 1)] 25 (0, 0))) ⟨some ⟨b, 0, none⟩, 2, 2⟩ [⟨0, 300⟩, ⟨5, 1⟩] :=
    ⟨rfl, Nat.le_refl _, fun _ => ⟨_, rfl, At.own (l1 := []) (l3 := []) (upd_same _ _ _) rfl⟩⟩
  generalize upd h b (.cells #[(Value.int .u64 0), (Value.int .u64 300), (Value.int .u64 5), (Value.int .u64 1)] 25 (0, 0)) = h1 at hk0 arr
  refine t_draws_New arr (fun e => absurd e (by decide)) (fun _ _ e => absurd e (by decide)) fun _ _ _ p s h2 hk1 d hf => ?_
  refine w_join (w_ifF rfl (w_ifF rfl ?_))
  refine t_Draw d (fun e => absurd e (by decide)) fun w1 h3 hw1 b1 d1 m1 => ?_
  refine t_Draw d1 (fun e => absurd e (by decide)) fun w2 h4 hw2 b2 d2 m2 => ?_
  obtain rfl : w1 = ⟨0, 44⟩ := by
    have e : ([⟨0, 300⟩, ⟨5, 1⟩] : List S_api_Word).map (cutW 8) = [⟨0, 44⟩, ⟨0, 1⟩] := by
      simp only [List.map]
      have e1 : cutW 8 ⟨0, 300⟩ = ⟨0, 44⟩ := by unfold cutW; rw [if_pos (by decide)]; congr 1
      have e2 : cutW 8 ⟨5, 1⟩ = ⟨0, 1⟩ := by unfold cutW; rw [if_pos (by decide)]; congr 1
      rw [e1, e2]
    rw [e] at hw1
    exact (Option.some.inj hw1).symm
  obtain rfl : w2 = ⟨0, 1⟩ := by
    have e : ([⟨0, 300⟩, ⟨5, 1⟩] : List S_api_Word).map (cutW 8) = [⟨0, 44⟩, ⟨0, 1⟩] := by
      simp only [List.map]
      have e1 : cutW 8 ⟨0, 300⟩ = ⟨0, 44⟩ := by unfold cutW; rw [if_pos (by decide)]; congr 1
      have e2 : cutW 8 ⟨5, 1⟩ = ⟨0, 1⟩ := by unfold cutW; rw [if_pos (by decide)]; congr 1
      rw [e1, e2]
    rw [e] at hw2
    exact (Option.some.inj hw2).symm
  refine t_Draw d2 (fun _ => ?_) fun w h' e => absurd (lt_of_get e) (by decide)
  refine w_ifT (by decide) (w_ifT (by decide) (w_ifT (by decide) (w_ifT (by decide) (w_ifT (by decide) ?_))))
  refine t_Taken d2 (w_ifT (by decide) (t_Left d2 ?_))
  have hp : h p.block = none := hk0.fresh (hf _ (.inl rfl))
  refine k _ (((hk0.trans hk1).but b1 fun n e => by rw [e]; exact hp).but b2 fun n e => by rw [e]; exact hp)

/-- A width out of any number. -/
theorem width (a : Int) : ∃ n, iAdd .i64 1 (iRem .i64 (iAdd .i64 (iRem .i64 a 128) 128) 128) = n ∧ 1 ≤ n ∧ n ≤ 128 := by
  unfold iRem
  have h1 := Int.tmod_lt_of_pos a (b := 128) (by decide)
  have h2 : -128 < a.tmod 128 := by
    have := Int.lt_tmod_of_pos a (b := 128) (by decide)
    omega
  rw [iAdd_eq (a := a.tmod 128) (b := 128) (by omega) (by omega)]
  have h3 := Int.tmod_lt_of_pos (a.tmod 128 + 128) (b := 128) (by decide)
  have h4 := Int.tmod_nonneg 128 (show 0 ≤ a.tmod 128 + 128 by omega)
  exact ⟨1 + (a.tmod 128 + 128).tmod 128, iAdd_eq (by omega) (by omega), by omega, by omega⟩

theorem eqw (x : S_api_Word) : (!((decide (x.Hi = x.Hi)) && ((decide (x.Lo = x.Lo)) && true))) = false := by simp

theorem t_DrawsApart {h : H} {a0 : Sl} {a1 : Int} {ws0 : List S_api_Word} {K : Bool → H → Prop} (ha0 : Arr S_api_Word.cells h a0 ws0) (k : ∀ h', Keeps h h' → K true h') : m_law04_DrawsApart a0 a1 K h := by
  unfold m_law04_DrawsApart
  obtain ⟨wd, hwd, hw1, hw2⟩ := width a1
  rw [hwd]
  suffices main : ∀ (s1 : Sl) (ws : List S_api_Word), Arr S_api_Word.cells h s1 ws → ws.length ≤ 4000 → _ by
    refine w_join (w_if' (fun c => ?_) fun c => ?_)
    · refine w_take ha0 (n := 4000) (by have := ha0.len; omega) rfl rfl fun s1 hs _ _ => ?_
      exact main s1 _ hs (by rw [List.length_take]; omega)
    · exact main a0 ws0 ha0 (by have := ha0.len; omega)
  intro s1 ws ha hlen
  have hl := ha.len
  refine w_new fun b0 hb0 => ?_
  have k1 : Keeps h (upd h b0 (.cells #[] 25 (0, 0))) := .new hb0
  have bu0 : Buf S_api_Word.cells 2 25 (upd h b0 (.cells #[] 25 (0, 0))) ⟨some ⟨b0, 0, none⟩, 0, 0⟩ ([] : List S_api_Word) := ⟨rfl, Nat.le_refl _, .inr ⟨b0, [], rfl, upd_same _ _ _, rfl⟩⟩
  generalize upd h b0 (.cells #[] 25 (0, 0)) = h1 at k1 bu0
  refine w_append word_len word_plain rfl bu0 (ha.keep k1) (.inr ⟨rfl, by omega⟩) fun s4 h2 bu4 bt4 f4 m4 => ?_
  have fr4 : ∀ b, s4.foot b → h b = none := fun b f => (f4 b f).elim (fun ⟨a, e, e'⟩ => by cases e; cases e'; exact hb0) k1.fresh
  have k2 : Keeps h h2 := k1.but bt4 fun n ⟨a, e, e'⟩ => by cases e; cases e'; exact hb0
  rw [List.nil_append] at bu4
  refine w_app word_len rfl bu4 [⟨7, 0⟩, ⟨8, 0⟩] rfl rfl (.inl (by simp; omega)) fun s6 h3 bu6 bt6 f6 m6 => ?_
  have fr6 : ∀ b, s6.foot b → h b = none := fun b f => (f6 b f).elim (fr4 b) k2.fresh
  have k3 : Keeps h h3 := k2.but bt6 fr4
  refine w_take bu6.arr (n := ws.length) (by simp) rfl (by rw [hl]) fun s7 hs7 f7 _ => ?_
  rw [List.take_left] at hs7
  refine t_draws_New hs7 (fun e => absurd e (by omega)) (fun _ _ e => absurd e (by omega)) fun _ _ _ p1 q1 h4 k4 d1 fd1 => ?_
  refine w_take (bu6.arr.keep k4) (n := ws.length) (by simp) rfl (by rw [hl]) fun s11 hs11 f11 _ => ?_
  rw [List.take_left] at hs11
  refine t_draws_New hs11 (fun e => absurd e (by omega)) (fun _ _ e => absurd e (by omega)) fun _ _ _ p2 q2 h5 k5 d2 fd2 => ?_
  refine w_join (t_law04_known fun h6 k6 => ?_)
  refine w_ifF rfl (w_ifF rfl (w_ifF rfl (w_ifF rfl (w_ifF rfl ?_))))
  have bu6' := ((bu6.keep k4).keep k5).keep k6
  have d1' := (d1.keep k5).keep k6
  have d2' := d2.keep k6
  have kk : Keeps h h6 := ((k3.trans k4).trans k5).trans k6
  have ap61 : ∀ b, s6.foot b → ¬ Foot p1 q1 b := fun b ⟨a, e, e'⟩ f => by
    have h0 := fd1 b f
    rcases bu6.at_ with ⟨e1, _⟩ | ⟨b', z, e1, e2, _⟩
    · rw [e1] at e; cases e
    · rw [e1] at e; cases e; cases e'; rw [h0] at e2; cases e2
  have ap62 : ∀ b, s6.foot b → ¬ Foot p2 q2 b := fun b ⟨a, e, e'⟩ f => by
    have h0 := k4.fresh (fd2 b f)
    rcases bu6.at_ with ⟨e1, _⟩ | ⟨b', z, e1, e2, _⟩
    · rw [e1] at e; cases e
    · rw [e1] at e; cases e; cases e'; rw [h0] at e2; cases e2
  have ap12 : ∀ b, Foot p2 q2 b → b ≠ p1.block := fun b f e => by
    have h0 := fd2 b f
    rw [e, d1.cell] at h0; cases h0
  have fr1 : h p1.block = none := k3.fresh (fd1 _ (.inl rfl))
  have fr2 : h p2.block = none := (k3.trans k4).fresh (fd2 _ (.inl rfl))
  clear bu6 d1 d2 hs7 hs11 bu0 bu4 bt4 bt6
  have ml : (ws.map (cutW wd)).length = ws.length := List.length_map ..
  refine w_loop (fun i : Int => ws.length - i.toNat) (fun i h' => ∃ j : Nat, i = (j : Int) ∧ j ≤ ws.length ∧ DrawsAt h' p1 q1 (ws.map (cutW wd)) j ∧ But (fun b => b = p1.block) h6 h') ?_ ⟨0, rfl, Nat.zero_le _, d1', .refl _ _⟩
  rintro rec1 i h7 ⟨j, rfl, hj, d1, b7⟩ ih
  refine w_if' (fun c => ?_) fun c => ?_
  · refine t_Draw d1 (fun e => by omega) fun w h' hw bt d m => ?_
    rw [iAdd_eq (by omega) (by omega)]
    exact ih _ _ ⟨j + 1, rfl, by omega, d, b7.trans bt fun n e => .inl e⟩ (by omega)
  clear ih
  have hje : j = ws.length := by omega
  subst hje
  have bu7 : Buf S_api_Word.cells 2 25 h7 s6 (ws ++ [⟨7, 0⟩, ⟨8, 0⟩]) := bu6'.but b7 fun a e f => ap61 _ ⟨a, e, rfl⟩ (.inl f)
  have d27 : DrawsAt h7 p2 q2 (ws.map (cutW wd)) 0 := d2'.but b7 fun b f e => ap12 b f e
  have k7 : Keeps h h7 := kk.but b7 fun n e => by rw [e]; exact fr1
  clear bu6' d1' d2' b7
  refine w_join ?_
  refine w_idx word_len bu7.arr (i := ws.length) (v := ⟨7, 0⟩) (by simp) (by rw [hl]) fun x _ hx => w_load hx (w_ifF (by decide) ?_)
  rw [iAdd_eq (by omega) (by omega)]
  refine w_idx word_len bu7.arr (i := ws.length + 1) (v := ⟨8, 0⟩) (by simp) (by rw [hl]; rfl) fun x _ hx => w_load hx (w_ifF (by decide) ?_)
  refine w_loop (fun i : Int => ws.length - i.toNat) (fun i h' => ∃ j : Nat, i = (j : Int) ∧ j ≤ ws.length ∧ (∃ zs, zs.length = j ∧ Buf S_api_Word.cells 2 25 h' s6 (zs ++ (ws.drop j ++ [⟨7, 0⟩, ⟨8, 0⟩]))) ∧ But s6.foot h7 h') ?_
    ⟨0, rfl, Nat.zero_le _, ⟨[], rfl, bu7⟩, .refl _ _⟩
  rintro rec2 i h8 ⟨j, rfl, hj, ⟨zs, hzs, bu8⟩, b8⟩ ih
  have k8 : Keeps h h8 := k7.but b8 fr6
  refine w_if' (fun c => ?_) fun c => ?_
  · have hj' : j < ws.length := by omega
    have hg : (zs ++ (ws.drop j ++ [⟨7, 0⟩, ⟨8, 0⟩]))[j]? = some ws[j] := by
      rw [List.getElem?_append_right (by omega), hzs, Nat.sub_self, List.getElem?_append_left (by simp; omega), List.getElem?_drop, Nat.add_zero, List.getElem?_eq_getElem hj']
    refine w_idx word_len bu8.arr hg rfl fun x hx hax => ?_
    refine w_idx word_len (ha.keep k8) (List.getElem?_eq_getElem hj') rfl fun y _ hay => ?_
    refine w_load hax (w_load hay (w_ifF (eqw _) ?_))
    refine ⟨x, hx, x, hx, ?_⟩
    refine w_load (cells := cInt .u64) (v := ws[j].Hi) (At.sub (l1 := []) (l3 := [.int .u64 ws[j].Lo]) hax rfl) ?_
    refine w_load (cells := cInt .u64) (v := ws[j].Lo) (At.sub (l1 := [.int .u64 ws[j].Hi]) (l3 := []) hax rfl) ?_
    refine ⟨x, hx, ?_⟩
    refine w_set word_len bu8 (v' := ⟨iAdd .u64 ws[j].Hi 1, iAdd .u64 ws[j].Lo 1⟩) hg hx (c1 := []) (c2 := S_api_Word.cells ws[j]) (c3 := []) (new := S_api_Word.cells ⟨iAdd .u64 ws[j].Hi 1, iAdd .u64 ws[j].Lo 1⟩) (by simp) (by simp) rfl (add_zero _).symm fun h9 bu9 b9 m9 => ?_
    rw [iAdd_eq (a := (j : Int)) (by omega) (by omega)]
    refine ih _ _ ⟨j + 1, rfl, hj', ⟨zs ++ [⟨iAdd .u64 ws[j].Hi 1, iAdd .u64 ws[j].Lo 1⟩], by simp [hzs], ?_⟩, b8.trans b9 fun n e => .inl e⟩ (by omega)
    have : (zs ++ (ws.drop j ++ [(⟨7, 0⟩ : S_api_Word), ⟨8, 0⟩])).set j ⟨iAdd .u64 ws[j].Hi 1, iAdd .u64 ws[j].Lo 1⟩ = zs ++ [⟨iAdd .u64 ws[j].Hi 1, iAdd .u64 ws[j].Lo 1⟩] ++ (ws.drop (j + 1) ++ [⟨7, 0⟩, ⟨8, 0⟩]) := by
      rw [List.set_append_right _ _ (by omega), hzs, Nat.sub_self, List.drop_eq_getElem_cons hj']
      simp only [List.cons_append, List.set_cons_zero, List.append_assoc, List.nil_append]
    rw [← this]
    exact bu9
  clear ih bu8
  have d18 : DrawsAt h8 p1 q1 (ws.map (cutW wd)) ws.length := d1.but b8 fun b f s => ap61 b s f
  have d28 : DrawsAt h8 p2 q2 (ws.map (cutW wd)) 0 := d27.but b8 fun b f s => ap62 b s f
  refine w_join (t_Taken d28 (w_ifF rfl (t_Left d18 (w_ifF (by rw [ml]; simp) ?_))))
  refine w_loop (fun i : Int => ws.length - i.toNat) (fun i h' => ∃ j : Nat, i = (j : Int) ∧ j ≤ ws.length ∧ DrawsAt h' p2 q2 (ws.map (cutW wd)) j ∧ Keeps h h') ?_ ⟨0, rfl, Nat.zero_le _, d28, k8⟩
  rintro rec3 i h9 ⟨j, rfl, hj, d9, k9⟩ ih
  refine w_if' (fun c => ?_) fun c => ?_
  · refine t_Draw d9 (fun e => by omega) fun w h' hw bt d m => ?_
    have hj' : j < ws.length := by omega
    rw [List.getElem?_map, List.getElem?_eq_getElem hj'] at hw
    obtain rfl := Option.some.inj hw
    have k' : Keeps h h' := k9.but bt fun n e => by rw [e]; exact fr2
    refine w_join (w_ifF rfl ?_)
    refine w_idx word_len (ha.keep k') (List.getElem?_eq_getElem hj') rfl fun y _ hay => ?_
    refine w_load hay (w_pure _ (fun _ _ q => t_law04_cut hw1 hw2 q) (w_ifF (eqw _) ?_))
    rw [iAdd_eq (by omega) (by omega)]
    exact ih _ _ ⟨j + 1, rfl, hj', d, k'⟩ (by omega)
  · have hje : j = ws.length := by omega
    refine t_Left d9 ?_
    rw [ml, hje, Nat.sub_self]
    exact k _ k9
end Go.Proofs.Ytnmaknkbdfpbkaa.K
