/- Rows written over with marks of their own and lengthened, for any kind of elements. -/
import Derived.Test.YtiajjcboddaenaaSl1
namespace Go.Proofs.Ytiajjcboddaenaa.K
open Go
theorem csl_len : ∀ s : Sl, (cSl s).length = 1 := fun _ => rfl
/-- The code of the laws' 'marked': 'st' are a mark's cells, 'rd' reads an element, 'mk' is what it is to read. -/
def mMark3 (e esl : TypeId) (sz by_ : Nat) (zero : Array Value) (st : Int → List Value) (rd : Addr → (Int → H → Prop) → H → Prop) (mk : Int → Int) (a0 : Sl) (K : Bool → H → Prop) : H → Prop :=
  mLoop (fun (rec2 : Int → H → Prop) (s1 : Int) =>
    mIf (decide (s1 < (a0.len : Int))) (
      mLoop (fun (rec4 : Int → H → Prop) (s3 : Int) =>
        mIdx a0 s1 1 fun ad5 =>
        mLoad cSl ad5 fun x6 =>
        mIf (decide (s3 < (x6.len : Int))) (
          mIdx a0 s1 1 fun ad7 =>
          mLoad cSl ad7 fun x8 =>
          mIdx x8 s3 sz fun ad9 =>
          mStore ad9 (st s1) <|
          rec4 (iAdd .i64 s3 1)
          ) (
          rec2 (iAdd .i64 s1 1)
          )
        ) 0
      ) (
      mLoop (fun (rec11 : (Sl × Int) → H → Prop) (s10 : Sl × Int) =>
        mIf (decide (s10.2 < (a0.len : Int))) (
          mIdx a0 s10.2 1 fun ad12 =>
          mLoad cSl ad12 fun x13 =>
          mLoop (fun (rec15 : (Sl × Int) → H → Prop) (s14 : Sl × Int) =>
            mIf (decide (s14.2 < 40)) (
              mApp e sz by_ zero 1 (st s10.2) s14.1 fun s16 =>
              rec15 (s16, (iAdd .i64 s14.2 1))
              ) (
              mApp esl 1 24 #[(Sl.val Sl.nil)] 1 [(Sl.val s14.1)] s10.1 fun s17 =>
              rec11 (s17, (iAdd .i64 s10.2 1))
              )
            ) (x13, 0)
          ) (
          mLoop (fun (rec19 : Int → H → Prop) (s18 : Int) =>
            mIf (decide (s18 < (a0.len : Int))) (
              mLoop (fun (rec21 : Int → H → Prop) (s20 : Int) =>
                mIdx s10.1 s18 1 fun ad22 =>
                mLoad cSl ad22 fun x23 =>
                mIf (decide (s20 < (x23.len : Int))) (
                  mIdx s10.1 s18 1 fun ad24 =>
                  mLoad cSl ad24 fun x25 =>
                  mIdx x25 s20 sz fun ad26 =>
                  rd ad26 fun x27 =>
                  mJoin (fun (s40 : Bool) =>
                    mIf s40 (
                      K false
                      ) (
                      rec21 (iAdd .i64 s20 1)
                      )
                    ) (fun j41 =>
                    mIf (!decide (x27 = mk s18)) (
                      j41 true
                      ) (
                      mIdx a0 s18 1 fun ad42 =>
                      mLoad cSl ad42 fun x43 =>
                      mIf (decide (s20 < (x43.len : Int))) (
                        mIdx a0 s18 1 fun ad48 =>
                        mLoad cSl ad48 fun x49 =>
                        mIdx x49 s20 sz fun ad50 =>
                        rd ad50 fun x51 =>
                        j41 (!decide (x51 = mk s18))
                        ) (
                        j41 false
                        )
                      ))
                  ) (
                  rec19 (iAdd .i64 s18 1)
                  )
                ) 0
              ) (
              K true
              )
            ) 0
          )
        ) (Sl.nil, 0)
      )
    ) 0
def feetS (ss : List Sl) (b : Nat) : Prop := ∃ s ∈ ss, s.foot b
theorem take_set2 {T : Type} {ys : List T} {i : Nat} {m : T} (hi : i < ys.length) (e : ys.take i = List.replicate i m) : (ys.set i m).take (i + 1) = List.replicate (i + 1) m := by
  rw [List.take_add_one, List.getElem?_set_self hi, List.replicate_succ', ← e, Option.toList_some]
  congr 1
  rw [List.take_set_of_le (Nat.le_refl i)]
section
variable {T : Type} {cells : T → List Value} {sz by_ : Nat} {e esl : TypeId} {zero : Array Value} {st : Int → List Value} {rd : Addr → (Int → H → Prop) → H → Prop} {mk : Int → Int} {h : H}
theorem w_mark3 (hs : ∀ x, (cells x).length = sz) (hz : zero.size = sz) (m : Nat → T) (hst : ∀ k : Nat, k < 2 ^ 40 → st k = cells (m k)) (hrd : ∀ (k : Nat) (a : Addr) (h : H) (c : Int → H → Prop), k < 2 ^ 40 → At h a (cells (m k)) → c (mk k) h → rd a c h)
    {a : Sl} {ss : List Sl} (sp : Arr cSl h a ss) (hn : ss.length ≤ 2 ^ 30) (hb : ∀ s ∈ ss, (2 * (s.len + 41) + 192) * by_ ≤ 2 ^ 48) (hbl : ∀ s ∈ ss, s.len ≤ 2 ^ 50) (sep : ∀ (i j : Nat) (s t : Sl), ss[i]? = some s → ss[j]? = some t → i ≠ j → ∀ b, s.foot b → ¬ t.foot b) (hsp : ∀ b, feetS ss b → ¬ a.foot b)
    (r0 : ∀ s ∈ ss, ∃ ys, Buf cells sz e h s ys) {K : Bool → H → Prop} (y : ∀ h', But (feetS ss) h h' → (∀ c, h' c = none → h c = none) → K true h') : mMark3 e esl sz by_ zero st rd mk a K h := by
  have hal := sp.len
  have nxt : ∀ j : Nat, j < 2 ^ 62 → iAdd .i64 (j : Int) 1 = ((j + 1 : Nat) : Int) := fun j q => by
    rw [iAdd_eq (by omega) (by omega)]; omega
  have spk : ∀ {h'}, But (feetS ss) h h' → Arr cSl h' a ss := fun b => sp.but b fun _ x e f => hsp _ f ⟨x, e, rfl⟩
  have hf : ∀ {s : Sl}, s ∈ ss → ∀ {b}, s.foot b → h b ≠ none := fun {s} hm {b} f => by
    obtain ⟨ys, x⟩ := r0 _ hm
    exact x.has f
  unfold mMark3
  -- written over
  refine w_for ss.length (fun j z h' => z = (j : Int) ∧ But (feetS ss) h h' ∧ (∀ c, h' c = none → h c = none) ∧ ∀ (i : Nat) (s : Sl), ss[i]? = some s → ∃ ys, Buf cells sz e h' s ys ∧ (i < j → ys = List.replicate ys.length (m i))) ?_ ⟨rfl, .refl _ _, fun _ q => q, fun i s e => by
    obtain ⟨ys, x⟩ := r0 s (List.mem_of_getElem? e)
    exact ⟨ys, x, fun q => by omega⟩⟩
  rintro rec j _ h1 hj ⟨rfl, b1, d1, r1⟩ more
  refine w_if' (fun c => ?_) fun c => ?_
  · have c : (j : Int) < (a.len : Int) := c
    have hlt : j < ss.length := by omega
    obtain ⟨s, es⟩ : ∃ s, ss[j]? = some s := ⟨_, List.getElem?_eq_getElem hlt⟩
    have hms : s ∈ ss := List.mem_of_getElem? es
    obtain ⟨ys0, x0, _⟩ := r1 j s es
    have hys := x0.len
    have hbs := hbl s hms
    have bf : ∀ {h' h''}, But (feetS ss) h h' → But s.foot h' h'' → But (feetS ss) h h'' := fun p q => p.trans q fun n f => .inl ⟨s, hms, f⟩
    refine w_for s.len (fun i z h' => z = (i : Int) ∧ But s.foot h1 h' ∧ (∀ c, h' c = none → h1 c = none) ∧ ∃ ys, Buf cells sz e h' s ys ∧ ys.take i = List.replicate i (m j)) ?_ ⟨rfl, .refl _ _, fun _ q => q, ys0, x0, rfl⟩
    rintro rec2 i _ h2 hi ⟨rfl, b2, d2, ys, x, ex⟩ more2
    have hl := x.len
    refine w_get csl_len (spk (bf b1 b2)) es rfl (v' := s) rfl ?_
    refine w_if' (fun c2 => ?_) fun c2 => ?_
    · have c2 : (i : Int) < (s.len : Int) := c2
      refine w_get csl_len (spk (bf b1 b2)) es rfl (v' := s) rfl ?_
      rw [hst j (by omega)]
      refine w_put hs x (i := i) (by omega) rfl (m j) rfl fun h3 x3 b3 d3 => ?_
      rw [nxt i (by omega)]
      exact more2 _ _ (by omega) ⟨rfl, b2.trans b3 fun n f => .inl f, fun c q => d2 c (d3 c q), _, x3, take_set2 (by omega) ex⟩
    · have c2 : ¬ (i : Int) < (s.len : Int) := c2
      rw [nxt j (by omega)]
      refine more _ _ hlt ⟨rfl, bf b1 b2, fun c q => d1 c (d2 c q), fun q t eq => ?_⟩
      by_cases hq : q = j
      · subst hq
        rw [es] at eq; cases eq
        refine ⟨ys, x, fun _ => ?_⟩
        have : ys.take i = ys := List.take_of_length_le (by omega)
        rw [this] at ex
        rw [ex]; simp
      · obtain ⟨zs, xz, ez⟩ := r1 q t eq
        exact ⟨zs, xz.but b2 fun x e f => sep q j t s eq es hq x.block ⟨x, e, rfl⟩ f, fun l => ez (by omega)⟩
  have c : ¬ (j : Int) < (a.len : Int) := c
  have hj : j = ss.length := by omega
  subst hj
  clear more rec
  have r1 : ∀ (i : Nat) (s : Sl), ss[i]? = some s → Buf cells sz e h1 s (List.replicate s.len (m i)) := fun i s e => by
    obtain ⟨ys, x, q⟩ := r1 i s e
    have := q (lt_of_get e)
    rw [this] at x
    have hl := x.len
    rw [List.length_replicate] at hl
    rw [hl]; exact x
  have hf1 : ∀ {s : Sl}, s ∈ ss → ∀ {b}, s.foot b → h1 b ≠ none := fun {s} hm {b} f q => hf hm f (d1 b q)
  -- lengthened
  refine w_for ss.length (fun j z h' => z.2 = (j : Int) ∧ But (feetS ss) h1 h' ∧ (∀ c, h' c = none → h1 c = none) ∧ ∃ ls : List Sl, Buf cSl 1 esl h' z.1 ls ∧ ls.length = j ∧ (∀ b, z.1.foot b → h1 b = none) ∧
    (∀ (i : Nat) s, j ≤ i → ss[i]? = some s → Buf cells sz e h' s (List.replicate s.len (m i))) ∧
    ∀ (i : Nat) (l s : Sl), ls[i]? = some l → ss[i]? = some s → Arr cells h' s (List.replicate s.len (m i)) ∧ Arr cells h' l (List.replicate (s.len + 40) (m i)) ∧ (∀ b, l.foot b → ¬ z.1.foot b ∧ (s.foot b ∨ h1 b = none))) ?_
    ⟨rfl, .refl _ _, fun _ q => q, [], Buf.nil, rfl, fun b ⟨x, e, _⟩ => (by cases e), fun i s _ es => r1 i s es, fun i l s e => (by cases e)⟩
  rintro rec j ⟨LL, jz⟩ h2 hj ⟨ej, b2, d2, ls, xl, hll, fr, rest, hls⟩ more
  have ej : jz = (j : Int) := ej
  subst ej
  have xl : Buf cSl 1 esl h2 LL ls := xl
  refine w_if' (fun c => ?_) fun c => ?_
  · have c : (j : Int) < (a.len : Int) := c
    have hlt : j < ss.length := by omega
    obtain ⟨s, es⟩ : ∃ s, ss[j]? = some s := ⟨_, List.getElem?_eq_getElem hlt⟩
    have hms : s ∈ ss := List.mem_of_getElem? es
    have hbs := hb s hms
    have hbl' := hbl s hms
    have b12 := (b1.trans b2 fun n f => .inl f)
    refine w_get csl_len (spk b12) es rfl (v' := s) rfl ?_
    have hfs : ∀ {b}, s.foot b → h2 b ≠ none := fun {b} f q => hf1 hms f (d2 b q)
    refine w_for 40 (fun i z h' => z.2 = (i : Int) ∧ But s.foot h2 h' ∧ (∀ c, h' c = none → h2 c = none) ∧ Buf cells sz e h' z.1 (List.replicate (s.len + i) (m j)) ∧ ((z.1.a = s.a ∧ z.1.cap = s.cap) ∨ (Arr cells h' s (List.replicate s.len (m j)) ∧ ∀ b, z.1.foot b → h2 b = none))) ?_
      ⟨rfl, .refl _ _, fun _ q => q, rest j s (Nat.le_refl _) es, .inl ⟨rfl, rfl⟩⟩
    rintro rec2 i ⟨l, iz⟩ h3 hi ⟨ei, b3, d3, x3, hst3⟩ more2
    have ei : iz = (i : Int) := ei
    subst ei
    have x3 : Buf cells sz e h3 l (List.replicate (s.len + i) (m j)) := x3
    have hst3 : (l.a = s.a ∧ l.cap = s.cap) ∨ (Arr cells h3 s (List.replicate s.len (m j)) ∧ ∀ b, l.foot b → h2 b = none) := hst3
    have lf : ∀ b, l.foot b → s.foot b ∨ h2 b = none := fun b f => by
      rcases hst3 with ⟨q, _⟩ | ⟨_, q⟩
      · obtain ⟨ad, q1, q2⟩ := f
        exact .inl ⟨ad, q ▸ q1, q2⟩
      · exact .inr (q b f)
    have arS : Arr cells h3 s (List.replicate s.len (m j)) := by
      rcases hst3 with ⟨q1, q2⟩ | ⟨q, _⟩
      · have := (x3.front (n := s.len) (by rw [List.length_replicate]; omega)).arr
        rw [q1, q2, List.take_replicate, Nat.min_eq_left (by omega)] at this
        exact this
      · exact q
    refine w_if' (fun c2 => ?_) fun c2 => ?_
    · have c2 : (i : Int) < 40 := c2
      rw [hst j (by omega)]
      have er : List.replicate (s.len + i) (m j) ++ [m j] = List.replicate (s.len + (i + 1)) (m j) := by rw [← Nat.add_assoc, List.replicate_succ']
      have room : (2 * ((List.replicate (s.len + i) (m j)).length + [m j].length) + 192) * by_ ≤ 2 ^ 48 := Nat.le_trans (Nat.mul_le_mul_right _ (by rw [List.length_replicate]; simp only [List.length_singleton]; omega)) hbs
      by_cases fit : l.len + [m j].length ≤ l.cap
      · refine w_appIn hs hz x3 [m j] (by simp [flat]) rfl fit room fun h4 x4 b4 d4 => ?_
        rw [er] at x4
        refine more2 _ _ (by omega) ⟨nxt i (by omega), b3.trans b4 fun n f => lf n f, fun c q => d3 c (d4 c q), x4, ?_⟩
        rcases hst3 with ⟨q1, q2⟩ | ⟨q1, q2⟩
        · exact .inl ⟨q1, q2⟩
        · exact .inr ⟨q1.but b4 fun _ ad ha f => hfs ⟨ad, ha, rfl⟩ (q2 _ f), fun b f => q2 b f⟩
      · refine w_appX hs hz x3 [m j] (by simp [flat]) rfl (.inl room) fun l' h4 x4 b4 f4 d4 => ?_
        rw [er] at x4
        have k4 : Keeps h3 h4 := b4.keeps fun b q => fit q.2
        refine more2 _ _ (by omega) ⟨nxt i (by omega), b3.trans (.of k4 : But s.foot h3 h4) fun n f => .inl f, fun c q => d3 c (d4 c q), x4, .inr ⟨arS.keep k4, fun b f => ?_⟩⟩
        rcases f4 b f with q | q
        · exact absurd q.2 fit
        · exact d3 b q
    · have c2 : ¬ (i : Int) < 40 := c2
      have hi : i = 40 := by omega
      subst hi
      have xl3 : Buf cSl 1 esl h3 LL ls := xl.but b3 fun ad ha f => hf1 hms f (fr _ ⟨ad, ha, rfl⟩)
      have apL : ∀ b, l.foot b → ¬ LL.foot b := fun b f g => by
        rcases lf b f with q | q
        · exact hf1 hms q (fr b g)
        · exact xl.has g q
      refine w_app csl_len rfl xl3 [l] rfl rfl (.inl (by rw [hll]; simp only [List.length_singleton]; omega)) fun LL' h4 x4 b4 f4 d4 => ?_
      have fr' : ∀ b, LL'.foot b → h1 b = none := fun b f => by
        rcases f4 b f with q | q
        · exact fr b q
        · exact d2 b (d3 b q)
      have noLL : ∀ {t : Sl}, t ∈ ss → ∀ b, t.foot b → ¬ LL.foot b := fun hm b f g => hf1 hm f (fr b g)
      refine more _ _ hlt ⟨nxt j (by omega), (b2.trans b3 fun n f => .inl ⟨s, hms, f⟩).trans b4 fun n f => .inr (fr n f), fun c q => d2 c (d3 c (d4 c q)), _, x4, by simp [hll], fr', fun q t hq et => ?_, fun q l2 t el et => ?_⟩
      · have hm := List.mem_of_getElem? et
        exact ((rest q t (by omega) et).but b3 fun ad ha f => sep q j t s et es (by omega) _ ⟨ad, ha, rfl⟩ f).but b4 fun ad ha f => noLL hm _ ⟨ad, ha, rfl⟩ f
      · have hm := List.mem_of_getElem? et
        rcases Nat.lt_or_ge q ls.length with qq | qq
        · rw [List.getElem?_append_left qq] at el
          obtain ⟨p1, p2, p3⟩ := hls q l2 t el et
          have n2 : ∀ b, l2.foot b → ¬ s.foot b := fun b f g => by
            rcases (p3 b f).2 with z | z
            · exact sep q j t s et es (by omega) b z g
            · exact hf1 hms g z
          refine ⟨(p1.but b3 fun _ ad ha f => sep q j t s et es (by omega) _ ⟨ad, ha, rfl⟩ f).but b4 fun _ ad ha f => noLL hm _ ⟨ad, ha, rfl⟩ f, (p2.but b3 fun _ ad ha f => n2 _ ⟨ad, ha, rfl⟩ f).but b4 fun _ ad ha f => (p3 _ ⟨ad, ha, rfl⟩).1 f, fun b f => ⟨fun g => ?_, (p3 b f).2⟩⟩
          rcases f4 b g with z | z
          · exact (p3 b f).1 z
          · -- a fresh block holds no old row
            have hne : List.replicate (t.len + 40) (m q) ≠ [] := by simp
            obtain ⟨x', e', at'⟩ := p2.at_ hne
            obtain ⟨o, eo⟩ := at'.ex
            obtain ⟨ad, ha, hbk⟩ := f
            rw [ha] at e'; cases e'
            rw [hbk] at eo
            have := d3 b z
            rw [this] at eo; cases eo
        · rw [List.getElem?_append_right qq] at el
          have hq := lt_of_get el
          simp only [List.length_singleton] at hq
          have hq : q = j := by omega
          subst hq
          rw [hll, Nat.sub_self] at el
          have el : some l = some l2 := el
          cases el
          rw [es] at et; cases et
          refine ⟨arS.but b4 fun _ ad ha f => noLL hms _ ⟨ad, ha, rfl⟩ f, x3.arr.but b4 fun _ ad ha f => apL _ ⟨ad, ha, rfl⟩ f, fun b f => ⟨fun g => ?_, (lf b f).imp id (d2 b)⟩⟩
          rcases f4 b g with z | z
          · exact apL b f z
          · exact x3.has f z
  have c : ¬ (j : Int) < (a.len : Int) := c
  have hj : j = ss.length := by omega
  subst hj
  clear more rec
  have bF : But (feetS ss) h h2 := b1.trans b2 fun n f => .inl f
  have spF := spk bF
  -- read again
  refine w_for ss.length (fun j z h' => z = (j : Int) ∧ h2 = h') ?_ ⟨rfl, rfl⟩
  rintro rec j _ _ hj ⟨rfl, rfl⟩ more
  refine w_if' (fun c => ?_) fun c => y _ bF fun c q => d1 c (d2 c q)
  have c : (j : Int) < (a.len : Int) := c
  have hlt : j < ss.length := by omega
  obtain ⟨s, es⟩ : ∃ s, ss[j]? = some s := ⟨_, List.getElem?_eq_getElem hlt⟩
  obtain ⟨l, el⟩ : ∃ l, ls[j]? = some l := ⟨_, List.getElem?_eq_getElem (by omega)⟩
  obtain ⟨q1, q2, _⟩ := hls j l s el es
  have hbl' := hbl s (List.mem_of_getElem? es)
  have hl2 := q2.len
  rw [List.length_replicate] at hl2
  refine w_for (s.len + 40) (fun i z h' => z = (i : Int) ∧ h2 = h') ?_ ⟨rfl, rfl⟩
  rintro rec2 i _ _ hi ⟨rfl, rfl⟩ more2
  refine w_get csl_len xl.arr el rfl (v' := l) rfl (w_if' (fun c2 => ?_) fun c2 => ?_)
  · have c2 : (i : Int) < (l.len : Int) := c2
    have hil : i < s.len + 40 := by omega
    have g2 : (List.replicate (s.len + 40) (m j))[i]? = some (m j) := by rw [List.getElem?_replicate, if_pos hil]
    refine w_get csl_len xl.arr el rfl (v' := l) rfl (w_idx hs q2 g2 rfl fun ad _ had => hrd j ad h2 _ (by omega) had ?_)
    refine w_joinV false (fun J hJ => w_ifF (by simp) (w_get csl_len spF es rfl (v' := s) rfl (w_if' (fun c3 => ?_) fun _ => hJ))) ?_
    · have c3 : (i : Int) < (s.len : Int) := c3
      have g1 : (List.replicate s.len (m j))[i]? = some (m j) := by rw [List.getElem?_replicate, if_pos (by omega)]
      refine w_get csl_len spF es rfl (v' := s) rfl (w_idx hs q1 g1 rfl fun ad' _ had' => hrd j ad' h2 _ (by omega) had' ?_)
      rw [decide_eq_true rfl]
      exact hJ
    · refine w_ifF rfl (more2 _ _ hil ⟨nxt i (by omega), rfl⟩)
  · exact more _ _ hlt ⟨nxt j (by omega), rfl⟩
end
end Go.Proofs.Ytiajjcboddaenaa.K
