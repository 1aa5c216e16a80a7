/- Rows of bytes written over with marks of their own and lengthened. -/
import Derived.Test.YtnmaknkbdfpbkaaWd2
import Derived.Test.YtnmaknkbdfpbkaaFlaw01
namespace Go.Proofs.Ytnmaknkbdfpbkaa.K
open Go

theorem sl_len : ∀ s : Sl, (cSl s).length = 1 := fun _ => rfl
theorem sl_plain : ∀ s : Sl, (cSl s).all plainVal = true := fun _ => rfl
def markOf (k : Nat) : UInt8 := UInt8.ofNat (k + 1)
theorem mark_val (k : Nat) (h : k + 1 < 2 ^ 62) : (IntKind.wrap .u8 (iAdd .i64 (k : Int) 1)) = ((markOf k).toNat : Int) := by
  rw [iAdd_eq (by omega) (by omega)]
  show IntKind.wrap .u8 ((k : Int) + 1) = _
  rw [u_wrap8' (n := k + 1) (by omega), markOf, UInt8.toNat_ofNat']
theorem take_set {T : Type} {ys : List T} {i : Nat} {m : T} (hi : i < ys.length) (e : ys.take i = List.replicate i m) : (ys.set i m).take (i + 1) = List.replicate (i + 1) m := by
  rw [List.take_add_one, List.getElem?_set_self hi, List.replicate_succ', ← e, Option.toList_some]
  congr 1
  rw [List.take_set_of_le (Nat.le_refl i)]
/-- The blocks of several slices. -/
def feet (ss : List Sl) (b : Nat) : Prop := ∃ s ∈ ss, s.foot b
structure ApartF (ss : List Sl) : Prop where
  apart : ∀ (i j : Nat) (s t : Sl), ss[i]? = some s → ss[j]? = some t → i ≠ j → ∀ b, s.foot b → ¬ t.foot b
section
variable {h : H}
theorem buf_some {T : Type} {cells : T → List Value} {sz : Nat} {e : TypeId} {s : Sl} {xs : List T} (x : Buf cells sz e h s xs) {b : Nat} (f : s.foot b) : ∃ o, h b = some o := by
  obtain ⟨a, ha, rfl⟩ := f
  rcases x.at_ with ⟨q, _⟩ | ⟨b, z, fz, q, hb, _⟩
  · rw [ha] at q; cases q
  · rw [ha] at q; cases q; exact ⟨_, hb⟩
/-- What lies in the rows. -/
def Rows8 (h : H) (ss : List Sl) (f : Nat → List UInt8 → Prop) : Prop := ∀ (i : Nat) (s : Sl), ss[i]? = some s → ∃ ys, Buf cU8 1 N_u8 h s ys ∧ f i ys
set_option linter.unusedVariables false in
theorem t_marked01 {K : Bool → H → Prop} {a : Sl} {ss : List Sl} (sp : Arr cSl h a ss) (hn : ss.length ≤ 2 ^ 40) (hb : ∀ s ∈ ss, s.len ≤ 2 ^ 40) (sep : ApartF ss) (hsp : ∀ b, feet ss b → ∀ x, a.a = some x → x.block ≠ b) (r0 : Rows8 h ss fun _ _ => True)
    (hc : ∀ s ∈ ss, s.cap = s.len) (k : ∀ h', But (feet ss) h h' → K true h') : m_law01_marked a K h := by
  have hal := sp.len
  have nxt : ∀ j : Nat, j < 2 ^ 62 → iAdd .i64 (j : Int) 1 = ((j + 1 : Nat) : Int) := fun j q => by
    rw [iAdd_eq (by omega) (by omega)]; omega
  have spk : ∀ {h'}, But (feet ss) h h' → Arr cSl h' a ss := fun b => sp.but b fun _ x e f => hsp _ f _ e rfl
  unfold m_law01_marked
  refine w_for ss.length (fun j s h' => s = (j : Int) ∧ But (feet ss) h h' ∧ Rows8 h' ss fun i ys => i < j → ys = List.replicate ys.length (markOf i)) ?_ ⟨rfl, .refl _ _, fun i s e => by
    obtain ⟨ys, x, _⟩ := r0 i s e
    exact ⟨ys, x, fun q => by omega⟩⟩
  rintro rec j _ h1 hj ⟨rfl, b1, r1⟩ more
  refine w_if' (fun c => ?_) fun c => ?_
  · have c : (j : Int) < (a.len : Int) := c
    have hlt : j < ss.length := by omega
    obtain ⟨s, es⟩ : ∃ s, ss[j]? = some s := ⟨_, List.getElem?_eq_getElem hlt⟩
    have hms : s ∈ ss := List.mem_of_getElem? es
    obtain ⟨ys0, x0, _⟩ := r1 j s es
    have hys := x0.len
    have hbs := hb s hms
    have bf : ∀ {h' h''}, But (feet ss) h h' → But s.foot h' h'' → But (feet ss) h h'' := fun p q => p.trans q fun n f => .inl ⟨s, hms, f⟩
    refine w_for s.len (fun i st h' => st = (i : Int) ∧ But s.foot h1 h' ∧ ∃ ys, Buf cU8 1 N_u8 h' s ys ∧ ys.take i = List.replicate i (markOf j)) ?_ ⟨rfl, .refl _ _, ys0, x0, rfl⟩
    rintro rec2 i _ h2 hi ⟨rfl, b2, ys, x, ex⟩ more2
    have hl := x.len
    refine w_get sl_len (spk (bf b1 b2)) es rfl (v' := s) rfl ?_
    refine w_if' (fun c2 => ?_) fun c2 => ?_
    · have c2 : (i : Int) < (s.len : Int) := c2
      refine w_get sl_len (spk (bf b1 b2)) es rfl (v' := s) rfl ?_
      refine w_put u8_len x (i := i) (by omega) rfl (markOf j) ?_ fun h3 x3 b3 _ => ?_
      · rw [mark_val j (by omega)]; rfl
      rw [nxt i (by omega)]
      exact more2 _ _ (by omega) ⟨rfl, b2.trans b3 fun n f => .inl f, _, x3, take_set (by omega) ex⟩
    · have c2 : ¬ (i : Int) < (s.len : Int) := c2
      rw [nxt j (by omega)]
      refine more _ _ hlt ⟨rfl, bf b1 b2, fun q t eq => ?_⟩
      by_cases hq : q = j
      · subst hq
        rw [es] at eq; cases eq
        refine ⟨ys, x, fun _ => ?_⟩
        have : ys.take i = ys := List.take_of_length_le (by omega)
        rw [this] at ex
        rw [ex]; simp
      · obtain ⟨zs, xz, ez⟩ := r1 q t eq
        refine ⟨zs, xz.but b2 fun x e f => sep.apart q j t s eq es hq x.block ⟨x, e, rfl⟩ f, fun l => ez (by omega)⟩
  have c : ¬ (j : Int) < (a.len : Int) := c
  have hj : j = ss.length := by omega
  subst hj
  clear more rec
  have r1 : Rows8 h1 ss fun i ys => ys = List.replicate ys.length (markOf i) := fun i s e => by
    obtain ⟨ys, x, q⟩ := r1 i s e
    exact ⟨ys, x, q (lt_of_get e)⟩
  refine w_for ss.length (fun j st h' => st.2 = (j : Int) ∧ Keeps h1 h' ∧ ∃ ls : List Sl, Buf cSl 1 N_Sl_u8 h' st.1 ls ∧ ls.length = j ∧ (∀ b, st.1.foot b → h1 b = none) ∧
    ∀ (i : Nat) (l s : Sl), ls[i]? = some l → ss[i]? = some s → (∀ b, l.foot b → ¬ st.1.foot b) ∧ Arr cU8 h' l (List.replicate (s.len + 40) (markOf i))) ?_ ⟨rfl, .refl _, [], Buf.nil, rfl, fun b ⟨x, e, _⟩ => (by cases e), fun i l s e => by simp at e⟩
  rintro rec j ⟨L, _⟩ h2 hj ⟨rfl, k2, ls, xl, hll, fr, hls⟩ more
  refine w_if' (fun c => ?_) fun c => ?_
  · have c : (j : Int) < (a.len : Int) := c
    have hlt : j < ss.length := by omega
    obtain ⟨s, es⟩ : ∃ s, ss[j]? = some s := ⟨_, List.getElem?_eq_getElem hlt⟩
    have hms : s ∈ ss := List.mem_of_getElem? es
    obtain ⟨ys, x, ey⟩ := r1 j s es
    have hys := x.len
    have hbs := hb s hms
    have hcs := hc s hms
    refine w_get sl_len ((spk b1).keep k2) es rfl (v' := s) rfl ?_
    refine w_for 40 (fun i st h' => st.2 = (i : Int) ∧ Keeps h2 h' ∧ Buf cU8 1 N_u8 h' st.1 (List.replicate (s.len + i) (markOf j)) ∧ (i = 0 → st.1 = s) ∧ (0 < i → ∀ b, st.1.foot b → h2 b = none)) ?_ ⟨rfl, .refl _, ?_, fun _ => rfl, fun q => by omega⟩
    · rintro rec2 i ⟨l, _⟩ h3 hi ⟨rfl, k3, x3, e0, f0⟩ more2
      have e0 : i = 0 → l = s := e0
      refine w_if' (fun c2 => ?_) fun c2 => ?_
      · have c2 : (i : Int) < 40 := c2
        refine w_appX u8_len rfl x3 [markOf j] ?_ rfl (.inl (by rw [List.length_replicate]; simp only [List.length_singleton]; omega)) fun l' h4 x4 b4 f4 n4 => ?_
        · rw [mark_val j (by omega)]; rfl
        rw [nxt i (by omega)]
        have nofoot : i = 0 → ¬ (l.len + [markOf j].length ≤ l.cap) := fun z => by
          rw [e0 z, hcs]; simp
        refine more2 _ _ (by omega) ⟨rfl, ?_, ?_, fun z => by omega, fun _ b fb => ?_⟩
        · intro b o e
          refine b4 _ _ (k3 _ _ e) fun ⟨q, q2⟩ => ?_
          rcases Nat.eq_zero_or_pos i with z | z
          · exact nofoot z q2
          · have := f0 z b q
            rw [this] at e; cases e
        · have : List.replicate (s.len + i) (markOf j) ++ [markOf j] = List.replicate (s.len + (i + 1)) (markOf j) := by
            rw [← Nat.add_assoc, List.replicate_succ']
          rw [this] at x4; exact x4
        · rcases f4 b fb with ⟨q, q2⟩ | q
          · rcases Nat.eq_zero_or_pos i with z | z
            · exact (nofoot z q2).elim
            · exact f0 z b q
          · exact k3.fresh q
      · have c2 : ¬ (i : Int) < 40 := c2
        have hi : i = 40 := by omega
        subst hi
        have f0 := f0 (by decide)
        refine w_app sl_len rfl (xl.keep k3) [l] rfl rfl (.inl (by rw [hll]; simp only [List.length_singleton]; omega)) fun L' h4 x4 b4 f4 n4 => ?_
        rw [nxt j (by omega)]
        have kb : ∀ b o, h2 b = some o → ¬ L.foot b → h4 b = some o := fun b o e q => b4 _ _ (k3 _ _ e) q
        have L'f : ∀ b, L'.foot b → h1 b = none := fun b fb => by
          rcases f4 b fb with q | q
          · exact fr b q
          · exact (k2.trans k3).fresh q
        refine more _ _ hlt ⟨rfl, fun b o e => kb _ _ (k2 _ _ e) fun q => (by have := fr b q; rw [this] at e; cases e), _, x4, by simp [hll], L'f, fun q l2 s2 el es2 => ?_⟩
        rcases Nat.lt_or_ge q ls.length with qq | qq
        · rw [List.getElem?_append_left qq] at el
          obtain ⟨d1, d2⟩ := hls q l2 s2 el es2
          refine ⟨fun b fb fL => ?_, (d2.keep k3).but b4 fun _ x e => d1 _ ⟨x, e, rfl⟩⟩
          rcases f4 b fL with z | z
          · exact d1 b fb z
          · obtain ⟨x, e, rfl⟩ := fb
            have hne : List.replicate (s2.len + 40) (markOf q) ≠ [] := by simp
            obtain ⟨x', e', at'⟩ := d2.at_ hne
            rw [e] at e'; cases e'
            obtain ⟨o, eo⟩ := at'.ex
            have := k3 _ _ eo
            rw [z] at this; cases this
        · rw [List.getElem?_append_right qq] at el
          have hq := lt_of_get el
          simp only [List.length_singleton] at hq
          have hq : q = j := by omega
          subst hq
          rw [hll, Nat.sub_self] at el
          cases el
          rw [es] at es2; cases es2
          have none_ : ∀ b, l.foot b → ¬ L.foot b := fun b fb fL => by
            obtain ⟨o, e⟩ := buf_some xl fL
            rw [f0 b fb] at e; cases e
          refine ⟨fun b fb fL => ?_, x3.arr.but b4 fun _ x e f => none_ _ ⟨x, e, rfl⟩ f⟩
          rcases f4 b fL with z | z
          · exact none_ b fb z
          · obtain ⟨o, e⟩ := buf_some x3 fb
            rw [z] at e; cases e
    · rw [Nat.add_zero]
      have : List.replicate s.len (markOf j) = ys := by rw [hys]; exact ey.symm
      rw [this]
      exact x.keep k2
  · have c : ¬ (j : Int) < (a.len : Int) := c
    have hj : j = ss.length := by omega
    subst hj
    clear more rec
    have get : ∀ (q : Nat) (s : Sl), ss[q]? = some s → ∃ l, ls[q]? = some l ∧ Arr cU8 h2 l (List.replicate (s.len + 40) (markOf q)) ∧ Arr cU8 h2 s (List.replicate s.len (markOf q)) := fun q s e => by
      have := lt_of_get e
      have el := List.getElem?_eq_getElem (l := ls) (i := q) (by omega)
      refine ⟨_, el, (hls q _ s el e).2, ?_⟩
      obtain ⟨ys, x, ey⟩ := r1 q s e
      have hl := x.len
      have := (x.keep k2).arr
      rw [ey, ← hl] at this; exact this
    refine w_for ss.length (fun j s h' => s = (j : Int) ∧ h' = h2) ?_ ⟨rfl, rfl⟩
    rintro rec j _ h' hj ⟨rfl, rfl⟩ more
    refine w_if' (fun c => ?_) fun c => ?_
    · have c : (j : Int) < (a.len : Int) := c
      have hlt : j < ss.length := by omega
      obtain ⟨s, es⟩ : ∃ s, ss[j]? = some s := ⟨_, List.getElem?_eq_getElem hlt⟩
      obtain ⟨l, el, al, as_⟩ := get j s es
      have hll' := al.len
      rw [List.length_replicate] at hll'
      have hbs := hb s (List.mem_of_getElem? es)
      refine w_for l.len (fun i s h'' => s = (i : Int) ∧ h'' = h') ?_ ⟨rfl, rfl⟩
      rintro rec2 i _ h'' hi ⟨rfl, rfl⟩ more2
      refine w_get sl_len xl.arr el rfl (v' := l) rfl (w_if' (fun c2 => ?_) fun c2 => ?_)
      · have c2 : (i : Int) < (l.len : Int) := c2
        refine w_get sl_len xl.arr el rfl (v' := l) rfl (w_get u8_len al (i := i) (v := markOf j) (by rw [List.getElem?_replicate, if_pos (by omega)]) rfl (v' := ((markOf j).toNat : Int)) rfl ?_)
        rw [mark_val j (by omega)]
        refine w_joinV false (fun jj hjj => w_ifF (by simp) (w_get sl_len ((spk b1).keep k2) es rfl (v' := s) rfl (w_if' (fun c3 => ?_) fun _ => hjj))) (w_ifF rfl ?_)
        · have c3 : (i : Int) < (s.len : Int) := c3
          refine w_get sl_len ((spk b1).keep k2) es rfl (v' := s) rfl (w_get u8_len as_ (i := i) (v := markOf j) (by rw [List.getElem?_replicate, if_pos (by omega)]) rfl (v' := ((markOf j).toNat : Int)) rfl ?_)
          rw [decide_eq_true rfl]; exact hjj
        · rw [nxt i (by omega)]; exact more2 _ _ (by omega) ⟨rfl, rfl⟩
      · rw [nxt j (by omega)]; exact more _ _ hlt ⟨rfl, rfl⟩
    · exact k _ (b1.trans (But.of (F := feet ss) k2) fun n f => .inl f)
end
end Go.Proofs.Ytnmaknkbdfpbkaa.K
