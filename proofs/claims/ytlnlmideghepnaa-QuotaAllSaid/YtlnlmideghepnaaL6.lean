/- Who may write a block: tags, steps that write blocks of some tags alone. -/
import Derived.Test.YtlnlmideghepnaaL5
import Derived.Test.YtlnlmideghepnaaL4
namespace Go.Proofs.Ytlnlmideghepnaa.K
open Go
section
variable {τ : Type}
/-- Memory and tags behind a step that writes blocks of the tags 'T' alone. -/
structure Mv (T : τ → Prop) (o o' : Nat → Option τ) (h h' : H) : Prop where
  mem : ∀ c x, h c = some x → (∀ t, o c = some t → ¬ T t) → h' c = some x
  own : ∀ c, h c ≠ none → (∀ t, o c = some t → ¬ T t) → o' c = o c
  dom : ∀ c, h' c = none → h c = none
variable {T T' : τ → Prop} {o o' o'' : Nat → Option τ} {h h' h'' : H}
theorem Mv.refl (T : τ → Prop) (o : Nat → Option τ) (h : H) : Mv T o o h h := ⟨fun _ _ e _ => e, fun _ _ _ => rfl, fun _ e => e⟩
theorem Mv.mono (x : Mv T o o' h h') (e : ∀ t, T t → T' t) : Mv T' o o' h h' := ⟨fun c y hc n => x.mem c y hc fun t ht hT => n t ht (e t hT), fun c hc n => x.own c hc fun t ht hT => n t ht (e t hT), x.dom⟩
theorem Mv.trans (x : Mv T o o' h h') (y : Mv T' o' o'' h' h'') : Mv (fun t => T t ∨ T' t) o o'' h h'' := by
  have live : ∀ c, h c ≠ none → h' c ≠ none := fun c e q => e (x.dom c q)
  refine ⟨fun c z hc n => ?_, fun c e n => ?_, fun c e => x.dom c (y.dom c e)⟩
  · have q := x.own c (by rw [hc]; simp) fun t ht hT => n t ht (.inl hT)
    exact y.mem c z (x.mem c z hc fun t ht hT => n t ht (.inl hT)) fun t ht hT => n t (q ▸ ht) (.inr hT)
  · have q := x.own c e fun t ht hT => n t ht (.inl hT)
    exact (y.own c (live c e) fun t ht hT => n t (q ▸ ht) (.inr hT)).trans q
theorem Mv.all (x : Mv T o o' h h') : Mv (fun _ => True) o o' h h' := x.mono fun _ _ => trivial
theorem Mv.seq (x : Mv (fun _ => True) o o' h h') (y : Mv T' o' o'' h' h'') : Mv (fun _ => True) o o'' h h'' := (x.trans y).all
theorem Mv.keeps (k : Keeps h h') : Mv T o o h h' := ⟨fun c x e _ => k c x e, fun _ _ _ => rfl, fun _ e => k.fresh e⟩
/-- Blocks of one set, which bear tags of 'T', are written. -/
theorem Mv.of {F : Nat → Prop} (k : But F h h') (d : ∀ c, h' c = none → h c = none) (hb : ∀ c, F c → h c ≠ none → ∃ t, o c = some t ∧ T t) : Mv T o o h h' :=
  ⟨fun c x e n => k c x e fun q => by
    obtain ⟨t, ht, hT⟩ := hb c q (by rw [e]; simp)
    exact n t ht hT, fun _ _ _ => rfl, d⟩
theorem Mv.but (x : Mv T o o' h h') : But (fun c => ∃ t, o c = some t ∧ T t) h h' := fun c y e n => x.mem c y e fun t ht hT => n ⟨t, ht, hT⟩
/-- A slice's block bears a tag, or none. -/
def tagd (o : Nat → Option τ) (s : Sl) (t : Option τ) : Nat → Option τ := fun c => match s.a with
  | none => o c
  | some a => if a.block = c then t else o c
theorem tagd_in {s : Sl} {t : Option τ} {c : Nat} (f : s.foot c) : tagd o s t c = t := by
  obtain ⟨a, ha, e⟩ := f
  unfold tagd; rw [ha]; simp only; rw [if_pos e]
theorem tagd_out {s : Sl} {t : Option τ} {c : Nat} (f : ¬ s.foot c) : tagd o s t c = o c := by
  unfold tagd
  split
  · rfl
  · rename_i a ha
    rw [if_neg fun e => f ⟨a, ha, e⟩]
theorem Mv.tag (x : Mv T o o' h h') {s : Sl} {t : Option τ} (f : ∀ c, s.foot c → h c = none ∨ o c = t) : Mv T o (tagd o' s t) h h' := by
  refine ⟨x.mem, fun c e n => ?_, x.dom⟩
  by_cases q : s.foot c
  · rw [tagd_in q]; exact ((f c q).resolve_left e).symm
  · rw [tagd_out q]; exact x.own c e n
/-- One block bears a tag. -/
def tag1 (o : Nat → Option τ) (b : Nat) (t : Option τ) : Nat → Option τ := fun c => if c = b then t else o c
theorem tag1_in {b : Nat} {t : Option τ} : tag1 o b t b = t := if_pos rfl
theorem tag1_out {b c : Nat} {t : Option τ} (e : c ≠ b) : tag1 o b t c = o c := if_neg e
theorem Mv.tag1 (x : Mv T o o' h h') {b : Nat} {t : Option τ} (f : h b = none) : Mv T o (K.tag1 o' b t) h h' := ⟨x.mem, fun c e n => by
  have hne : c ≠ b := fun q => e (by rw [q]; exact f)
  rw [tag1_out hne]; exact x.own c e n, x.dom⟩
theorem Mv.here (m : Mv T o o' h h') {c : Nat} {t : τ} (ob : o c = some t) (nt : ¬ T t) (e : h c ≠ none) : o' c = some t :=
  (m.own c e fun t' z hT => by rw [ob] at z; cases z; exact nt hT).trans ob
theorem Mv.cell (m : Mv T o o' h h') {c : Nat} {t : τ} {x : Obj} (ob : o c = some t) (nt : ¬ T t) (e : h c = some x) : h' c = some x :=
  m.mem c x e fun t' z hT => by rw [ob] at z; cases z; exact nt hT
theorem Mv.map {K V : Type} {kc : K → Value} {vc : V → Value} {b : Nat} {l : List (K × V)} {t : τ} (m : Mv T o o' h h') (nt : ¬ T t) (x : MapOf kc vc h b l) (ob : o b = some t) : MapOf kc vc h' b l :=
  x.but m.but fun ⟨t', e, hT⟩ => by rw [ob] at e; cases e; exact nt hT
theorem Mv.buf {V : Type} {cells : V → List Value} {sz : Nat} {e : TypeId} {s : Sl} {xs : List V} (m : Mv T o o' h h') (x : Buf cells sz e h s xs) (f : ∀ c, s.foot c → ∀ t, o c = some t → ¬ T t) : Buf cells sz e h' s xs :=
  x.but m.but fun a ha ⟨t, e, hT⟩ => f _ ⟨a, ha, rfl⟩ t e hT
/-- What bears no tag stays, from the beginning on. -/
theorem Mv.out {h0 h1 : H} (k : Keeps h0 h1) (f : ∀ c t, o c = some t → h0 c = none) (mv : Mv (fun _ => True) o o' h1 h') : Keeps h0 h' := fun c z e =>
  mv.mem c z (k c z e) fun t ht => by rw [f c t ht] at e; cases e
theorem Mv.none (m : Mv T o o' h h') {c : Nat} (ob : o c = .none) (e : h c ≠ .none) : o' c = .none := (m.own c e fun t z => by rw [ob] at z; cases z).trans ob
theorem Mv.kept (m : Mv T o o' h h') {c : Nat} {x : Obj} (ob : o c = .none) (e : h c = some x) : h' c = some x := m.mem c x e fun t z => by rw [ob] at z; cases z
end
end Go.Proofs.Ytlnlmideghepnaa.K
