/- slices.Clone: a fresh copy. -/
import Derived.Test.YtiajjcboddaenaaL8
namespace Go.Proofs.Ytiajjcboddaenaa.K
open Go
theorem w_clone {T : Type} {cells : T → List Value} {sz by_ : Nat} {e : TypeId} (hs : ∀ x, (cells x).length = sz) (hp : ∀ x, (cells x).all plainVal = true) {zero : Array Value} (hz : zero.size = sz) {h : H} {s : Sl} {xs : List T} (x : Arr cells h s xs) (room : xs.length * by_ ≤ 2 ^ 48) {k : Sl → H → Prop}
    (y : ∀ s' h', Buf cells sz e h' s' xs → Keeps h h' → (∀ b, s'.foot b → h b = none) → k s' h') :
    mIf (s.a.isNone) (k Sl.nil) (mNew e #[] fun ad => mAppend e sz by_ zero (⟨some ad, 0, 0⟩ : Sl) s fun s2 => k s2) h := by
  refine w_if (fun c => ?_) fun c => w_new fun b hb => ?_
  · have hx : xs = [] := by
      rcases List.eq_nil_or_concat xs with q | ⟨r, a, q⟩
      · exact q
      · obtain ⟨a', ha, _⟩ := x.at_ (by rw [q]; simp)
        rw [ha] at c; cases c
    subst hx
    exact y _ _ Buf.nil (.refl _) fun b ⟨a, ha, _⟩ => by cases ha
  · have bu : Buf cells sz e (upd h b (.cells #[] e (0, 0))) ⟨some ⟨b, 0, none⟩, 0, 0⟩ ([] : List T) := ⟨rfl, Nat.le_refl _, .inr ⟨b, [], (0, 0), rfl, upd_same _ _ _, by simp [flat], thawed0 _⟩⟩
    refine w_append hs hp hz bu (x.keep (.new hb)) (.inr ⟨rfl, room⟩) fun s' h' bu' b' f' n' => ?_
    rw [List.nil_append] at bu'
    have foot : ∀ c, (⟨some ⟨b, 0, none⟩, 0, 0⟩ : Sl).foot c → h c = none := fun c ⟨a, ha, hc⟩ => by
      cases ha; subst hc; exact hb
    refine y s' h' bu' (Keeps.but (.new hb) b' foot) fun c fc => ?_
    rcases f' c fc with q | q
    · exact foot c q
    · exact (upd_none.1 q).2
end Go.Proofs.Ytiajjcboddaenaa.K
