/- append, and what the old slice still reads. -/
import Derived.Test.YtlnlmideghepnaaL2
namespace Go.Proofs.Ytlnlmideghepnaa.K
open Go
theorem Buf.has {V : Type} {h : H} {cells : V → List Value} {sz : Nat} {e : TypeId} {s : Sl} {xs : List V} (x : Buf cells sz e h s xs) {c : Nat} (f : s.foot c) : h c ≠ none := by
  obtain ⟨a, ha, rfl⟩ := f
  rcases x.at_ with ⟨q, _⟩ | ⟨b, z, fz, q, hb, _⟩
  · rw [q] at ha; cases ha
  · rw [q] at ha; cases ha; rw [hb]; simp
/-- A field of an element is read. -/
theorem w_field {T T' : Type} {cells : T → List Value} {cells' : T' → List Value} {sz : Nat} (hs : ∀ x, (cells x).length = sz) {h : H} {s : Sl} {xs : List T} (x : Arr cells h s xs) {i : Nat} {v : T} (e : xs[i]? = some v) {j : Int} (hj : j = i) {v' : T'} {l1 l3 : List Value} {n : Nat} (hc : cells v = l1 ++ cells' v' ++ l3) (hn : l1.length = n) {k : T' → H → Prop}
    (y : k v' h) : mIdx s j sz (fun a => mLoad cells' (a.add n) k) h := by
  refine w_idx hs x e hj fun a _ ha => w_load (v := v') ?_ y
  rw [hc] at ha
  exact ha.sub hn
/-- append onto a slice that the program has made; the old slice reads what it read. -/
theorem w_appK {T : Type} {cells : T → List Value} {sz by_ : Nat} {e : TypeId} (hs : ∀ x, (cells x).length = sz) {h : H} {zero : Array Value} (hz : zero.size = sz) {m : Nat} {new : List Value} {s : Sl} {xs : List T} (x : Buf cells sz e h s xs) (ys : List T) (hnew : new = flat cells ys) (hm : m = ys.length)
    (room : (2 * (xs.length + ys.length) + 192) * by_ ≤ 2 ^ 48) {k : Sl → H → Prop}
    (y : ∀ s' h', Buf cells sz e h' s' (xs ++ ys) → Arr cells h' s xs → But s.foot h h' → (∀ b, s'.foot b → s.foot b ∨ h b = none) → (∀ b, h' b = none → h b = none) → k s' h') : mApp e sz by_ zero m new s k h := by
  subst hm; subst hnew
  refine ⟨fun hle => ?_, fun hgt => ?_⟩
  · -- in place
    have old := (w_app hs hz x ys rfl rfl (.inl room) (k := fun s' h' => s' = ⟨s.a, s.len + ys.length, s.cap⟩ → k s' h') fun s' h' bu b f d eq => ?_ : mApp e sz by_ zero ys.length (flat cells ys) s _ h).1 hle
    · revert old
      cases s.a with
      | none => exact fun ⟨q, r⟩ => ⟨q, r rfl⟩
      | some a =>
        intro old
        rcases old with ⟨q, r⟩ | ⟨q1, c, e', fz, q2, q3, q4, r⟩
        · exact .inl ⟨q, r rfl⟩
        · exact .inr ⟨q1, c, e', fz, q2, q3, q4, r rfl⟩
    · refine y s' h' bu ⟨x.len, x.cap, fun hne => ?_⟩ b f d
      obtain ⟨a, ha, q⟩ := bu.arr.at_ (by simp [hne])
      rw [flat_append] at q
      subst eq
      exact ⟨a, ha, q.head⟩
  · -- outgrown
    have old := (w_appX hs hz x ys rfl rfl (.inl room) (k := k) fun s' h' bu b f d => ?_ : mApp e sz by_ zero ys.length (flat cells ys) s k h).2 hgt
    · exact old
    · refine y s' h' bu (x.arr.but b fun _ a _ q => ?_) (b.mono fun _ q => q.1) (fun c hc => (f c hc).imp (fun q => q.1) id) d
      omega
end Go.Proofs.Ytlnlmideghepnaa.K
