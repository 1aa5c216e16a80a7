/- More plain laws of memory: counted loops, elements read and written, made slices, bytes and texts. -/
import Derived.Test.YtlnlmideghepnaaL1
import Derived.Laws.Strings
import Derived.Test.YtlnlmideghepnaaK10
namespace Go.Proofs.Ytlnlmideghepnaa.K
open Go

section
variable {h : H}
/-- A loop that counts to 'n'. -/
theorem w_for {σ : Type} {F : (σ → H → Prop) → σ → H → Prop} (n : Nat) (I : Nat → σ → H → Prop)
    (step : ∀ (rec : σ → H → Prop) (j : Nat) (s : σ) (h : H), j ≤ n → I j s h → (∀ s' h', j < n → I (j + 1) s' h' → rec s' h') → F rec s h) {s : σ} (i : I 0 s h) : mLoop F s h := by
  suffices ∀ (m : Nat) (j : Nat) (s : σ) (h : H), j ≤ n → n - j ≤ m → I j s h → ∃ N, loopF F N s h from this n 0 s h (Nat.zero_le _) (Nat.sub_le _ _) i
  intro m
  induction m with
  | zero =>
    intro j s h hj hm i
    exact ⟨1, step _ j s h hj i fun s' h' q => by omega⟩
  | succ m ih =>
    intro j s h hj hm i
    have key : ∀ (N : Nat) (F' : σ → H → Prop), True := fun _ _ => trivial
    -- the number of rounds is not known ahead: bound it by the measure
    have all : ∀ (M : Nat) (j : Nat) (s : σ) (h : H), j ≤ n → n - j < M → I j s h → loopF F M s h := by
      intro M
      induction M with
      | zero => intro j s h _ q; omega
      | succ M ihM => exact fun j s h hj q i => step _ j s h hj i fun s' h' lt i' => ihM (j + 1) s' h' lt (by omega) i'
    exact ⟨n - j + 1, all _ j s h hj (Nat.lt_succ_self _) i⟩
/-- An element is read. -/
theorem w_get {T T' : Type} {cells : T → List Value} {cells' : T' → List Value} {sz : Nat} (hs : ∀ x, (cells x).length = sz) {s : Sl} {xs : List T} (x : Arr cells h s xs) {i : Nat} {v : T} (e : xs[i]? = some v) {j : Int} (hj : j = i) {v' : T'} (hv : cells' v' = cells v) {k : T' → H → Prop}
    (y : k v' h) : mIdx s j sz (fun a => mLoad cells' a k) h := by
  refine w_idx hs x e hj fun a _ ha => w_load (v := v') ?_ y
  rw [hv]; exact ha
/-- An element is written. -/
theorem w_put {T : Type} {cells : T → List Value} {sz : Nat} {e : TypeId} (hs : ∀ x, (cells x).length = sz) {s : Sl} {xs : List T} (x : Buf cells sz e h s xs) {i : Nat} (hi : i < xs.length) {j : Int} (hj : j = i) (v' : T) {new : List Value} (hv : cells v' = new) {k : H → Prop}
    (y : ∀ h', Buf cells sz e h' s (xs.set i v') → But s.foot h h' → (∀ b, h' b = none → h b = none) → k h') : mIdx s j sz (fun a => mStore a new k) h := by
  refine w_idx hs x.arr (List.getElem?_eq_getElem hi) hj fun a ha _ => ?_
  refine w_set hs x (v' := v') (List.getElem?_eq_getElem hi) ha (c1 := []) (c2 := cells xs[i]) (c3 := []) (new := new) (by simp) (by simp [hv]) (by rw [← hv, hs, hs]) (add_zero a).symm y
theorem flat_rep {T : Type} {cells : T → List Value} {sz : Nat} (hs : ∀ x, (cells x).length = sz) (z : T) : ∀ (n i : Nat), (flat cells (List.replicate n z))[i]? = if i < n * sz then (cells z)[i % sz]? else none := by
  intro n
  induction n with
  | zero => intro i; simp [flat]
  | succ n ih =>
    intro i
    rw [List.replicate_succ, flat_cons, List.getElem?_append, hs]
    split
    · rename_i hi
      have : sz ≤ (n + 1) * sz := Nat.le_mul_of_pos_left _ (Nat.succ_pos n)
      rw [if_pos (by omega), Nat.mod_eq_of_lt hi]
    · rename_i hi
      rw [ih, Nat.succ_mul]
      have e : (i - sz) % sz = i % sz := by
        conv => rhs; rw [show i = i - sz + sz by omega, Nat.add_mod_right]
      rw [e]
      by_cases c : i < n * sz + sz
      · rw [if_pos c, if_pos (by omega)]
      · rw [if_neg c, if_neg (by omega)]
theorem zero_flat {T : Type} {cells : T → List Value} {sz : Nat} (hs : ∀ x, (cells x).length = sz) (z : T) {zero : Array Value} (hz : zero = (cells z).toArray) (n : Nat) : (Builtin.zeroCells zero n).toList = flat cells (List.replicate n z) := by
  subst hz
  apply List.ext_getElem?
  intro i
  rw [flat_rep hs]
  unfold Builtin.zeroCells
  rw [Array.getElem?_toList, Array.getElem?_map, Array.getElem?_range]
  have hsz : (cells z).toArray.size = sz := by rw [List.size_toArray, hs]
  rw [hsz]
  split
  · rename_i hi
    rw [Option.map_some]
    have hpos : 0 < sz := by
      rcases Nat.eq_zero_or_pos sz with q | q
      · rw [q, Nat.mul_zero] at hi; omega
      · exact q
    have hlt : i % sz < (cells z).length := by rw [hs]; exact Nat.mod_lt _ hpos
    rw [List.getElem?_eq_getElem hlt]
    simp [hlt]
  · rfl
/-- make([]T, n). -/
theorem w_make {T : Type} {cells : T → List Value} {sz by_ : Nat} {e : TypeId} (hs : ∀ x, (cells x).length = sz) (z : T) {zero : Array Value} (hz : zero = (cells z).toArray) {n : Nat} {i j : Int} (hi : i = n) (hj : j = n) (hn : n ≤ 9223372036854775807) (hb : by_ * n ≤ 2 ^ 48) {k : Sl → H → Prop}
    (y : ∀ s h', Buf cells sz e h' s (List.replicate n z) → Keeps h h' → (∀ b, s.foot b → h b = none) → s.cap = n → k s h') : mMake e by_ zero i j k h := by
  subst hi; subst hj
  refine ⟨by omega, by omega, by omega, by exact_mod_cast hb, fun b hb => ?_⟩
  rw [Int.toNat_natCast]
  refine y _ _ ⟨by simp, Nat.le_refl _, .inr ⟨b, [], (0, 0), rfl, ?_, ?_, thawed0 _⟩⟩ (.new hb) (fun c ⟨a, ha, hc⟩ => by cases ha; subst hc; exact hb) rfl
  · rw [upd_same, List.append_nil, ← zero_flat hs z hz]
  · rw [List.append_nil, flat_len hs, List.length_replicate]

/-- Ways that meet with one known value, memory as it was. -/
theorem w_joinV {σ : Type} {rest : σ → H → Prop} {body : (σ → H → Prop) → H → Prop} (v : σ) (hb : ∀ j : σ → H → Prop, j v h → body j h) (hr : rest v h) : mJoin rest body h := hb rest hr
theorem w_both {A B : H → Prop} (x : A h) (y : B h) : mBoth A B h := ⟨x, y⟩

/-! Bytes. -/
def cU8 (b : UInt8) : List Value := [.int .u8 b.toNat]
theorem u8_len : ∀ b, (cU8 b).length = 1 := fun _ => rfl
theorem u8_plain : ∀ b, (cU8 b).all plainVal = true := fun _ => rfl
theorem flat_u8 (l : List UInt8) : flat cU8 l = l.map fun b => Value.int .u8 b.toNat := by
  induction l with
  | nil => rfl
  | cons b r ih => rw [flat_cons, ih]; rfl
/-- string(bytes). -/
theorem w_text {s : Sl} {bs : List UInt8} (x : Arr cU8 h s bs) {k : ByteArray → H → Prop} (y : k ⟨bs.toArray⟩ h) : mText s k h := by
  refine ⟨bs, ?_, fun _ => x.len.symm, y⟩
  rw [← flat_u8]; exact x.row
/-- []byte(text). -/
theorem w_bytes {e : TypeId} {t : ByteArray} {k : Sl → H → Prop} (y : ∀ s h', Buf cU8 1 e h' s t.data.toList → Keeps h h' → (∀ b, s.foot b → h b = none) → k s h') : mBytes e t k h := by
  intro b cap hb hcap
  have hsz : t.data.toList.length = t.size := by simp
  have e1 : ((t.data.map fun b => Value.int .u8 b.toNat) ++ Array.replicate (cap - t.size) (Value.int .u8 0)) = (flat cU8 t.data.toList ++ List.replicate (cap - t.size) (Value.int .u8 0)).toArray := by
    rw [flat_u8]
    apply Array.toList_inj.1
    simp
  rw [e1]
  refine y _ _ ⟨hsz.symm, hcap, .inr ⟨b, List.replicate (cap - t.size) (.int .u8 0), _, rfl, upd_same _ _ _, ?_, fun i hi => ?_⟩⟩ (.new hb) (fun c ⟨a, ha, hc⟩ => by cases ha; subst hc; exact hb)
  · rw [List.length_append, flat_len u8_len, List.length_replicate, hsz]
    show t.size * 1 + (cap - t.size) = cap * 1
    omega
  · have hi : i < cap * 1 := hi
    simp only [frozenIn, Bool.and_eq_false_iff, decide_eq_false_iff_not]
    exact .inl (by omega)
theorem bytes_eq {a b : List UInt8} : ((⟨a.toArray⟩ : ByteArray).toList == (⟨b.toArray⟩ : ByteArray).toList) = decide (a = b) := by
  rw [ByteArray.toList_mk, ByteArray.toList_mk, Bool.eq_iff_iff]
  simp
end
end Go.Proofs.Ytlnlmideghepnaa.K
