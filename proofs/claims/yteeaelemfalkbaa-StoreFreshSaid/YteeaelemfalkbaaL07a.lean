/- law07: its head, what compares. -/
import Derived.Test.YteeaelemfalkbaaSt9
import Derived.Test.YteeaelemfalkbaaFlaw07
import Derived.Test.YteeaelemfalkbaaFlaw07x2
namespace Go.Proofs.Yteeaelemfalkbaa.K
open Go
section
variable {h : H}
theorem t_same07 {a b : Sl} {xs ys : List UInt8} (xa : Arr cU8 h a xs) (xb : Arr cU8 h b ys) {K : Bool → H → Prop} (y : K (decide (xs = ys)) h) : m_law07_same a b K h := by
  unfold m_law07_same
  refine w_text xa (w_text xb ?_)
  rw [bytes_eq]; exact y
theorem t_ints07 {a c : Sl} {us vs : List Int} (xa : Arr (cInt .i64) h a us) (xb : Arr (cInt .i64) h c vs) (hn : us.length ≤ 2 ^ 60) {K : Bool → H → Prop} (y : K (decide (us = vs)) h) : m_law07_sameInts a c K h := by
  have la := xa.len
  have lb := xb.len
  unfold m_law07_sameInts
  refine w_if (fun c => ?_) fun c => ?_
  · rw [decide_eq_false (fun e => ?_)] at y
    · exact y
    · subst e
      rw [la, lb, decide_eq_true rfl] at c; cases c
  have hl : us.length = vs.length := by
    rw [Bool.not_eq_false', decide_eq_true_eq] at c; omega
  refine w_for us.length (fun j s h' => s = (j : Int) ∧ h = h' ∧ us.take j = vs.take j) ?_ ⟨rfl, rfl, rfl⟩
  rintro rec j _ _ hj ⟨rfl, rfl, ht⟩ more
  refine w_if' (fun c => ?_) fun c => ?_
  · have c : (j : Int) < (a.len : Int) := c
    have e1 : us[j]? = some us[j] := List.getElem?_eq_getElem (by omega)
    have e2 : vs[j]? = some vs[j] := List.getElem?_eq_getElem (by omega)
    refine w_idx ci_len xa e1 rfl fun a1 _ g1 => w_idx ci_len xb e2 rfl fun a2 _ g2 => w_load g1 (w_load g2 (w_if (fun d => ?_) fun d => ?_))
    · have d : (!decide (us[j] = vs[j])) = true := d
      rw [Bool.not_eq_true', decide_eq_false_iff_not] at d
      rw [decide_eq_false (fun e => ?_)] at y
      · exact y
      · subst e; exact d rfl
    · have d : (!decide (us[j] = vs[j])) = false := d
      rw [Bool.not_eq_false', decide_eq_true_eq] at d
      rw [ia1 j (by omega)]
      refine more _ _ (by omega) ⟨rfl, rfl, ?_⟩
      rw [List.take_add_one, List.take_add_one, e1, e2, ht, d]
  · have c : ¬ (j : Int) < (a.len : Int) := c
    obtain rfl : j = us.length := by omega
    rw [List.take_length, hl, List.take_length] at ht
    rw [decide_eq_true ht] at y
    exact y
theorem w_litU {l : List UInt8} {n : Nat} (hn : n = l.length) {cs : Array Value} (hc : cs = (flat cU8 l).toArray) {k : Addr → H → Prop} (y : ∀ a h', Arr cU8 h' (⟨some a, n, n⟩ : Sl) l → Keeps h h' → h a.block = none → k a h') : mNew N_u8 cs k h := by
  subst hn; subst hc
  refine w_new fun b hb => y _ _ ⟨rfl, Nat.le_refl _, fun _ => ⟨_, rfl, At.own (l1 := []) (l3 := []) (by rw [List.nil_append, List.append_nil]; exact upd_same _ _ _) rfl⟩⟩ (.new hb) hb
theorem t_head07 {K : Bool → H → Prop} (y : ∀ h', Keeps h h' → K true h') : m_law07_head K h := by
  unfold m_law07_head
  refine t_SNew (fun e => by omega) fun _ _ _ _ s F P h1 x1 k1 f1 _ => w_ifF rfl ?_
  have fin : ∀ h', SChg F h1 h' → Keeps h h' := fun h' c => k1.but c.but fun c' f => f1 c' f
  refine t_SCreate x1 (fun e => absurd (by decide) e) fun _ h2 _ x2 _ c2 => ?_
  have m3 : mayE 2 (1 + 1) ([] ++ [((1 : Int), List.replicate (65 : Int).toNat (0 : UInt8))]).length ((3 : Int).toNat - usedS ([] ++ [((1 : Int), List.replicate (65 : Int).toNat (0 : UInt8))])) 65 = 8 := by decide
  refine t_SCreate x2 (fun e h3 k3 => ?_) fun e => absurd (m3.symm.trans e) (by decide)
  rw [m3]
  have m4 : mayE 2 (1 + 1) ([] ++ [((1 : Int), List.replicate (65 : Int).toNat (0 : UInt8))]).length ((3 : Int).toNat - usedS ([] ++ [((1 : Int), List.replicate (65 : Int).toNat (0 : UInt8))])) 0 = 0 := by decide
  refine t_SCreate (x2.keep k3) (fun e => absurd m4 e) fun _ h4 _ x4 _ c4 => ?_
  have c14 : SChg F h1 h4 := (c2.trans (.keeps k3)).trans c4
  refine w_litU (l := [7, 8, 9]) rfl rfl fun a5 h5 ar5 k5 f5 => ?_
  have x5 := x4.keep k5
  have l5 : alook ([] ++ [((1 : Int), List.replicate (65 : Int).toNat (0 : UInt8))] ++ [((1 + 1 : Int), List.replicate (0 : Int).toNat (0 : UInt8))]) 1 = some (List.replicate 65 0) := rfl
  refine t_SWrite x5 ar5 (fun _ c f q => ?_) (fun e => by rw [l5] at e; cases e) (fun bs e r => ?_) fun bs e r h6 x6 c6 => ?_
  · obtain ⟨a, ha, rfl⟩ := f
    cases ha
    exact x4.has q f5
  · rw [l5] at e; cases e
    exact absurd (by decide) r
  have c16 : SChg F h1 h6 := (c14.trans (.keeps k5)).trans c6
  have l6 : alook (wrL ([] ++ [((1 : Int), List.replicate (65 : Int).toNat (0 : UInt8))] ++ [((1 + 1 : Int), List.replicate (0 : Int).toNat (0 : UInt8))]) 1 (62 : Int).toNat [7, 8, 9]) 1 = some (over (List.replicate 65 0) 62 [7, 8, 9]) := rfl
  refine t_SRead x6 (fun e => by rw [l6] at e; cases e) (fun bs e r => ?_) fun bs e r s7 h7 b7 k7 f7 => ?_
  · rw [l6] at e; cases e
    exact absurd (by decide) r
  rw [l6] at e; cases e
  have x7 := x6.keep k7
  have c17 := c16.trans (.keeps k7)
  refine w_joinP (fun z h' => z = true ∧ Keeps h7 h') (fun j hj => ?_) ?_
  · refine w_ifT rfl (w_litU (l := [0, 7, 8, 9]) rfl rfl fun a8 h8 ar8 k8 f8 => t_same07 (b7.keep k8).arr ar8 (hj _ _ ⟨?_, k8⟩))
    decide
  rintro _ h8 ⟨rfl, k8⟩
  have x8 := x7.keep k8
  refine w_joinP (fun z h' => z = true ∧ Keeps h8 h') (fun j hj => w_ifT rfl (t_SFree x8 fun h9 k9 => hj _ _ ⟨by decide, k9⟩)) ?_
  rintro _ h9 ⟨rfl, k9⟩
  refine w_ifT rfl (t_SNext (x8.keep k9) ?_)
  exact y _ (fin _ ((c17.trans (.keeps k8)).trans (.keeps k9)))
end
end Go.Proofs.Yteeaelemfalkbaa.K
