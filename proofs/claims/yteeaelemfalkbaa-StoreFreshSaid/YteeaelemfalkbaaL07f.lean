/- Rows of rows that the law owns: written over, lengthened, read again. -/
import Derived.Test.YteeaelemfalkbaaL07e
namespace Go.Proofs.Yteeaelemfalkbaa.K
open Go
section
variable {T : Type} {cells : T → List Value} {e : TypeId} {hb h : H} {rs : List Sl} {V : List (List T)}
/-- Rows that are apart, each made behind 'hb'. -/
structure RowsAt (cells : T → List Value) (e : TypeId) (hb h : H) (rs : List Sl) (V : List (List T)) : Prop where
  len : rs.length = V.length
  each : ∀ (i : Nat) (b : Sl) (v : List T), rs[i]? = some b → V[i]? = some v → Buf cells 1 e h b v
  apart : ∀ (i j : Nat) (b b' : Sl), i ≠ j → rs[i]? = some b → rs[j]? = some b' → ∀ c, b.foot c → ¬ b'.foot c
  new : ∀ b ∈ rs, ∀ c, b.foot c → hb c = none
theorem RowsAt.nil : RowsAt cells e hb h [] ([] : List (List T)) := ⟨rfl, fun i b v z => by simp at z, fun i j b b' _ z => by simp at z, fun b z => by cases z⟩
theorem RowsAt.typed (x : RowsAt cells e hb h rs V) {b : Sl} (m : b ∈ rs) {c : Nat} (f : b.foot c) : Typed h e c := by
  obtain ⟨i, hi, rfl⟩ := List.getElem_of_mem m
  have hv : i < V.length := by rw [← x.len]; exact hi
  exact (x.each i _ _ (List.getElem?_eq_getElem hi) (List.getElem?_eq_getElem hv)).typed f
theorem RowsAt.but (x : RowsAt cells e hb h rs V) {h' : H} {F : Nat → Prop} (k : But F h h') (f : ∀ b ∈ rs, ∀ c, b.foot c → ¬ F c) : RowsAt cells e hb h' rs V :=
  ⟨x.len, fun i b v e1 e2 => (x.each i b v e1 e2).but k fun a ha => f b (List.mem_of_getElem? e1) _ ⟨a, ha, rfl⟩, x.apart, x.new⟩
theorem RowsAt.keep (x : RowsAt cells e hb h rs V) {h' : H} (k : Keeps h h') : RowsAt cells e hb h' rs V := ⟨x.len, fun i b v e1 e2 => (x.each i b v e1 e2).keep k, x.apart, x.new⟩
theorem RowsAt.push (x : RowsAt cells e hb h rs V) (kb : ∀ c, h c = none → hb c = none) {h' : H} {b : Sl} {v : List T} (k : Keeps h h') (bu : Buf cells 1 e h' b v) (fr : ∀ c, b.foot c → h c = none) : RowsAt cells e hb h' (rs ++ [b]) (V ++ [v]) := by
  have x' := x.keep k
  have cls : ∀ (i : Nat) (b1 : Sl), (rs ++ [b])[i]? = some b1 → (i < rs.length ∧ rs[i]? = some b1) ∨ (i = rs.length ∧ b1 = b) := fun i b1 z => by
    have hl := lt_of_get z
    rw [List.length_append, List.length_singleton] at hl
    rw [List.getElem?_append] at z
    split at z
    · rename_i hi; exact .inl ⟨hi, z⟩
    · rename_i hi
      rw [show i - rs.length = 0 by omega] at z
      cases z
      exact .inr ⟨by omega, rfl⟩
  refine ⟨by rw [List.length_append, List.length_append, x.len]; rfl, fun i b1 v1 e1 e2 => ?_, fun i j b1 b2 ne e1 e2 c f1 f2 => ?_, fun b1 m c f => ?_⟩
  · rcases cls i b1 e1 with ⟨hi, g⟩ | ⟨hi, rfl⟩
    · rw [List.getElem?_append, if_pos (by rw [← x.len]; exact hi)] at e2
      exact x'.each i b1 v1 g e2
    · rw [List.getElem?_append, if_neg (by rw [← x.len]; omega), show i - V.length = 0 by rw [← x.len]; omega] at e2
      cases e2; exact bu
  · rcases cls i b1 e1 with ⟨hi, g1⟩ | ⟨hi, rfl⟩
    · rcases cls j b2 e2 with ⟨hj, g2⟩ | ⟨hj, rfl⟩
      · exact x.apart i j b1 b2 ne g1 g2 c f1 f2
      · exact (x.typed (List.mem_of_getElem? g1) f1).has (fr c f2)
    · rcases cls j b2 e2 with ⟨hj, g2⟩ | ⟨hj, rfl⟩
      · exact (x.typed (List.mem_of_getElem? g2) f2).has (fr c f1)
      · omega
  · rcases List.mem_append.1 m with z | z
    · exact x.new b1 z c f
    · obtain rfl := List.mem_singleton.1 z
      exact kb c (fr c f)
/-- One row is written. -/
theorem RowsAt.set (x : RowsAt cells e hb h rs V) {h' : H} {i : Nat} {b : Sl} {v : List T} (eb : rs[i]? = some b) (bu : Buf cells 1 e h' b v) (k : But b.foot h h') : RowsAt cells e hb h' rs (V.set i v) := by
  refine ⟨by rw [List.length_set]; exact x.len, fun j b1 v1 e1 e2 => ?_, x.apart, x.new⟩
  by_cases q : i = j
  · subst q
    rw [eb] at e1; cases e1
    have hv : i < V.length := by rw [← x.len]; exact lt_of_get eb
    rw [List.getElem?_set, if_pos rfl, if_pos hv] at e2
    cases e2; exact bu
  · rw [List.getElem?_set, if_neg q] at e2
    exact (x.each j b1 v1 e1 e2).but k fun a ha f => x.apart i j b b1 q eb e1 _ f ⟨a, ha, rfl⟩
variable {k : IntKind} {val : T → Int} {mk : Nat → T} {mi : Int → Int} {eo : TypeId}
/-- Each row's elements are written over with its mark. -/
theorem w_marks (hc : ∀ x, cells x = cInt k (val x)) (hm : ∀ i : Nat, i < 2 ^ 40 → mi (i : Int) = val (mk i)) (ne : eo ≠ e) {o : Sl} (bo : Buf cSl 1 eo h o rs) (rr : RowsAt cells e hb h rs V) (hl : rs.length ≤ 64) (hs : ∀ v ∈ V, v.length ≤ 2 ^ 40) {done : H → Prop}
    (y : ∀ h' V', RowsAt cells e hb h' rs V' → (∀ (i : Nat) (v : List T), V'[i]? = some v → v = List.replicate v.length (mk i) ∧ ∃ v0, V[i]? = some v0 ∧ v.length = v0.length) → But (fun c => ∃ b ∈ rs, b.foot c) h h' → (∀ c, h' c = none → h c = none) → done h') :
    mLoop (fun (rec : Int → H → Prop) (s : Int) => mIf (decide (s < (o.len : Int))) (mLoop (fun (rec2 : Int → H → Prop) (s2 : Int) => mIdx o s 1 fun ad => mLoad cSl ad fun x => mIf (decide (s2 < (x.len : Int))) (mIdx o s 1 fun ad2 => mLoad cSl ad2 fun x2 => mIdx x2 s2 1 fun ad3 => mStore ad3 [(Value.int k (mi s))] <| rec2 (iAdd .i64 s2 1)) (rec (iAdd .i64 s 1))) 0) done) 0 h := by
  have hcl : ∀ x, (cells x).length = 1 := fun x => by rw [hc]; rfl
  have hol := bo.len
  refine w_for rs.length (fun i z h1 => z = (i : Int) ∧ Buf cSl 1 eo h1 o rs ∧ ∃ V', RowsAt cells e hb h1 rs V' ∧ (∀ (j : Nat) (v : List T), V'[j]? = some v → (j < i → v = List.replicate v.length (mk j)) ∧ ∃ v0, V[j]? = some v0 ∧ v.length = v0.length) ∧ But (fun c => ∃ b ∈ rs, b.foot c) h h1 ∧ ∀ c, h1 c = none → h c = none) ?_ ⟨rfl, bo, V, rr, fun j v z => ⟨fun w => by omega, v, z, rfl⟩, .refl _ _, fun _ z => z⟩
  rintro rec i _ h1 hi ⟨rfl, bo1, V1, r1, m1, b1, d1⟩ more
  refine w_if' (fun c => ?_) fun c => ?_
  · have hil : i < rs.length := by omega
    have eb : rs[i]? = some rs[i] := List.getElem?_eq_getElem hil
    have hbm := List.mem_of_getElem? eb
    generalize rs[i] = b at eb hbm
    obtain ⟨v, ev⟩ : ∃ v, V1[i]? = some v := ⟨V1[i]'(by rw [← r1.len]; exact hil), List.getElem?_eq_getElem _⟩
    obtain ⟨-, v0, ev0, hv0⟩ := m1 i v ev
    have hvl : v.length ≤ 2 ^ 40 := by rw [hv0]; exact hs v0 (List.mem_of_getElem? ev0)
    have hiv : i < V1.length := lt_of_get ev
    refine w_for v.length (fun j z h2 => z = (j : Int) ∧ Buf cSl 1 eo h2 o rs ∧ (∃ w, RowsAt cells e hb h2 rs (V1.set i w) ∧ w.length = v.length ∧ w.take j = List.replicate j (mk i)) ∧ But (fun c => ∃ b ∈ rs, b.foot c) h h2 ∧ ∀ c, h2 c = none → h c = none) ?_ ⟨rfl, bo1, ⟨v, by rw [set_same ev]; exact r1, rfl, rfl⟩, b1, d1⟩
    rintro rec2 j _ h2 hj ⟨rfl, bo2, ⟨w, r2, lw, tw⟩, b2, d2⟩ more2
    have ew : (V1.set i w)[i]? = some w := by rw [List.getElem?_set, if_pos rfl, if_pos hiv]
    have bw := r2.each i b w eb ew
    have bwl := bw.len
    refine w_get cs_len bo2.arr eb rfl (v' := b) rfl (w_if' (fun c2 => ?_) fun c2 => ?_)
    · have hjl : j < v.length := by omega
      refine w_get cs_len bo2.arr eb rfl (v' := b) rfl (w_put hcl bw (i := j) (by omega) rfl (mk i) (by rw [hc, ← hm i (by omega)]; rfl) fun h3 b3 k3 d3 => ?_)
      rw [ia1 j (by omega)]
      refine more2 _ _ hjl ⟨rfl, bo2.but k3 fun a ha f => (bw.typed f).ne (bo2.typed ⟨a, ha, rfl⟩) (Ne.symm ne) rfl, ⟨w.set j (mk i), ?_, by rw [List.length_set]; exact lw, ?_⟩, b2.trans k3 fun c f => .inl ⟨b, hbm, f⟩, fun c z => d2 c (d3 c z)⟩
      · have := r2.set eb b3 k3
        rw [List.set_set] at this
        exact this
      · rw [List.take_add_one, List.take_set_of_le (Nat.le_refl _), tw, List.getElem?_set, if_pos rfl, if_pos (by omega), Option.toList_some, List.replicate_succ']
    · obtain rfl : j = v.length := by omega
      rw [← lw, List.take_length] at tw
      rw [ia1 i (by omega)]
      refine more _ _ hil ⟨rfl, bo2, V1.set i w, r2, fun j v' z => ?_, b2, d2⟩
      by_cases q : i = j
      · subst q
        rw [ew] at z; cases z
        exact ⟨fun _ => tw, v0, ev0, by rw [lw]; exact hv0⟩
      · rw [List.getElem?_set, if_neg q] at z
        obtain ⟨z1, z2⟩ := m1 j v' z
        exact ⟨fun w => z1 (by omega), z2⟩
  · obtain rfl : i = rs.length := by omega
    exact y h1 V1 r1 (fun j v z => ⟨(m1 j v z).1 (by rw [r1.len]; exact lt_of_get z), (m1 j v z).2⟩) b1 d1
/-- Rows and longer rows, all read alone. -/
structure LongAt (cells : T → List Value) (h : H) (mk : Nat → T) (rs lgs : List Sl) (V : List (List T)) : Prop where
  len : rs.length = V.length
  lenL : lgs.length = V.length
  row : ∀ (i : Nat) (b : Sl) (v : List T), rs[i]? = some b → V[i]? = some v → Arr cells h b v
  long : ∀ (i : Nat) (b : Sl) (v : List T), lgs[i]? = some b → V[i]? = some v → Arr cells h b (v ++ [mk i])
theorem LongAt.but {rs lgs : List Sl} {V : List (List T)} (x : LongAt cells h mk rs lgs V) {h' : H} {F : Nat → Prop} (kk : But F h h') (f1 : ∀ b ∈ rs, ∀ c, b.foot c → ¬ F c) (f2 : ∀ b ∈ lgs, ∀ c, b.foot c → ¬ F c) : LongAt cells h' mk rs lgs V :=
  ⟨x.len, x.lenL, fun i b v e1 e2 => (x.row i b v e1 e2).but kk fun _ a ha => f1 b (List.mem_of_getElem? e1) _ ⟨a, ha, rfl⟩, fun i b v e1 e2 => (x.long i b v e1 e2).but kk fun _ a ha => f2 b (List.mem_of_getElem? e1) _ ⟨a, ha, rfl⟩⟩
/-- Each row is lengthened by its mark. -/
theorem w_longs {by_ : Nat} (hby : by_ ≤ 8) {zero : Array Value} (hz : zero.size = 1) (hc : ∀ x, cells x = cInt k (val x)) (hm : ∀ i : Nat, i < 2 ^ 40 → mi (i : Int) = val (mk i)) (ne : eo ≠ e) {o : Sl} (bo : Buf cSl 1 eo h o rs) (rr : RowsAt cells e hb h rs V) (hl : rs.length ≤ 64) (hs : ∀ v ∈ V, v.length ≤ 2 ^ 40) {done : Sl × Int → H → Prop}
    (y : ∀ lo h' lgs, Buf cSl 1 eo h' o rs → Buf cSl 1 eo h' lo lgs → LongAt cells h' mk rs lgs V → (∀ g ∈ lgs, ∀ c, g.foot c → (∃ b ∈ rs, b.foot c) ∨ h c = none) → (∀ c, lo.foot c → h c = none) → But (fun c => ∃ b ∈ rs, b.foot c) h h' → (∀ c, h' c = none → h c = none) → done (lo, (rs.length : Int)) h') :
    mLoop (fun (rec : (Sl × Int) → H → Prop) (s : Sl × Int) => mIf (decide (s.2 < (o.len : Int))) (mIdx o s.2 1 fun ad => mLoad cSl ad fun x => mApp e 1 by_ zero 1 [(Value.int k (mi s.2))] x fun s3 => mApp eo 1 24 #[(Sl.val Sl.nil)] 1 [(Sl.val s3)] s.1 fun s4 => rec (s4, (iAdd .i64 s.2 1))) (done s)) (Sl.nil, 0) h := by
  have hcl : ∀ x, (cells x).length = 1 := fun x => by rw [hc]; rfl
  have hol := bo.len
  refine w_for rs.length (fun i z h1 => z.2 = (i : Int) ∧ Buf cSl 1 eo h1 o rs ∧ (∃ lgs, Buf cSl 1 eo h1 z.1 lgs ∧ lgs.length = i ∧ (∀ g ∈ lgs, ∀ c, g.foot c → (∃ b ∈ rs, b.foot c) ∨ h c = none) ∧ (∀ (j : Nat) (b : Sl) (v : List T), i ≤ j → rs[j]? = some b → V[j]? = some v → Buf cells 1 e h1 b v) ∧
      (∀ (j : Nat) (b g : Sl) (v : List T), j < i → rs[j]? = some b → lgs[j]? = some g → V[j]? = some v → Arr cells h1 b v ∧ Arr cells h1 g (v ++ [mk j]) ∧ (∀ c, g.foot c → (h1 c ≠ none ∧ ¬ z.1.foot c) ∧ ∀ (q : Nat) (b' : Sl), i ≤ q → rs[q]? = some b' → ¬ b'.foot c) ∧ ∀ c, b.foot c → h1 c ≠ none ∧ ¬ z.1.foot c)) ∧ (∀ c, z.1.foot c → h c = none) ∧ But (fun c => ∃ b ∈ rs, b.foot c) h h1 ∧ ∀ c, h1 c = none → h c = none) ?_
    ⟨rfl, bo, ⟨[], Buf.nil, rfl, fun g hg => (by cases hg), fun j b v _ => rr.each j b v, fun j b g v z => by omega⟩, fun c ⟨a, ha, _⟩ => (by cases ha), .refl _ _, fun _ z => z⟩
  rintro rec i ⟨lo, _⟩ h1 hi ⟨rfl, bo1, ⟨lgs, bl, ll, feet, later, early⟩, fl, b1, d1⟩ more
  refine w_if' (fun c => ?_) fun c => ?_
  · have c : (i : Int) < (o.len : Int) := c
    have hil : i < rs.length := by omega
    have eb : rs[i]? = some rs[i] := List.getElem?_eq_getElem hil
    have hbm := List.mem_of_getElem? eb
    generalize rs[i] = b at eb hbm
    obtain ⟨v, ev⟩ : ∃ v, V[i]? = some v := ⟨V[i]'(by rw [← rr.len]; exact hil), List.getElem?_eq_getElem _⟩
    have hvl := hs v (List.mem_of_getElem? ev)
    have bv := later i b v (Nat.le_refl _) eb ev
    refine w_get cs_len bo1.arr eb rfl (v' := b) rfl ?_
    refine w_appK (by_ := by_) hcl hz bv [mk i] (by show [Value.int k (mi (i : Int))] = _; rw [hm i (by omega), flat_cons, hc]; rfl) rfl ?_ fun s3 h2 b3 a3 k2 f3 d2 => ?_
    · simp only [List.length_singleton]
      have : (2 * (v.length + 1) + 192) * by_ ≤ (2 * (v.length + 1) + 192) * 8 := Nat.mul_le_mul_left _ hby
      omega
    have to2 : ∀ c, o.foot c → ¬ b.foot c := fun c f g => (bv.typed g).ne (bo1.typed f) (Ne.symm ne) rfl
    have tl2 : ∀ c, lo.foot c → ¬ b.foot c := fun c f g => (bv.typed g).ne (bl.typed f) (Ne.symm ne) rfl
    have bo2 := bo1.but k2 fun a ha => to2 _ ⟨a, ha, rfl⟩
    have bl2 := bl.but k2 fun a ha => tl2 _ ⟨a, ha, rfl⟩
    have lo_old : ∀ c, lo.foot c → h c = none := fl
    refine w_app (by_ := 24) cs_len rfl bl2 [s3] rfl rfl (.inl (by simp only [List.length_singleton]; omega)) fun s4 h3 b4 k3 f4 d3 => ?_
    show rec (s4, iAdd .i64 (i : Int) 1) h3
    rw [ia1 i (by omega)]
    have no3 : ∀ c, o.foot c → ¬ lo.foot c := fun c f g => (bo.typed f).has (fl c g)
    have tn3 : ∀ {c : Nat}, Typed h2 e c → ¬ lo.foot c := fun t g => t.ne (bl2.typed g) (Ne.symm ne) rfl
    refine more _ _ hil ⟨rfl, bo2.but k3 fun a ha => no3 _ ⟨a, ha, rfl⟩, ⟨lgs ++ [s3], b4, by rw [List.length_append, ll]; rfl, fun g' hg c f => ?_, fun j b' v' hj e1 e2 => ?_, fun j b' g' v' hj e1 e2 e3 => ?_⟩, fun c f => ?_, ?_, fun c z => d1 c (d2 c (d3 c z))⟩
    · rcases List.mem_append.1 hg with w | w
      · exact feet g' w c f
      · obtain rfl := List.mem_singleton.1 w
        exact (f3 c f).imp (fun z => ⟨b, hbm, z⟩) fun z => d1 c z
    · have bb := (later j b' v' (by omega) e1 e2)
      have bb2 := bb.but k2 fun a ha f => rr.apart i j b b' (by omega) eb e1 _ f ⟨a, ha, rfl⟩
      exact bb2.but k3 fun a ha => tn3 (bb2.typed ⟨a, ha, rfl⟩)
    · by_cases q : j < i
      · rw [List.getElem?_append, if_pos (by omega)] at e2
        obtain ⟨z1, z2, z3, z4⟩ := early j b' g' v' q e1 e2 e3
        have nb : ∀ c, b'.foot c → ¬ b.foot c := fun c f g => rr.apart i j b b' (by omega) eb e1 c g f
        have ng : ∀ c, g'.foot c → ¬ b.foot c := fun c f => (z3 c f).2 i b (Nat.le_refl _) eb
        have up : ∀ c, h1 c ≠ none ∧ ¬ lo.foot c → h3 c ≠ none ∧ ¬ s4.foot c := fun c w => ⟨fun z => w.1 (d2 c (d3 c z)), fun f => (f4 c f).elim w.2 fun z => w.1 (d2 c z)⟩
        exact ⟨(z1.but k2 fun _ a ha => nb _ ⟨a, ha, rfl⟩).but k3 fun _ a ha => (z4 _ ⟨a, ha, rfl⟩).2, (z2.but k2 fun _ a ha => ng _ ⟨a, ha, rfl⟩).but k3 fun _ a ha => (z3 _ ⟨a, ha, rfl⟩).1.2, fun c f => ⟨up c (z3 c f).1, fun q' b'' hq => (z3 c f).2 q' b'' (by omega)⟩, fun c f => up c (z4 c f)⟩
      · obtain rfl : j = i := by omega
        rw [eb] at e1; cases e1
        rw [ev] at e3; cases e3
        rw [List.getElem?_append, if_neg (by omega), show j - lgs.length = 0 by omega] at e2
        cases e2
        have tb : ∀ c, b.foot c → h2 c ≠ none ∧ ¬ lo.foot c := fun c f => ⟨fun z => (bv.typed f).has (d2 c z), fun g => tl2 c g f⟩
        have t3 : ∀ c, s3.foot c → h2 c ≠ none ∧ ¬ lo.foot c := fun c f => ⟨(b3.typed f).has, tn3 (b3.typed f)⟩
        have up : ∀ c, h2 c ≠ none ∧ ¬ lo.foot c → h3 c ≠ none ∧ ¬ s4.foot c := fun c w => ⟨fun z => w.1 (d3 c z), fun f => (f4 c f).elim w.2 w.1⟩
        refine ⟨a3.but k3 fun _ a ha => (tb _ ⟨a, ha, rfl⟩).2, b3.arr.but k3 fun _ a ha => (t3 _ ⟨a, ha, rfl⟩).2, fun c f => ⟨up c (t3 c f), fun q' b'' hq e4 g => ?_⟩, fun c f => up c (tb c f)⟩
        rcases f3 c f with w | w
        · exact rr.apart j q' b b'' (by omega) eb e4 c w g
        · have bb := later q' b'' (V[q']'(by rw [← rr.len]; exact lt_of_get e4)) (by omega) e4 (List.getElem?_eq_getElem _)
          exact (bb.typed g).has w
    · rcases f4 c f with w | w
      · exact fl c w
      · exact d1 c (d2 c w)
    · refine (b1.trans k2 fun c f => .inl ⟨b, hbm, f⟩).trans k3 fun c f => .inr (fl c f)
  · have c : ¬ (i : Int) < (o.len : Int) := c
    obtain rfl : i = rs.length := by omega
    refine y lo h1 lgs bo1 bl ⟨rr.len, by rw [ll, rr.len], fun i b v e1 e2 => ?_, fun i b v e1 e2 => ?_⟩ feet fl b1 d1
    · have hlt := lt_of_get e1
      obtain ⟨g, eg⟩ : ∃ g, lgs[i]? = some g := ⟨lgs[i]'(by omega), List.getElem?_eq_getElem _⟩
      exact (early i b g v hlt e1 eg e2).1
    · have hlt := lt_of_get e1
      obtain ⟨g, eg⟩ : ∃ g, rs[i]? = some g := ⟨rs[i]'(by omega), List.getElem?_eq_getElem _⟩
      exact (early i g b v (by omega) eg e1 e2).2.1
/-- All are read again: each element is its row's mark. -/
theorem w_checks (hc : ∀ x, cells x = cInt k (val x)) (hm : ∀ i : Nat, i < 2 ^ 40 → mi (i : Int) = val (mk i)) {o lo : Sl} {lgs : List Sl} (bo : Arr cSl h o rs) (bl : Arr cSl h lo lgs) (x : LongAt cells h mk rs lgs V) (all : ∀ (i : Nat) (v : List T), V[i]? = some v → v = List.replicate v.length (mk i)) (hl : rs.length ≤ 64) (hs : ∀ v ∈ V, v.length ≤ 2 ^ 40) {bad done : H → Prop} (y : done h) :
    mLoop (fun (rec : Int → H → Prop) (s : Int) => mIf (decide (s < (lo.len : Int))) (
      mLoop (fun (rec2 : Int → H → Prop) (s2 : Int) => mIdx lo s 1 fun a1 => mLoad cSl a1 fun x1 => mIf (decide (s2 < (x1.len : Int))) (
        mIdx lo s 1 fun a2 => mLoad cSl a2 fun x2 => mIdx x2 s2 1 fun a3 => mLoad (cInt k) a3 fun x3 =>
        mJoin (fun (s4 : Bool) => mIf s4 bad (rec2 (iAdd .i64 s2 1))) (fun j => mIf (!decide (x3 = mi s)) (j true) (
          mIdx o s 1 fun a4 => mLoad cSl a4 fun x4 => mIf (decide (s2 < (x4.len : Int))) (
            mIdx o s 1 fun a5 => mLoad cSl a5 fun x5 => mIdx x5 s2 1 fun a6 => mLoad (cInt k) a6 fun x6 => j (!decide (x6 = mi s))) (j false)))) (rec (iAdd .i64 s 1))) 0) done) 0 h := by
  have hcl : ∀ x, (cells x).length = 1 := fun x => by rw [hc]; rfl
  have hll := bl.len
  have h1 := x.len
  have h2 := x.lenL
  refine w_for V.length (fun i z h' => z = (i : Int) ∧ h = h') ?_ ⟨rfl, rfl⟩
  rintro rec i _ _ hi ⟨rfl, rfl⟩ more
  refine w_if' (fun c => ?_) fun c => ?_
  · have hiv : i < V.length := by omega
    obtain ⟨v, ev⟩ : ∃ v, V[i]? = some v := ⟨V[i], List.getElem?_eq_getElem hiv⟩
    obtain ⟨b, eb⟩ : ∃ b, rs[i]? = some b := ⟨rs[i]'(by omega), List.getElem?_eq_getElem _⟩
    obtain ⟨g, eg⟩ : ∃ g, lgs[i]? = some g := ⟨lgs[i]'(by omega), List.getElem?_eq_getElem _⟩
    have ab := x.row i b v eb ev
    have ag := x.long i g v eg ev
    have av := all i v ev
    have hvl := hs v (List.mem_of_getElem? ev)
    have lb := ab.len
    have lg := ag.len
    rw [List.length_append, List.length_singleton] at lg
    have gv : ∀ j, j < v.length → v[j]? = some (mk i) := fun j hj => by
      rw [av, List.getElem?_replicate, if_pos hj]
    have gg : ∀ j, j < v.length + 1 → (v ++ [mk i])[j]? = some (mk i) := fun j hj => by
      rw [List.getElem?_append]
      split
      · rename_i hj'; exact gv j hj'
      · rw [show j - v.length = 0 by omega]; rfl
    have em := hm i (by omega)
    refine w_for (v.length + 1) (fun j z h' => z = (j : Int) ∧ h = h') ?_ ⟨rfl, rfl⟩
    rintro rec2 j _ _ hj ⟨rfl, rfl⟩ more2
    refine w_get cs_len bl eg rfl (v' := g) rfl (w_if' (fun c2 => ?_) fun c2 => ?_)
    · refine w_get cs_len bl eg rfl (v' := g) rfl (w_get hcl ag (gg j (by omega)) rfl (v' := val (mk i)) (hc _).symm (w_joinV false (fun jj hjj => w_ifF (by rw [decide_eq_true em.symm]; rfl) (w_get cs_len bo eb rfl (v' := b) rfl (w_if' (fun c3 => ?_) fun c3 => hjj))) (w_ifF rfl ?_)))
      · refine w_get cs_len bo eb rfl (v' := b) rfl (w_get hcl ab (gv j (by omega)) rfl (v' := val (mk i)) (hc _).symm ?_)
        rw [decide_eq_true em.symm]; exact hjj
      · rw [ia1 j (by omega)]
        exact more2 _ _ (by omega) ⟨rfl, rfl⟩
    · rw [ia1 i (by omega)]
      exact more _ _ hiv ⟨rfl, rfl⟩
  · exact y
end
end Go.Proofs.Yteeaelemfalkbaa.K
