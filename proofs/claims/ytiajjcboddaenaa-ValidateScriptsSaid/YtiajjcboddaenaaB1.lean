/- From a printed law to its row: the inputs opened, the call's end read. -/
import Derived.Test.YtiajjcboddaenaaRows
import Derived.Test.YtiajjcboddaenaaL1
import Derived.ProofKit
import Derived.Below
import Derived.ChangeSame
import Derived.Deep.Slices
namespace Go.Proofs.Ytiajjcboddaenaa.K
open Go Go.ChangeShapes Go.WideShapes Go.ChangeAt Go.RowKit Go.Proofs

/-- All memory. -/
def heapH (w : World) : H := fun b => w.heap[b]?
theorem sat_heap (w : World) : Sat2 w (heapH w) (fun _ => none) := ⟨fun _ _ e => e, fun _ _ e => (by cases e), fun _ => .inr rfl⟩
theorem heap_lt {w : World} {b : Nat} {o : Obj} (e : heapH w b = some o) : b < w.heap.size := by
  rcases Nat.lt_or_ge b w.heap.size with q | q
  · exact q
  · rw [heapH, Array.getElem?_eq_none q] at e; cases e
theorem calls_law {P : Program} {f : FuncId} {args : Array Value} {W : World} (x : ACall P f args (heapH W) (fun v h' => v = .bool true ∧ Keeps (heapH W) h') noP) :
    Calls P f args W fun e W' => e = .returned (.bool true) ∧ Below W.heap.size W W' := by
  refine (x W _ (sat_heap W)).mono fun e W' r => ?_
  cases e with
  | returned v =>
    obtain ⟨h', s, ex, rfl, k⟩ := r
    refine ⟨rfl, ex.os, ex.tape, ex.output, ex.size, fun b hb => ?_⟩
    have e : heapH W b = some W.heap[b] := Array.getElem?_eq_getElem hb
    rw [s.hs _ _ (k _ _ e), ← e]; rfl
  | panicked c => obtain ⟨h', _, _, k⟩ := r; exact k.elim
  | outgrown => exact r.elim

/-! Inputs opened. -/
theorem add_add (a : Addr) (i j : Nat) : (a.add i).add j = a.add (i + j) := by
  unfold Addr.add
  by_cases hi : i = 0
  · subst hi; simp
  · by_cases hj : j = 0
    · subst hj; simp
    · rw [if_neg hi, if_neg hj, if_neg (by omega)]
      simp [Nat.add_assoc]
theorem At.join {h : H} {a : Addr} {l1 l2 : List Value} (x : At h a l1) (y : At h (a.add l1.length) l2) : At h a (l1 ++ l2) := by
  obtain ⟨hs, c, e, fz, hb, hg⟩ := at_iff.1 x
  obtain ⟨_, c', e', fz', hb', hg'⟩ := at_iff.1 y
  rw [add_block] at hb'
  obtain ⟨rfl, _, _⟩ := cells_inj (hb.symm.trans hb')
  refine at_iff.2 ⟨hs, c, e, fz, hb, fun i v hi => ?_⟩
  rcases Nat.lt_or_ge i l1.length with q | q
  · rw [List.getElem?_append_left q] at hi; exact hg i v hi
  · rw [List.getElem?_append_right q] at hi
    have := hg' _ v hi
    rw [add_off] at this
    rw [← this]; congr 1; omega
theorem at_flat {T : Type} {cells : T → List Value} {sz : Nat} (hs : ∀ x, (cells x).length = sz) {h : H} : ∀ (xs : List T) (a : Addr), xs ≠ [] → (∀ i v, xs[i]? = some v → At h (a.add (i * sz)) (cells v)) → At h a (flat cells xs) := by
  intro xs
  induction xs with
  | nil => intro a hne; exact absurd rfl hne
  | cons x r ih =>
    intro a _ hh
    have h0 := hh 0 x rfl
    rw [Nat.zero_mul, add_zero] at h0
    rw [flat_cons]
    by_cases hr : r = []
    · subst hr; rw [flat_nil, List.append_nil]; exact h0
    · refine h0.join ?_
      rw [hs]
      refine ih _ hr fun i v hi => ?_
      rw [add_add]
      have := hh (i + 1) v (by simpa using hi)
      rw [Nat.add_mul, Nat.one_mul, Nat.add_comm] at this
      exact this
theorem at_cells {w : World} {base : Nat} {a : Addr} {n : Nat} {cs : List Value} (e : w.cells? base a n = some cs) (hn : 0 < n) : At (heapH w) a cs := by
  obtain ⟨_, hlen, hc⟩ := World.cells?_some e
  · have hget : ∀ i v, cs[i]? = some v → w.cell? (a.add i) = some v := fun i v hi => by
      have hlt := lt_of_get hi
      rw [hc i (by omega)]; exact hi
    have h0 := hget 0 cs[0] (List.getElem?_eq_getElem (by omega))
    rw [add_zero] at h0
    unfold World.cell? at h0
    split at h0
    · rename_i c t fz hb
      split at h0
      · cases h0
      · rename_i hsp
        have hsp' : a.spot = none := by simpa using hsp
        refine at_iff.2 ⟨hsp', c, t, fz, hb, fun i v hi => ?_⟩
        have := hget i v hi
        unfold World.cell? at this
        rw [add_block, hb] at this
        simp only [add_spot hsp' i, Option.isSome_none, Bool.false_eq_true, if_false, add_off] at this
        exact this
    · cases h0
/-- A slice that came in. -/
theorem open_arrC {HH : Type} {enc : TypeId × Value → HH} {P : Program} {W : World} {t e : TypeId} {T : Type} (cells : T → List Value) (Good : T → Prop) {sz : Nat} (hs : ∀ x, (cells x).length = sz) (hpos : 0 < sz) (hc : P.cellsOf e = sz) (ht : P.underlying t = some (.slice e))
    (hT : ∀ n cs y, DataW.trod enc P W 0 (fun _ => true) true n e cs = some y → ∃ x, cs = cells x ∧ Good x) {fuel : Nat} {cs : List Value} {d : DataW HH} {ps : List MemPlace} (hf : DataW.trod enc P W 0 (fun _ => true) true fuel t cs = some (d, ps)) :
    ∃ s xs, cs = [Sl.val s] ∧ Arr cells (heapH W) s xs ∧ (∀ x ∈ xs, Good x) ∧ s.cap ≤ maxLen ∧ ∀ B, (d.weights P t).all (· ≤ B) = true → xs.length * P.bytesOf e ≤ B := by
  rcases Go.Deep.open_slice ht hf with ⟨hcs, _⟩ | ⟨a, len, cap, m, n, D, Pl, hcs, _, hl, hm, hmm, hxd, hel⟩
  · subst hcs
    exact ⟨Sl.nil, [], rfl, ⟨rfl, Nat.le_refl _, fun e => absurd rfl e⟩, fun _ k => (by cases k), Nat.zero_le _, fun B _ => by simp⟩
  · subst hcs
    rw [if_pos rfl] at hmm
    have key : ∀ i, i < len → ∃ x, At (heapH W) (a.add (i * sz)) (cells x) ∧ Good x := fun i hi => by
      obtain ⟨cs', h1, h2⟩ := hel i (by omega)
      obtain ⟨x, rfl, g⟩ := hT _ _ _ h2
      rw [hc] at h1
      exact ⟨x, at_cells h1 hpos, g⟩
    have mk : ∀ n, n ≤ len → ∃ xs : List T, xs.length = n ∧ ∀ i v, xs[i]? = some v → At (heapH W) (a.add (i * sz)) (cells v) ∧ Good v := by
      intro n
      induction n with
      | zero => exact fun _ => ⟨[], rfl, fun i v k => by simp at k⟩
      | succ n ih =>
        intro hn
        obtain ⟨xs, hx, hg⟩ := ih (by omega)
        obtain ⟨x, q⟩ := key n (by omega)
        refine ⟨xs ++ [x], by simp [hx], fun i v k => ?_⟩
        rcases Nat.lt_or_ge i xs.length with r | r
        · rw [List.getElem?_append_left r] at k; exact hg i v k
        · rw [List.getElem?_append_right r] at k
          have hlt := lt_of_get k
          simp at hlt
          have : i = n := by omega
          subst this
          rw [hx, Nat.sub_self] at k
          cases k; exact q
    obtain ⟨xs, hx, hg⟩ := mk len (Nat.le_refl _)
    exact ⟨⟨some a, len, cap⟩, xs, rfl, ⟨hx.symm, hl, fun hne => ⟨a, rfl, at_flat hs xs a hne fun i v k => (hg i v k).1⟩⟩, fun x hx => by
      obtain ⟨i, hi, rfl⟩ := List.getElem_of_mem hx
      exact (hg i _ (List.getElem?_eq_getElem hi)).2, hm, fun B hw => by
        obtain ⟨rfl, -⟩ := Prod.mk.inj hxd
        rw [DataW.weights, ht] at hw
        simp only [List.all_cons, Bool.and_eq_true, decide_eq_true_eq, List.length_map, List.length_range] at hw
        refine Nat.le_trans (Nat.mul_le_mul_right _ ?_) hw.1
        omega⟩

/-- .. as an argument. -/
theorem open_arr {HH : Type} {enc : TypeId × Value → HH} {P : Program} {W : World} {base : Nat} {t e : TypeId} {T : Type} (cells : T → List Value) (Good : T → Prop) {sz : Nat} (hs : ∀ x, (cells x).length = sz) (hpos : 0 < sz) (hc : P.cellsOf e = sz) (ht : P.underlying t = some (.slice e))
    (hT : ∀ n cs y, DataW.trod enc P W 0 (fun _ => true) true n e cs = some y → ∃ x, cs = cells x ∧ Good x) {v : Value} {d : DataW HH} {ps : List MemPlace} (hval : Value.okWide P W .any base t v) (h : DataW.Trod enc P W 0 (fun _ => true) true t v d ps) :
    ∃ s xs, v = Sl.val s ∧ Arr cells (heapH W) s xs ∧ (∀ x ∈ xs, Good x) ∧ s.cap ≤ maxLen ∧ ∀ B, (d.weights P t).all (· ≤ B) = true → xs.length * P.bytesOf e ≤ B := by
  obtain ⟨a0, len, cap, rfl⟩ := okWide_slice ht hval
  obtain ⟨fuel, hf⟩ := h
  obtain ⟨s, xs, e1, r⟩ := open_arrC cells Good hs hpos hc ht hT hf
  exact ⟨s, xs, (List.cons.inj e1).1, r⟩

/-- Behind a call that has kept all memory the arguments read as before. -/
theorem same_of_below {W W' : World} (hb : Below W.heap.size W W') {p : MemPlace} (hp : p.block < W.heap.size) : W.sameAt W' p := by
  cases p with
  | cell b off =>
    show W'.cell? ⟨b, off, none⟩ = W.cell? ⟨b, off, none⟩
    have := hb.block b hp
    simp only [World.cell?, this]
  | map b => exact hb.block b hp
theorem trodAll_stays {HH : Type} {enc : TypeId × Value → HH} {P : Program} {W W' : World} (hl : laidOutB P = true) {sp : Nat → Bool} : ∀ (ts : List TypeId) (vs : List Value) (ds : List (DataW HH)) (ps : List MemPlace),
    ts.all (fun t => P.readableRec t && decide (t < P.types.size)) = true → DataW.TrodAll enc P W 0 (fun _ => true) true ts vs ds ps → (∀ p ∈ ps, W.sameAt W' p) → (∀ p ∈ ps, sp p.block = true) → DataW.TrodAll enc P W' 0 sp true ts vs ds ps := by
  intro ts
  induction ts with
  | nil => intro vs ds ps _ h _ _; cases vs <;> cases ds <;> first | exact h | exact h.elim
  | cons t r ih =>
    intro vs ds ps ht h hsame hsp
    cases vs with
    | nil => exact h.elim
    | cons v vs =>
      cases ds with
      | nil => exact h.elim
      | cons d ds =>
        obtain ⟨p, q, h1, h2, rfl⟩ := h
        rw [List.all_cons, Bool.and_eq_true, Bool.and_eq_true] at ht
        exact ⟨p, q, Go.WideElems.Trod_stays hl ht.1.1 (of_decide_eq_true ht.1.2) h1 (fun x hx => hsame x (List.mem_append_left _ hx)) (fun x hx => hsp x (List.mem_append_left _ hx)),
          ih vs ds q ht.2 h2 (fun x hx => hsame x (List.mem_append_right _ hx)) (fun x hx => hsp x (List.mem_append_right _ hx)), rfl⟩
section
variable {HH : Type} {enc : TypeId × Value → HH} {P : Program}
/-- The row's last step (the guide's own, turned): all memory that was is as it was. -/
theorem post_law {f : Func} {s : ChangeSpec} {W W' : World} {args : Array Value} {ds gs : List (DataW HH)} {before : List MemPlace} {tb : TypeId}
    (hl : laidOutB P = true) (htb : P.underlying tb = some .bool) (hrt : f.resultTypes = #[tb]) (hts : f.params.toList.all (fun t => P.readableRec t && decide (t < P.types.size)) = true) (hvars : s.vars = [])
    (hW : DataW.Whole enc P f.params.toList s.vars false W args.toList ds gs before) (hspec : (s.fn HH (ds ++ gs)).results = [.lit (.bool true)] ∧ (s.fn HH (ds ++ gs)).args = ds ∧ (s.fn HH (ds ++ gs)).vars = gs) (hb : Below W.heap.size W W') :
    s.post enc P f false true false false W args (.bool true) W' := by
  have hlt : ∀ p ∈ before, p.block < W.heap.size := fun p hp => hW.lt p hp
  have hold : ∀ p ∈ before, (fun b => decide (b < W.heap.size)) p.block = true := fun p hp => by simpa using hlt p hp
  have hWW := hW
  obtain ⟨pa, pv, hA, hV, rfl, hz, hn⟩ := hW
  have hg : gs = [] ∧ pv = [] := by
    rw [hvars] at hV
    cases gs with
    | nil => exact ⟨rfl, hV⟩
    | cons => exact hV.elim
  obtain ⟨rfl, rfl⟩ := hg
  have hres : ∀ (b : Nat) (sp : Nat → Bool) (hd : Bool), DataW.TrodAll enc P W' b sp hd f.resultTypes.toList ((Value.bool true).resultList f.resultTypes.size) (s.fn HH (ds ++ [])).results [] := fun b sp hd => by
    rw [hrt, hspec.1]
    exact trodAll_mk1 (shut_bool htb true)
  have hargs : ∀ sp : Nat → Bool, (∀ p ∈ pa ++ [], sp p.block = true) → DataW.TrodAll enc P W' 0 sp true f.params.toList args.toList (s.fn HH (ds ++ [])).args pa := fun sp hsp => by
    rw [hspec.2.1]
    exact trodAll_stays hl _ _ _ _ hts hA (fun p hp => same_of_below hb (hlt p (by simpa using hp))) fun p hp => hsp p (by simpa using hp)
  have hvs : ∀ sp : Nat → Bool, (∀ p ∈ pa ++ [], sp p.block = true) → DataW.TrodVars enc P W' sp s.vars (s.fn HH (ds ++ [])).vars [] := fun sp _ => by
    rw [hspec.2.2, hvars]; exact rfl
  refine ⟨ds, [], pa ++ [], [], pa, [], hWW, hres _ _ _, hargs _ hold, hvs _ hold, World.keptBut_mono (fun p hp => ⟨hp, ?_⟩) (hb.frame (· ∈ pa ++ [])), fun _ => ?_⟩
  · rw [List.append_nil] at hp
    exact Or.inr (by simpa using hp)
  · refine ⟨ok_one hrt rfl (okWide_bool_mk htb true), _, _, ([] ++ pa) ++ [], ⟨[] ++ pa, [], trodAll_append (hargs _ (fun _ _ => rfl)) (hres _ _ _), hvs _ (fun _ _ => rfl), rfl, ?_, fun h => by cases h⟩, fun p hp _ => by simpa using hp⟩
    intro b off hp
    have hin : MemPlace.cell b off ∈ pa ++ [] := by simpa using hp
    rw [hb.frozen (hlt _ hin)]
    exact hz b off hin
end
end Go.Proofs.Ytiajjcboddaenaa.K
