/- ref07: the calls that change it. -/
import Derived.Test.YteeaelemfalkbaaRf7
namespace Go.Proofs.Yteeaelemfalkbaa.K
open Go
section
variable {m : Int} {h : H} {q : Nat} {G : Nat → Prop} {objs : Int} {np : Nat} {next : Int} {L : List (Int × List UInt8)} {sl : Sl} {items : List S_ref07_Object}
theorem t_RNew {objects pages : Int} {K : Option Addr × Int → H → Prop} (bad : (objects < 1 ∨ 64 < objects ∨ pages < 1 ∨ 256 < pages) → K (none, 16) h)
    (good : 1 ≤ objects → objects ≤ 64 → 1 ≤ pages → pages ≤ 256 → ∀ q h', RAt h' q (· = q) objects pages.toNat 1 [] → Keeps h h' → h q = none → K (some ⟨q, 0, none⟩, 0) h') : m_ref07_New objects pages K h := by
  unfold m_ref07_New
  refine w_if (fun c => bad ?_) fun c => ?_
  · simp only [Bool.or_eq_true, decide_eq_true_eq] at c; omega
  · simp only [Bool.or_eq_false_iff, decide_eq_false_iff_not] at c
    refine w_new fun q hq => good (by omega) (by omega) (by omega) (by omega) q _ ⟨Sl.nil, [], ?_, Buf.nil, rfl, fun i x y e => (by simp at e), fun i j x y _ e => (by simp at e), rfl, fun c ⟨a, ha, _⟩ => (by cases ha), fun x hx => (by cases hx), fun c e => (by subst e; rw [upd_same]; simp)⟩ (.new hq) hq
    rw [show ((pages.toNat : Nat) : Int) = pages from by omega]
    exact upd_same _ _ _
/-- The list and the cell are written anew. -/
theorem RCore.turn (x : RCore h q G objs np next L sl items) {h2 h4 : H} {sl' : Sl} {items' : List S_ref07_Object} {L' : List (Int × List UInt8)} {next' : Int} {F : Nat → Prop} (b2 : But F h h2) (d2 : ∀ c, h2 c = none → h c = none) (fF : ∀ c, F c → sl.foot c ∨ h c = none)
    (b4 : But (· = q) h2 h4) (c4 : h4 q = some (.cells (S_ref07_Store.cells ⟨objs, (np : Int), sl', next'⟩).toArray N_ref07_Store (0, 0))) (bu : Buf S_ref07_Object.cells 2 N_ref07_Object h2 sl' items') (fs : ∀ c, sl'.foot c → sl.foot c ∨ h c = none) (hl : items'.length = L'.length)
    (ea : ∀ (i : Nat) (a : S_ref07_Object) (y : Int × List UInt8), items'[i]? = some a → L'[i]? = some y → a.Id = y.1 ∧ Buf cU8 1 N_u8 h2 a.B y.2 ∧ (a ∈ items ∨ ∀ c, a.B.foot c → h c = none))
    (ap : ∀ (i j : Nat) (a b : S_ref07_Object), i ≠ j → items'[i]? = some a → items'[j]? = some b → ∀ c, a.B.foot c → ¬ b.B.foot c) {R : Prop}
    (k : ∀ G', RAt h4 q G' objs np next' L' → (∀ c, G' c → G c ∨ h c = none) → But G h h4 → (∀ c, h4 c = none → h c = none) → R) : R := by
  have tq : Typed h2 N_ref07_Store q := by
    have := x.cell
    exact .of (b2 _ _ this fun f => (fF _ f).elim (fun g => (x.buf.typed g).ne (.of this) (by decide) rfl) fun e => by rw [e] at this; cases this)
  have dom4 : ∀ c, h4 c = none → h c = none := fun c e => by
    by_cases z : c = q
    · subst z; rw [c4] at e; cases e
    · refine d2 c ?_
      cases e2 : h2 c with
      | none => rfl
      | some o => rw [b4 c o e2 z] at e; cases e
  have bu4 := bu.but b4 fun a ha e => (bu.typed ⟨a, ha, rfl⟩).ne tq (by decide) e
  refine k (fun c => h4 c ≠ none ∧ (G c ∨ h c = none)) ⟨sl', items', c4, bu4, hl, fun i a y e1 e2 => ?_, ap, ⟨by rw [c4]; simp, .inl x.gq⟩, fun c f => ⟨(bu4.typed f).has, (fs c f).imp (x.gs c) fun z => z⟩, fun a ha c f => ?_, fun c g => g.1⟩ (fun c g => g.2) ?_ dom4
  · obtain ⟨h1, h2', _⟩ := ea i a y e1 e2
    exact ⟨h1, h2'.but b4 fun a ha e => (h2'.typed ⟨a, ha, rfl⟩).ne tq (by decide) e⟩
  · obtain ⟨i, hi, rfl⟩ := List.getElem_of_mem ha
    obtain ⟨_, h2', h3⟩ := ea i _ L'[i] (List.getElem?_eq_getElem hi) (List.getElem?_eq_getElem (by omega))
    have t4 := (h2'.but b4 fun a ha e => (h2'.typed ⟨a, ha, rfl⟩).ne tq (by decide) e).typed f
    exact ⟨t4.has, h3.imp (fun z => x.gb _ z c f) fun z => z c f⟩
  · refine ((b2.mono (G := fun c => G c ∨ h c = none) fun c f => (fF c f).imp (x.gs c) fun z => z).trans b4 fun c e => .inl (.inl (by subst e; exact x.gq))).trans (.refl (fun _ => False) _) (fun _ z => z.elim) |> fun z => fun c o e nf => z c o e fun w => w.elim nf fun w => by rw [e] at w; cases w
theorem t_RCreate (x : RAt h q G objs np next L) (lw : SLaw m np next L) {size : Int} {K : Int × Int → H → Prop} (bad : mayE objs next L.length (np - usedS L) size ≠ 0 → K (0, mayE objs next L.length (np - usedS L) size) h)
    (good : mayE objs next L.length (np - usedS L) size = 0 → ∀ h' G', RAt h' q G' objs np (next + 1) (L ++ [(next, List.replicate size.toNat 0)]) → (∀ c, G' c → G c ∨ h c = none) → But G h h' → (∀ c, h' c = none → h c = none) → K (next, 0) h') : m_ref07_Store_Create (some ⟨q, 0, none⟩) size K h := by
  unfold m_ref07_Store_Create
  refine t_RMay x lw (w_if (fun c => ?_) fun c => ?_)
  · rw [Bool.not_eq_true', decide_eq_false_iff_not] at c
    exact bad c
  rw [Bool.not_eq_false', decide_eq_true_eq] at c
  have good2 := good c
  clear good bad
  unfold mayE at c
  split at c
  · cases c
  rename_i c1
  split at c
  · cases c
  rename_i c2
  clear c
  have es : size = ((size.toNat : Nat) : Int) := by omega
  generalize size.toNat = n at es good2
  subst es
  obtain ⟨sl, items, x⟩ := x
  have hl := x.slen
  have hm := lw.most
  have hx := lw.nxt
  refine w_deref (w_deref (w_joinP (fun z h1 => ∃ mm d, z = (sl, (⟨some d, 1, 1⟩ : Sl)) ∧ Arr S_ref07_Object.cells h1 (⟨some d, 1, 1⟩ : Sl) [⟨next, mm⟩] ∧ Buf cU8 1 N_u8 h1 mm (List.replicate n 0) ∧ (∀ c, mm.foot c → h c = none) ∧ Keeps h h1) (fun j hj => ?_) ?_))
  · have fin : ∀ {h1 : H} {mm : Sl} {k : Addr → H → Prop}, Buf cU8 1 N_u8 h1 mm (List.replicate n 0) → (∀ c, mm.foot c → h c = none) → Keeps h h1 → (∀ d h2, j (sl, (⟨some d, 1, 1⟩ : Sl)) h2 → k d h2) → mNew 146 #[(Value.int .i64 next), (Sl.val mm)] k h1 := fun bm fm k1 kk => w_new fun d hd => kk _ _ (hj _ _ ⟨_, _, rfl, ⟨rfl, Nat.le_refl _, fun _ => ⟨_, rfl, At.own (l1 := []) (l3 := []) (upd_same _ _ _) rfl⟩⟩, bm.keep (.new hd), fm, k1.trans (.new hd)⟩)
    have mk : ∀ {h0 : H} {k : Sl → H → Prop}, Keeps h h0 → (∀ mm h1, Buf cU8 1 N_u8 h1 mm (List.replicate n 0) → (∀ c, mm.foot c → h c = none) → Keeps h h1 → k mm h1) → mMake 5 1 #[(Value.int .u8 0)] (n : Int) (n : Int) k h0 := fun k0 kk => w_make (by_ := 1) u8_len 0 rfl rfl rfl (by omega) (by omega) fun s1 h1 b1 k1 f1 _ => kk s1 h1 b1 (fun c f => k0.fresh (f1 c f)) (k0.trans k1)
    refine w_both (w_load x.f2 (w_both (w_load x.f3 (mk (.refl _) fun mm h1 bm fm k1 => fin bm fm k1 fun d h2 z => z)) (mk (.refl _) fun mm h1 bm fm k1 => w_load (x.keep k1).f3 (fin bm fm k1 fun d h2 z => z)))) (w_both (w_load x.f3 (w_both (w_load x.f2 (mk (.refl _) fun mm h1 bm fm k1 => fin bm fm k1 fun d h2 z => z)) (mk (.refl _) fun mm h1 bm fm k1 => w_load (x.keep k1).f2 (fin bm fm k1 fun d h2 z => z)))) (mk (.refl _) fun mm h1 bm fm k1 => w_load (x.keep k1).f2 (w_load (x.keep k1).f3 (fin bm fm k1 fun d h2 z => z))))
  rintro _ h1 ⟨mm, d, rfl, arn, bm, fm, k1⟩
  have x1 := x.keep k1
  refine w_append (by_ := 32) ob_len7 ob_plain7 rfl x1.buf arn (.inl (by have := x.len; simp only [List.length_singleton]; omega)) fun s24 h2 b24 bt2 f24 d2 => ?_
  have nq : ¬ sl.foot q := fun f => (x1.buf.typed f).ne (.of x1.cell) (by decide) rfl
  have cell2 := bt2 _ _ x1.cell nq
  refine w_deref (w_store (l1 := [.int .i64 objs, .int .i64 (np : Int)]) (l2 := [Sl.val sl]) (l3 := [.int .i64 next]) rfl cell2 rfl rfl ?_)
  have g3 : ∀ (hh : H) (nx : Int), At (upd hh q (.cells ([Value.int .i64 objs, Value.int .i64 (np : Int)] ++ [Sl.val s24] ++ [Value.int .i64 nx]).toArray N_ref07_Store (0, 0))) ((⟨q, 0, none⟩ : Addr).add 3) (cInt .i64 nx) := fun hh nx => At.own (l1 := [.int .i64 objs, .int .i64 (np : Int), Sl.val s24]) (l3 := []) (upd_same _ _ _) rfl
  refine w_deref (w_load (g3 _ _) (w_deref ?_))
  rw [iAdd_eq (by omega) (by omega)]
  refine w_store (l1 := [.int .i64 objs, .int .i64 (np : Int), Sl.val s24]) (l2 := [.int .i64 next]) (l3 := []) rfl (upd_same _ _ _) rfl rfl ?_
  rw [upd_upd]
  refine w_deref (w_load (g3 _ (next + 1)) ?_)
  rw [iSub_eq (by omega) (by omega), show next + 1 - 1 = next by omega]
  have nb : ∀ {c : Nat}, Typed h1 N_u8 c → ¬ sl.foot c := fun t f => (x1.buf.typed f).ne t (by decide) rfl
  have cls : ∀ (i : Nat) (a : S_ref07_Object), (items ++ [⟨next, mm⟩])[i]? = some a → (i < items.length ∧ items[i]? = some a) ∨ (i = items.length ∧ a = ⟨next, mm⟩) := fun i a e => by
    have hlt := lt_of_get e
    rw [List.length_append, List.length_singleton] at hlt
    rw [List.getElem?_append] at e
    split at e
    · rename_i hi; exact .inl ⟨hi, e⟩
    · rename_i hi
      rw [show i - items.length = 0 by omega] at e
      cases e
      exact .inr ⟨by omega, rfl⟩
  refine x.turn (h2 := h2) (h4 := upd h2 q (.cells ([Value.int .i64 objs, Value.int .i64 (np : Int)] ++ [Sl.val s24] ++ [Value.int .i64 (next + 1)]).toArray N_ref07_Store (0, 0))) (sl' := s24) (items' := items ++ [⟨next, mm⟩]) (L' := L ++ [(next, List.replicate n 0)]) (next' := next + 1)
    (F := fun c => sl.foot c) ((But.of k1).trans bt2 fun _ f => .inl f) (fun c e => k1.fresh (d2 c e)) (fun _ f => .inl f) (.upd rfl) (upd_same _ _ _) b24 (fun c f => (f24 c f).imp (fun z => z) fun z => k1.fresh z) (by rw [List.length_append, List.length_append, x.len]; rfl)
    (fun i a y e1 e2 => ?_) (fun i j a b ne e1 e2 c f1 f2 => ?_) fun G' r1 r2 r3 r4 => good2 _ G' r1 r2 r3 r4
  · rcases cls i a e1 with ⟨hi, g1⟩ | ⟨hi, rfl⟩
    · rw [List.getElem?_append, if_pos (by have := x.len; omega)] at e2
      obtain ⟨z1, z2⟩ := x1.each i a y g1 e2
      exact ⟨z1, z2.but bt2 fun a ha => nb (z2.typed ⟨a, ha, rfl⟩), .inl (List.mem_of_getElem? g1)⟩
    · rw [List.getElem?_append, if_neg (by have := x.len; omega), show i - L.length = 0 by have := x.len; omega] at e2
      cases e2
      exact ⟨rfl, bm.but bt2 fun a ha => nb (bm.typed ⟨a, ha, rfl⟩), .inr fm⟩
  · have old : ∀ {i : Nat} {a : S_ref07_Object}, items[i]? = some a → i < items.length → ∀ c, a.B.foot c → h c ≠ none := fun {i a} g hi c f => x.has c (x.gb a (List.mem_of_getElem? g) c f)
    rcases cls i a e1 with ⟨hi, g1⟩ | ⟨hi, rfl⟩
    · rcases cls j b e2 with ⟨hj, g2⟩ | ⟨hj, rfl⟩
      · exact x.apart i j a b ne g1 g2 c f1 f2
      · exact old g1 hi c f1 (fm c f2)
    · rcases cls j b e2 with ⟨hj, g2⟩ | ⟨hj, rfl⟩
      · exact old g2 hj c f2 (fm c f1)
      · omega
theorem t_RDestroy (x : RAt h q G objs np next L) (lw : SLaw m np next L) {id : Int} {K : Int → H → Prop} (no : alook L id = none → K 20 h) (good : ∀ bs, alook L id = some bs → ∀ h' G', RAt h' q G' objs np next (delL L id) → (∀ c, G' c → G c ∨ h c = none) → But G h h' → (∀ c, h' c = none → h c = none) → K 0 h') : m_ref07_Store_Destroy (some ⟨q, 0, none⟩) id K h := by
  obtain ⟨sl, items, x⟩ := x
  have hl := x.slen
  have hm := lw.most
  have hxl := x.len
  unfold m_ref07_Store_Destroy
  refine t_Rat x (by omega) ?_
  rcases at_cases L id with ⟨e1, e2⟩ | ⟨i, v, e1, e2, e3⟩
  · rw [e2]; exact w_ifT (by decide) (no e1)
  rw [e2]
  have hi := lt_of_get e3
  refine w_ifF (decide_eq_false (by omega)) (w_deref (w_load x.f2 (w_take x.buf.arr (n := i) (by omega) rfl rfl fun s4 a4 _ _ => ?_)))
  refine w_append (by_ := 32) ob_len7 ob_plain7 rfl Buf.nil a4 (.inl (by rw [List.length_take]; simp only [List.length_nil]; omega)) fun s5 h1 b5 k1 f5 d1 => ?_
  have k1 : Keeps h h1 := fun c o e => k1 c o e fun ⟨a, ha, _⟩ => by cases ha
  have f5 : ∀ c, s5.foot c → h c = none := fun c f => (f5 c f).elim (fun ⟨a, ha, _⟩ => by cases ha) fun z => z
  rw [List.nil_append] at b5
  have x1 := x.keep k1
  refine w_deref (w_load x1.f2 ?_)
  rw [ia1 i (by omega)]
  refine w_mid ob_len7 x1.buf.arr (lo := i + 1) (hi := items.length) (by omega) (Nat.le_refl _) rfl (by rw [x1.buf.len]) fun s8 a8 _ _ _ => ?_
  refine w_append (by_ := 32) ob_len7 ob_plain7 rfl b5 a8 (.inl (by rw [List.length_take, List.length_take, List.length_drop]; omega)) fun s9 h2 b9 k2 f9 d2 => ?_
  have e9 : items.take i ++ (items.drop (i + 1)).take (items.length - (i + 1)) = items.eraseIdx i := by
    rw [List.eraseIdx_eq_take_drop_succ, List.take_of_length_le (l := items.drop (i + 1)) (by rw [List.length_drop]; exact Nat.le_refl _)]
  rw [e9] at b9
  have nq : ¬ s5.foot q := fun f => by have := f5 q f; rw [x.cell] at this; cases this
  have cell2 := k2 _ _ x1.cell nq
  refine w_deref (w_store (l1 := [Value.int .i64 objs, Value.int .i64 (np : Int)]) (l2 := [Sl.val sl]) (l3 := [Value.int .i64 next]) rfl cell2 rfl rfl ?_)
  have gi : ∀ {T : Type} (l : List T) (j : Nat), (l.eraseIdx i)[j]? = l[if j < i then j else j + 1]? := fun l j => by
    rw [List.getElem?_eraseIdx]; split <;> rfl
  have nd := nodup_of lw.rising
  refine x.turn (h2 := h2) (h4 := upd h2 q (.cells ([Value.int .i64 objs, Value.int .i64 (np : Int)] ++ [Sl.val s9] ++ [Value.int .i64 next]).toArray N_ref07_Store (0, 0))) (sl' := s9) (items' := items.eraseIdx i) (L' := L.eraseIdx i) (next' := next)
    (F := fun c => s5.foot c) ((But.of k1).trans k2 fun _ f => .inl f) (fun c e => d1 c (d2 c e)) (fun c f => .inr (f5 c f)) (.upd rfl) (upd_same _ _ _) b9 (fun c f => .inr ((f9 c f).elim (f5 c) fun z => d1 c z)) (by rw [List.length_eraseIdx, List.length_eraseIdx, hxl])
    (fun j a y g1 g2 => ?_) (fun j k a b ne g1 g2 => ?_) fun G' r1 r2 r3 r4 => good v e1 _ G' (by rw [del_erase nd e3]; exact r1) r2 r3 r4
  · rw [gi] at g1 g2
    obtain ⟨z1, z2⟩ := x1.each _ a y g1 g2
    exact ⟨z1, z2.but k2 fun c hc f => x.has _ (x.gb a (List.mem_of_getElem? g1) _ ⟨c, hc, rfl⟩) (f5 _ f), .inl (List.mem_of_getElem? g1)⟩
  · rw [gi] at g1 g2
    refine x.apart _ _ a b (fun z => ne ?_) g1 g2
    split at z <;> split at z <;> omega
theorem t_RWrite (x : RAt h q G objs np next L) (lw : SLaw m np next L) {id off : Int} {s : Sl} {d : List UInt8} (ar : Arr cU8 h s d) (ft : d ≠ [] → ∀ c, s.foot c → ¬ G c) {K : Int → H → Prop} (no : alook L id = none → K 20 h) (bad : ∀ bs, alook L id = some bs → ¬ inR bs.length off d.length → K 5 h)
    (good : ∀ bs, alook L id = some bs → inR bs.length off d.length → ∀ h', RAt h' q G objs np next (wrL L id off.toNat d) → But G h h' → (∀ c, h' c = none → h c = none) → K 0 h') : m_ref07_Store_Write (some ⟨q, 0, none⟩) id off s K h := by
  obtain ⟨sl, items, x⟩ := x
  have hm := lw.most
  have hal := ar.len
  unfold m_ref07_Store_Write
  refine t_Rat x (by omega) ?_
  rcases at_cases L id with ⟨e1, e2⟩ | ⟨i, v, e1, e2, e3⟩
  · rw [e2]; exact w_ifT (by decide) (no e1)
  rw [e2]
  have hv : v.length ≤ 4096 := lw.sizes (id, v) (List.mem_of_getElem? e3)
  refine w_ifF (decide_eq_false (by omega)) (w_deref (w_load x.f2 (x.b_ e3 rfl fun b _ bu => ?_)))
  rw [bu.len, hal]
  refine w_within hv (w_if (fun c => ?_) fun c => ?_)
  · rw [Bool.not_eq_true', decide_eq_false_iff_not] at c
    exact bad v e1 c
  rw [Bool.not_eq_false', decide_eq_true_eq] at c
  have good' := good v e1 c
  unfold inR at c
  have eo : off = ((off.toNat : Nat) : Int) := by omega
  generalize off.toNat = o' at eo good'
  subst eo
  rw [wr_vals (nodup_of lw.rising) e3] at good'
  refine w_for d.length (fun k z h' => z = (k : Int) ∧ RCore h' q G objs np next (L.set i (id, over v o' (d.take k))) sl items ∧ But G h h' ∧ ∀ c, h' c = none → h c = none) ?_ ⟨rfl, by rw [List.take_zero, over_nil, set_same e3]; exact x, .refl _ _, fun _ e => e⟩
  rintro rec k _ h1 hk ⟨rfl, x1, b1, d1⟩ more
  refine w_if' (fun z => ?_) fun z => ?_
  · have hkd : k < d.length := by omega
    have ne : d ≠ [] := fun e => by rw [e] at hkd; cases hkd
    have hil : i < L.length := lt_of_get e3
    have e4 : (L.set i (id, over v o' (d.take k)))[i]? = some (id, over v o' (d.take k)) := by rw [List.getElem?_set, if_pos rfl, if_pos hil]
    have hol : (over v o' (d.take k)).length = v.length := over_len (by rw [List.length_take]; omega)
    have ar1 := ar.but b1 fun ne' a ha => ft ne' _ ⟨a, ha, rfl⟩
    refine w_deref (w_idx u8_len ar1 (List.getElem?_eq_getElem hkd) rfl fun a10 _ g10 => w_load x1.f2 (x1.b_ e4 rfl fun b1' eb bu1 => w_load (cells := cInt .u8) (v := (d[k].toNat : Int)) g10 ?_))
    rw [ia o' k (by omega)]
    refine w_put u8_len bu1 (i := o' + k) (by rw [hol]; omega) rfl d[k] rfl fun h2 b2 k2 d2 => ?_
    rw [ia1 k (by omega)]
    have tb : ∀ {e : TypeId} {c : Nat}, Typed h1 e c → e ≠ N_u8 → ¬ b1'.foot c := fun t n f => t.ne (bu1.typed f) n rfl
    refine more _ _ hkd ⟨rfl, ⟨k2 _ _ x1.cell (tb (.of x1.cell) (by decide)), x1.buf.but k2 fun a ha => tb (x1.buf.typed ⟨a, ha, rfl⟩) (by decide), by rw [List.length_set]; exact x.len, fun j a y g1 g2 => ?_, x1.apart, x1.gq, x1.gs, x1.gb, fun c g e => x1.has c g (d2 c e)⟩, b1.trans k2 fun c f => .inl (x1.gb _ (List.mem_of_getElem? eb) c f), fun c e => d1 c (d2 c e)⟩
    by_cases w : i = j
    · subst w
      rw [eb] at g1
      cases g1
      rw [List.getElem?_set, if_pos rfl, if_pos hil] at g2
      cases g2
      exact ⟨rfl, by rw [over_step hkd (by omega)]; exact b2⟩
    · rw [List.getElem?_set, if_neg w] at g2
      obtain ⟨z1, z2⟩ := x1.each j a y g1 (by rw [List.getElem?_set, if_neg w]; exact g2)
      exact ⟨z1, z2.but k2 fun c hc f => x1.apart i j _ a w eb g1 _ f ⟨c, hc, rfl⟩⟩
  · obtain rfl : k = d.length := by omega
    rw [List.take_length] at x1
    exact good' h1 ⟨sl, items, x1⟩ b1 d1
theorem t_RSetNext (x : RAt h q G objs np next L) (lw : SLaw m np next L) {n : Int} {K : Int → H → Prop} (bad : setNE (L.map (·.1)) n = 5 → K 5 h)
    (good : setNE (L.map (·.1)) n = 0 → ∀ h', RAt h' q G objs np n L → But G h h' → (∀ c, h' c = none → h c = none) → K 0 h') : m_ref07_Store_SetNext (some ⟨q, 0, none⟩) n K h := by
  obtain ⟨sl, items, x⟩ := x
  have hl := x.slen
  have hm := lw.most
  unfold m_ref07_Store_SetNext
  unfold setNE at bad good
  refine w_if (fun c => ?_) fun c => ?_
  · have c : n < 1 ∨ 4611686018427387905 < n := by simpa using c
    exact bad (if_pos c)
  have c : ¬ (n < 1 ∨ 4611686018427387905 < n) := by simpa using c
  simp only [if_neg c] at bad good
  refine w_for L.length (fun j z h' => z = (j : Int) ∧ h = h' ∧ ∀ p ∈ L.take j, ¬ n ≤ p.1) ?_ ⟨rfl, rfl, by simp⟩
  rintro rec j _ _ hj ⟨rfl, rfl, hno⟩ more
  refine w_deref (w_load x.f2 (w_if' (fun z => ?_) fun z => ?_))
  · have hjl : j < L.length := by omega
    have e : L[j]? = some (L[j].1, L[j].2) := List.getElem?_eq_getElem hjl
    refine w_deref (w_load x.f2 (x.id_ e rfl (w_if' (fun w => ?_) fun w => ?_)))
    · exact bad (if_pos ⟨L[j].1, List.mem_map_of_mem (List.getElem_mem hjl), w⟩)
    · rw [ia1 j (by omega)]
      refine more _ _ hjl ⟨rfl, rfl, fun p hp => ?_⟩
      rw [List.take_add_one, List.getElem?_eq_getElem hjl, Option.toList_some] at hp
      rcases List.mem_append.1 hp with y | y
      · exact hno p y
      · obtain rfl := List.mem_singleton.1 y
        exact w
  · obtain rfl : j = L.length := by omega
    rw [List.take_length] at hno
    have nex : ¬ ∃ i ∈ L.map (·.1), n ≤ i := fun ⟨i, hi, w⟩ => by
      obtain ⟨p, hp, rfl⟩ := List.mem_map.1 hi
      exact hno p hp w
    refine w_deref (w_store (l1 := [Value.int .i64 objs, Value.int .i64 (np : Int), Sl.val sl]) (l2 := [Value.int .i64 next]) (l3 := []) rfl x.cell rfl rfl ?_)
    have ty : ∀ {e : TypeId} {c : Nat}, Typed h e c → e ≠ N_ref07_Store → c ≠ q := fun t ne => t.ne (.of x.cell) ne
    refine good (if_neg nex) _ ⟨sl, items, upd_same _ _ _, x.buf.but (F := (· = q)) (.upd rfl) fun a ha => ty (x.buf.typed ⟨a, ha, rfl⟩) (by decide), x.len, fun i a y e1 e2 => ⟨(x.each i a y e1 e2).1, (x.each i a y e1 e2).2.but (F := (· = q)) (.upd rfl) fun c hc => ty ((x.each i a y e1 e2).2.typed ⟨c, hc, rfl⟩) (by decide)⟩, x.apart, x.gq, x.gs, x.gb, fun c g e => x.has c g (upd_none.1 e).2⟩ (.upd x.gq) fun c e => (upd_none.1 e).2
theorem t_RIds (x : RAt h q G objs np next L) (lw : SLaw m np next L) {K : Sl → H → Prop} (y : ∀ s h', Buf (cInt .i64) 1 N_int h' s (L.map (·.1)) → Keeps h h' → (∀ c, s.foot c → h c = none) → K s h') : m_ref07_Store_Ids (some ⟨q, 0, none⟩) K h := by
  obtain ⟨sl, items, x⟩ := x
  have hl := x.slen
  have hm := lw.most
  unfold m_ref07_Store_Ids
  refine w_for L.length (fun j z h' => z.2 = (j : Int) ∧ Buf (cInt .i64) 1 N_int h' z.1 ((L.take j).map (·.1)) ∧ Keeps h h' ∧ ∀ c, z.1.foot c → h c = none) ?_ ⟨rfl, Buf.nil, .refl _, fun c ⟨a, ha, _⟩ => (by cases ha)⟩
  rintro rec j ⟨s, _⟩ h1 hj ⟨rfl, bu, k1, fr⟩ more
  have x1 := x.keep k1
  refine w_deref (w_load x1.f2 (w_if' (fun c => ?_) fun c => ?_))
  · have c : (j : Int) < (sl.len : Int) := c
    have hjl : j < L.length := by omega
    have e : L[j]? = some (L[j].1, L[j].2) := List.getElem?_eq_getElem hjl
    refine w_deref (w_load x1.f2 (x1.id_ e rfl (w_app (by_ := 8) ci_len rfl bu [L[j].1] rfl rfl (.inl (by rw [List.length_map, List.length_take]; simp only [List.length_singleton]; omega)) fun s2 h2 b2 k2 f2 d2 => ?_)))
    show rec (s2, iAdd .i64 (j : Int) 1) h2
    rw [ia1 j (by omega)]
    refine more _ _ hjl ⟨rfl, ?_, k1.but k2 fr, fun c f => (f2 c f).elim (fr c) fun z => k1.fresh z⟩
    rw [List.take_add_one, List.getElem?_eq_getElem hjl, Option.toList_some, List.map_append]
    exact b2
  · have c : ¬ (j : Int) < (sl.len : Int) := c
    obtain rfl : j = L.length := by omega
    rw [List.take_length] at bu
    exact y s h1 bu k1 fr
end
end Go.Proofs.Yteeaelemfalkbaa.K
