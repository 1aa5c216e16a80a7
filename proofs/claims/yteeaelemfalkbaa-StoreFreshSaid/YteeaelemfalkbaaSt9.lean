/- Pages of 64 bytes as values of the program. The arena in memory; its calls. The arena's calls: Give, Read, Write. Plain laws of rows of pages: read, written over. The store in memory; the calls that read it. The store's calls: Ids, SetNext, Read, Write. The store's calls: Write, Ids, SetNext. The store's calls: Create, Destroy. The store at large: numbers and bytes. -/
import Derived.Test.YteeaelemfalkbaaL8
import Derived.Test.YteeaelemfalkbaaSo5
import Derived.Test.YteeaelemfalkbaaCl
import Derived.Test.YteeaelemfalkbaaFarena
import Derived.Test.YteeaelemfalkbaaQu0
import Derived.Test.YteeaelemfalkbaaFstore
namespace Go.Proofs.Yteeaelemfalkbaa.K
open Go
def Pg : Type := {l : List UInt8 // l.length = 64}
instance : DecidableEq Pg := inferInstanceAs (DecidableEq {l : List UInt8 // l.length = 64})
def pgC (x : Pg) : List Value := flat cU8 x.1
theorem pg_len (x : Pg) : (pgC x).length = 64 := by unfold pgC; rw [flat_len u8_len, x.2]
def pg0 : Pg := ⟨List.replicate 64 0, by rw [List.length_replicate]⟩
theorem uncons {l : List UInt8} {n : Nat} (h : l.length = n + 1) : ∃ a r, l = a :: r ∧ r.length = n := by
  cases l with
  | nil => cases h
  | cons a r => exact ⟨a, r, rfl, by simpa using h⟩
def allz : List Int → Bool
  | [] => true
  | a :: r => decide (a = 0) && allz r
def pints (x : S_arena_page) : List Int := [x.xe0, x.xe1, x.xe2, x.xe3, x.xe4, x.xe5, x.xe6, x.xe7, x.xe8, x.xe9, x.xe10, x.xe11, x.xe12, x.xe13, x.xe14, x.xe15, x.xe16, x.xe17, x.xe18, x.xe19, x.xe20, x.xe21, x.xe22, x.xe23, x.xe24, x.xe25, x.xe26, x.xe27, x.xe28, x.xe29, x.xe30, x.xe31, x.xe32, x.xe33, x.xe34, x.xe35, x.xe36, x.xe37, x.xe38, x.xe39, x.xe40, x.xe41, x.xe42, x.xe43, x.xe44, x.xe45, x.xe46, x.xe47, x.xe48, x.xe49, x.xe50, x.xe51, x.xe52, x.xe53, x.xe54, x.xe55, x.xe56, x.xe57, x.xe58, x.xe59, x.xe60, x.xe61, x.xe62, x.xe63]
theorem page_of : ∀ v : Pg, ∃ x : S_arena_page, S_arena_page.cells x = pgC v ∧ pints x = v.1.map fun b => (b.toNat : Int) := by
  intro ⟨l, h⟩
  show ∃ x : S_arena_page, S_arena_page.cells x = flat cU8 l ∧ pints x = l.map fun b => (b.toNat : Int)
  obtain ⟨a0, l0, rfl, h0⟩ := uncons h
  obtain ⟨a1, l1, rfl, h1⟩ := uncons h0
  obtain ⟨a2, l2, rfl, h2⟩ := uncons h1
  obtain ⟨a3, l3, rfl, h3⟩ := uncons h2
  obtain ⟨a4, l4, rfl, h4⟩ := uncons h3
  obtain ⟨a5, l5, rfl, h5⟩ := uncons h4
  obtain ⟨a6, l6, rfl, h6⟩ := uncons h5
  obtain ⟨a7, l7, rfl, h7⟩ := uncons h6
  obtain ⟨a8, l8, rfl, h8⟩ := uncons h7
  obtain ⟨a9, l9, rfl, h9⟩ := uncons h8
  obtain ⟨a10, l10, rfl, h10⟩ := uncons h9
  obtain ⟨a11, l11, rfl, h11⟩ := uncons h10
  obtain ⟨a12, l12, rfl, h12⟩ := uncons h11
  obtain ⟨a13, l13, rfl, h13⟩ := uncons h12
  obtain ⟨a14, l14, rfl, h14⟩ := uncons h13
  obtain ⟨a15, l15, rfl, h15⟩ := uncons h14
  obtain ⟨a16, l16, rfl, h16⟩ := uncons h15
  obtain ⟨a17, l17, rfl, h17⟩ := uncons h16
  obtain ⟨a18, l18, rfl, h18⟩ := uncons h17
  obtain ⟨a19, l19, rfl, h19⟩ := uncons h18
  obtain ⟨a20, l20, rfl, h20⟩ := uncons h19
  obtain ⟨a21, l21, rfl, h21⟩ := uncons h20
  obtain ⟨a22, l22, rfl, h22⟩ := uncons h21
  obtain ⟨a23, l23, rfl, h23⟩ := uncons h22
  obtain ⟨a24, l24, rfl, h24⟩ := uncons h23
  obtain ⟨a25, l25, rfl, h25⟩ := uncons h24
  obtain ⟨a26, l26, rfl, h26⟩ := uncons h25
  obtain ⟨a27, l27, rfl, h27⟩ := uncons h26
  obtain ⟨a28, l28, rfl, h28⟩ := uncons h27
  obtain ⟨a29, l29, rfl, h29⟩ := uncons h28
  obtain ⟨a30, l30, rfl, h30⟩ := uncons h29
  obtain ⟨a31, l31, rfl, h31⟩ := uncons h30
  obtain ⟨a32, l32, rfl, h32⟩ := uncons h31
  obtain ⟨a33, l33, rfl, h33⟩ := uncons h32
  obtain ⟨a34, l34, rfl, h34⟩ := uncons h33
  obtain ⟨a35, l35, rfl, h35⟩ := uncons h34
  obtain ⟨a36, l36, rfl, h36⟩ := uncons h35
  obtain ⟨a37, l37, rfl, h37⟩ := uncons h36
  obtain ⟨a38, l38, rfl, h38⟩ := uncons h37
  obtain ⟨a39, l39, rfl, h39⟩ := uncons h38
  obtain ⟨a40, l40, rfl, h40⟩ := uncons h39
  obtain ⟨a41, l41, rfl, h41⟩ := uncons h40
  obtain ⟨a42, l42, rfl, h42⟩ := uncons h41
  obtain ⟨a43, l43, rfl, h43⟩ := uncons h42
  obtain ⟨a44, l44, rfl, h44⟩ := uncons h43
  obtain ⟨a45, l45, rfl, h45⟩ := uncons h44
  obtain ⟨a46, l46, rfl, h46⟩ := uncons h45
  obtain ⟨a47, l47, rfl, h47⟩ := uncons h46
  obtain ⟨a48, l48, rfl, h48⟩ := uncons h47
  obtain ⟨a49, l49, rfl, h49⟩ := uncons h48
  obtain ⟨a50, l50, rfl, h50⟩ := uncons h49
  obtain ⟨a51, l51, rfl, h51⟩ := uncons h50
  obtain ⟨a52, l52, rfl, h52⟩ := uncons h51
  obtain ⟨a53, l53, rfl, h53⟩ := uncons h52
  obtain ⟨a54, l54, rfl, h54⟩ := uncons h53
  obtain ⟨a55, l55, rfl, h55⟩ := uncons h54
  obtain ⟨a56, l56, rfl, h56⟩ := uncons h55
  obtain ⟨a57, l57, rfl, h57⟩ := uncons h56
  obtain ⟨a58, l58, rfl, h58⟩ := uncons h57
  obtain ⟨a59, l59, rfl, h59⟩ := uncons h58
  obtain ⟨a60, l60, rfl, h60⟩ := uncons h59
  obtain ⟨a61, l61, rfl, h61⟩ := uncons h60
  obtain ⟨a62, l62, rfl, h62⟩ := uncons h61
  obtain ⟨a63, l63, rfl, h63⟩ := uncons h62
  obtain rfl := List.length_eq_zero_iff.1 h63
  exact ⟨⟨a0.toNat, a1.toNat, a2.toNat, a3.toNat, a4.toNat, a5.toNat, a6.toNat, a7.toNat, a8.toNat, a9.toNat, a10.toNat, a11.toNat, a12.toNat, a13.toNat, a14.toNat, a15.toNat, a16.toNat, a17.toNat, a18.toNat, a19.toNat, a20.toNat, a21.toNat, a22.toNat, a23.toNat, a24.toNat, a25.toNat, a26.toNat, a27.toNat, a28.toNat, a29.toNat, a30.toNat, a31.toNat, a32.toNat, a33.toNat, a34.toNat, a35.toNat, a36.toNat, a37.toNat, a38.toNat, a39.toNat, a40.toNat, a41.toNat, a42.toNat, a43.toNat, a44.toNat, a45.toNat, a46.toNat, a47.toNat, a48.toNat, a49.toNat, a50.toNat, a51.toNat, a52.toNat, a53.toNat, a54.toNat, a55.toNat, a56.toNat, a57.toNat, a58.toNat, a59.toNat, a60.toNat, a61.toNat, a62.toNat, a63.toNat⟩, rfl, rfl⟩
theorem allz_iff : ∀ l : List UInt8, allz (l.map fun b => (b.toNat : Int)) = decide (l = List.replicate l.length 0) := by
  intro l
  induction l with
  | nil => rfl
  | cons a r ih =>
    show (decide ((a.toNat : Int) = 0) && allz (r.map fun b => (b.toNat : Int))) = _
    rw [ih, List.length_cons, List.replicate_succ, Bool.eq_iff_iff, Bool.and_eq_true, decide_eq_true_eq, decide_eq_true_eq, decide_eq_true_eq, List.cons.injEq]
    refine and_congr ⟨fun e => ?_, fun e => by rw [e]; rfl⟩ Iff.rfl
    have : a.toNat = 0 := by omega
    exact UInt8.toNat_inj.1 this
theorem page_zero {v : Pg} {x : S_arena_page} (e : pints x = v.1.map fun b => (b.toNat : Int)) : allz (pints x) = decide (v = pg0) := by
  rw [e, allz_iff, v.2, Bool.eq_iff_iff, decide_eq_true_eq, decide_eq_true_eq]
  exact ⟨fun q => Subtype.ext q, fun q => by rw [q]; rfl⟩
end Go.Proofs.Yteeaelemfalkbaa.K
namespace Go.Proofs.Yteeaelemfalkbaa.K
open Go
theorem cb_len : ∀ x : Bool, (cBool x).length = 1 := fun _ => rfl
/-- The pages that are taken, those that are free, below 'n'. -/
def tkN (tk : List Bool) (n : Nat) : List Nat := (List.range n).filter fun i => tk[i]?.getD false
def frN (tk : List Bool) (n : Nat) : List Nat := (List.range n).filter fun i => !(tk[i]?.getD true)
theorem tkN_succ (tk : List Bool) (n : Nat) : tkN tk (n + 1) = tkN tk n ++ (if tk[n]?.getD false = true then [n] else []) := by
  unfold tkN
  rw [List.range_succ, List.filter_append, List.filter_cons, List.filter_nil]
theorem frN_succ (tk : List Bool) (n : Nat) : frN tk (n + 1) = frN tk n ++ (if (!(tk[n]?.getD true)) = true then [n] else []) := by
  unfold frN
  rw [List.range_succ, List.filter_append, List.filter_cons, List.filter_nil]
theorem tk_fr (tk : List Bool) : ∀ n, n ≤ tk.length → (tkN tk n).length + (frN tk n).length = n := by
  intro n
  induction n with
  | zero => intro _; rfl
  | succ n ih =>
    intro h
    have := ih (by omega)
    have e : tk[n]? = some tk[n] := List.getElem?_eq_getElem (by omega)
    rw [tkN_succ, frN_succ, e]
    cases tk[n] <;> simp <;> omega
theorem mem_fr {tk : List Bool} {n i : Nat} : i ∈ frN tk n ↔ i < n ∧ tk[i]? = some false := by
  unfold frN
  rw [List.mem_filter, List.mem_range]
  refine and_congr Iff.rfl ?_
  cases tk[i]? with
  | none => simp
  | some b => cases b <;> simp
theorem mem_tk {tk : List Bool} {n i : Nat} : i ∈ tkN tk n ↔ i < n ∧ tk[i]? = some true := by
  unfold tkN
  rw [List.mem_filter, List.mem_range]
  refine and_congr Iff.rfl ?_
  cases tk[i]? with
  | none => simp
  | some b => cases b <;> simp
theorem fr_nodup (tk : List Bool) (n : Nat) : (frN tk n).Nodup := List.nodup_range.sublist List.filter_sublist
theorem tk_nodup (tk : List Bool) (n : Nat) : (tkN tk n).Nodup := List.nodup_range.sublist List.filter_sublist
def frees (tk : List Bool) : Nat := tk.length - (tkN tk tk.length).length
theorem frees_eq (tk : List Bool) : frees tk = (frN tk tk.length).length := by
  have := tk_fr tk tk.length (Nat.le_refl _)
  unfold frees; omega
def ints (l : List Nat) : List Int := l.map fun i : Nat => (i : Int)
/-- An arena: its pages, and which are taken. -/
structure ArenaAt (h : H) (p : Nat) (sp st : Sl) (pgs : List Pg) (tk : List Bool) : Prop where
  cell : h p = some (.cells (S_arena_Arena.cells ⟨sp, st⟩).toArray N_arena_Arena (0, 0))
  pages : Buf pgC 64 N_arena_page h sp pgs
  taken : Buf cBool 1 N_bool h st tk
  len : tk.length = pgs.length
  small : pgs.length ≤ 256
/-- What a change writes. -/
structure AChg (sp st : Sl) (h h' : H) : Prop where
  but : But (fun c => sp.foot c ∨ st.foot c) h h'
  dom : ∀ c, h' c = none → h c = none
section
variable {h : H} {p : Nat} {sp st : Sl} {pgs : List Pg} {tk : List Bool}
theorem AChg.refl (sp st : Sl) (h : H) : AChg sp st h h := ⟨.refl _ _, fun _ e => e⟩
theorem AChg.keeps {h' : H} (k : Keeps h h') : AChg sp st h h' := ⟨.of k, fun _ e => k.fresh e⟩
theorem AChg.trans {h1 h2 : H} (x : AChg sp st h h1) (y : AChg sp st h1 h2) : AChg sp st h h2 := ⟨x.but.trans y.but fun _ f => .inl f, fun c e => x.dom c (y.dom c e)⟩
theorem ArenaAt.keep {h' : H} (x : ArenaAt h p sp st pgs tk) (k : Keeps h h') : ArenaAt h' p sp st pgs tk := ⟨k _ _ x.cell, x.pages.keep k, x.taken.keep k, x.len, x.small⟩
theorem ArenaAt.f0 (x : ArenaAt h p sp st pgs tk) : At h ((⟨p, 0, none⟩ : Addr).add 0) (cSl sp) := At.own (l1 := []) (l3 := (S_arena_Arena.cells ⟨sp, st⟩).drop 1) x.cell rfl
theorem ArenaAt.f1 (x : ArenaAt h p sp st pgs tk) : At h ((⟨p, 0, none⟩ : Addr).add 1) (cSl st) := At.own (l1 := (S_arena_Arena.cells ⟨sp, st⟩).take 1) (l3 := []) x.cell rfl
theorem ArenaAt.setP (x : ArenaAt h p sp st pgs tk) {h' : H} {pgs' : List Pg} (b : Buf pgC 64 N_arena_page h' sp pgs') (l : pgs'.length = pgs.length) (k : But sp.foot h h') : ArenaAt h' p sp st pgs' tk :=
  ⟨k _ _ x.cell fun f => (x.pages.typed f).ne (.of x.cell) (by decide) rfl, b, x.taken.but k fun a ha f => (x.pages.typed f).ne (x.taken.typed ⟨a, ha, rfl⟩) (by decide) rfl, by rw [l]; exact x.len, by rw [l]; exact x.small⟩
theorem ArenaAt.setT (x : ArenaAt h p sp st pgs tk) {h' : H} {tk' : List Bool} (b : Buf cBool 1 N_bool h' st tk') (l : tk'.length = tk.length) (k : But st.foot h h') : ArenaAt h' p sp st pgs tk' :=
  ⟨k _ _ x.cell fun f => (x.taken.typed f).ne (.of x.cell) (by decide) rfl, x.pages.but k fun a ha f => (x.taken.typed f).ne (x.pages.typed ⟨a, ha, rfl⟩) (by decide) rfl, b, by rw [l]; exact x.len, x.small⟩
theorem ArenaAt.other (x : ArenaAt h p sp st pgs tk) {h' : H} {F : Nat → Prop} (k : But F h h') (f : ∀ c, F c → c ≠ p ∧ ¬ sp.foot c ∧ ¬ st.foot c) : ArenaAt h' p sp st pgs tk :=
  ⟨k _ _ x.cell fun q => (f _ q).1 rfl, x.pages.but k fun a ha q => (f _ q).2.1 ⟨a, ha, rfl⟩, x.taken.but k fun a ha q => (f _ q).2.2 ⟨a, ha, rfl⟩, x.len, x.small⟩
theorem t_ANew {n : Nat} (hn : n ≤ 256) {K : Option Addr × Int → H → Prop} (y : ∀ p sp st h', ArenaAt h' p sp st (List.replicate n pg0) (List.replicate n false) → Keeps h h' → h p = none → (∀ c, sp.foot c → h c = none) → (∀ c, st.foot c → h c = none) → K (some ⟨p, 0, none⟩, 0) h') : m_arena_New (n : Int) K h := by
  unfold m_arena_New
  refine w_ifF (by rw [decide_eq_false (by omega), decide_eq_false (by omega)]; rfl) ?_
  refine w_joinP (fun z h' => Buf pgC 64 N_arena_page h' z.1 (List.replicate n pg0) ∧ Buf cBool 1 N_bool h' z.2 (List.replicate n false) ∧ Keeps h h' ∧ (∀ c, z.1.foot c → h c = none) ∧ (∀ c, z.2.foot c → h c = none)) (fun j hj => w_both ?_ ?_) ?_
  · refine w_make (by_ := 64) pg_len pg0 rfl rfl rfl (by omega) (by omega) fun s1 h1 b1 k1 f1 _ => w_make (by_ := 1) cb_len false rfl rfl rfl (by omega) (by omega) fun s2 h2 b2 k2 f2 _ => ?_
    exact hj _ _ ⟨b1.keep k2, b2, k1.trans k2, f1, fun c f => k1.fresh (f2 c f)⟩
  · refine w_make (by_ := 1) cb_len false rfl rfl rfl (by omega) (by omega) fun s1 h1 b1 k1 f1 _ => w_make (by_ := 64) pg_len pg0 rfl rfl rfl (by omega) (by omega) fun s2 h2 b2 k2 f2 _ => ?_
    exact hj _ _ ⟨b2, b1.keep k2, k1.trans k2, fun c f => k1.fresh (f2 c f), f1⟩
  · rintro ⟨s1, s2⟩ h1 ⟨b1, b2, k, f1, f2⟩
    refine w_new fun p hp => ?_
    exact y p s1 s2 _ ⟨upd_same _ _ _, b1.keep (.new hp), b2.keep (.new hp), by simp, by simpa using hn⟩ (k.trans (.new hp)) (k.fresh hp) f1 f2
theorem t_ATaken (x : ArenaAt h p sp st pgs tk) {K : Sl → H → Prop} (y : ∀ s h', Buf (cInt .i64) 1 N_int h' s (ints (tkN tk tk.length)) → Keeps h h' → (∀ c, s.foot c → h c = none) → K s h') : m_arena_Arena_Taken (some ⟨p, 0, none⟩) K h := by
  unfold m_arena_Arena_Taken
  have hl := x.taken.len
  have h1 := x.len
  have h2 := x.small
  refine w_deref (w_load x.f1 ?_)
  refine w_for tk.length (fun j s h' => s.2 = (j : Int) ∧ Buf (cInt .i64) 1 N_int h' s.1 (ints (tkN tk j)) ∧ (∀ c, s.1.foot c → h c = none) ∧ Keeps h h') ?_ ⟨rfl, Buf.nil, fun c ⟨a, ha, _⟩ => (by cases ha), .refl _⟩
  rintro rec j ⟨s, _⟩ h' hj ⟨rfl, bu, fr, k⟩ more
  refine w_if' (fun c => ?_) fun c => ?_
  · have c : (j : Int) < (st.len : Int) := c
    have e : tk[j]? = some tk[j] := List.getElem?_eq_getElem (by omega)
    refine w_get cb_len (x.keep k).taken.arr e rfl (v' := tk[j]) rfl (w_if (fun d => ?_) fun d => ?_)
    · refine w_app (by_ := 8) ci_len rfl bu [(j : Int)] rfl rfl (.inl ?_) fun s2 h2 bu2 b2 f2 d2 => ?_
      · have hl : (ints (tkN tk j)).length ≤ j := by
          have := tk_fr tk j hj
          unfold ints; rw [List.length_map]; omega
        simp only [List.length_singleton]; omega
      · show rec (s2, iAdd .i64 (j : Int) 1) h2
        rw [ia1 j (by omega)]
        refine more _ _ (by omega) ⟨rfl, ?_, fun c f => (f2 c f).elim (fr c) fun q => k.fresh q, k.but b2 fun n f => fr n f⟩
        have d : tk[j] = true := d
        rw [tkN_succ, e, d]
        unfold ints
        rw [List.map_append]
        exact bu2
    · show rec (s, iAdd .i64 (j : Int) 1) h'
      rw [ia1 j (by omega)]
      refine more _ _ (by omega) ⟨rfl, ?_, fr, k⟩
      have d : tk[j] = false := d
      rw [tkN_succ, e, d]
      simpa using bu
  · have c : ¬ (j : Int) < (st.len : Int) := c
    obtain rfl : j = tk.length := by omega
    exact y s h' bu k fr
theorem t_AFree (x : ArenaAt h p sp st pgs tk) {K : Int → H → Prop} (y : ∀ h', Keeps h h' → K ((frees tk : Nat) : Int) h') : m_arena_Arena_Free (some ⟨p, 0, none⟩) K h := by
  unfold m_arena_Arena_Free
  have hl := x.taken.len
  have hc := tk_fr tk tk.length (Nat.le_refl _)
  have h1 := x.len
  have h2 := x.small
  refine w_deref (w_joinP (fun z h' => z = ((tk.length : Int), ((tkN tk tk.length).length : Int)) ∧ Keeps h h') (fun j hj => w_both (w_load x.f1 (t_ATaken x fun s h' b k _ => hj _ _ ⟨?_, k⟩)) (t_ATaken x fun s h' b k _ => w_load (x.keep k).f1 (hj _ _ ⟨?_, k⟩))) ?_)
  · have := b.len; unfold ints at this; rw [List.length_map] at this; rw [hl, this]
  · have := b.len; unfold ints at this; rw [List.length_map] at this; rw [hl, this]
  · rintro _ h' ⟨rfl, k⟩
    show K (iSub .i64 (tk.length : Int) ((tkN tk tk.length).length : Int)) h'
    rw [is_ _ _ (by omega) (by omega)]
    exact y h' k
theorem t_Ais (x : ArenaAt h p sp st pgs tk) {i : Nat} (hi : tk[i]? = some true) {K : Bool → H → Prop} (y : K true h) : m_arena_Arena_is (some ⟨p, 0, none⟩) (i : Int) K h := by
  unfold m_arena_Arena_is
  have hl := x.taken.len
  have hlt := lt_of_get hi
  refine w_joinV true (fun j hj => w_ifT (decide_eq_true (by omega)) (w_deref (w_load x.f1 ?_))) (w_ifT rfl (w_deref (w_load x.f1 (w_get cb_len x.taken.arr hi rfl (v' := true) rfl y))))
  show j (decide ((i : Int) < (st.len : Int))) h
  rw [decide_eq_true (by omega)]; exact hj
theorem t_place (x : ArenaAt h p sp st pgs tk) {i off n : Nat} (hi : tk[i]? = some true) (hn : off + n ≤ 64) {K : Int → H → Prop} (y : K 0 h) : m_arena_Arena_place (some ⟨p, 0, none⟩) (i : Int) (off : Int) (n : Int) K h := by
  unfold m_arena_Arena_place
  refine t_Ais x hi (w_ifF rfl (w_ifF ?_ y))
  rw [iSub_eq (by omega) (by omega), decide_eq_false (by omega), decide_eq_false (by omega), decide_eq_false (by omega), decide_eq_false (by omega)]
  rfl
/-- Pages 'ps' were taken. -/
structure Took (tk tk' : List Bool) (pgs pgs' : List Pg) (ps : List Nat) : Prop where
  tk : ∀ i : Nat, tk'[i]? = if i ∈ ps then some true else tk[i]?
  pg : ∀ i : Nat, pgs'[i]? = if i ∈ ps then some pg0 else pgs[i]?
theorem t_ATake (x : ArenaAt h p sp st pgs tk) {n : Nat} {K : Sl × Int → H → Prop} (hn : n ≤ frees tk)
    (y : ∀ s h' ps pgs' tk', ArenaAt h' p sp st pgs' tk' → Buf (cInt .i64) 1 N_int h' s (ints ps) → (∀ c, s.foot c → h c = none) → AChg sp st h h' → ps.length = n → ps.Nodup → (∀ i ∈ ps, tk[i]? = some false) → Took tk tk' pgs pgs' ps → K (s, 0) h') : m_arena_Arena_Take (some ⟨p, 0, none⟩) (n : Int) K h := by
  unfold m_arena_Arena_Take
  have hl := x.taken.len
  have hp := x.pages.len
  have h1 := x.len
  have h2 := x.small
  have hfr : frees tk ≤ tk.length := by unfold frees; omega
  refine w_ifF (decide_eq_false (by omega)) (t_AFree x fun h0 k0 => w_ifF (decide_eq_false (by omega)) (w_deref (w_load (x.keep k0).f0 ?_)))
  refine w_for pgs.length (fun j s h' => s.2 = (j : Int) ∧ ∃ pgs' tk', ArenaAt h' p sp st pgs' tk' ∧ Buf (cInt .i64) 1 N_int h' s.1 (ints (frN tk j)) ∧ (∀ c, s.1.foot c → h c = none) ∧ AChg sp st h h' ∧ (frN tk j).length ≤ n ∧ Took tk tk' pgs pgs' (frN tk j)) ?_ ⟨rfl, pgs, tk, x.keep k0, Buf.nil, fun c ⟨a, ha, _⟩ => (by cases ha), .keeps k0, Nat.zero_le _, fun i => by simp [frN], fun i => by simp [frN]⟩
  rintro rec j ⟨s, _⟩ h' hj ⟨rfl, pgs', tk', x', bu, fr, ch, le, tkk⟩ more
  have bl := bu.len
  unfold ints at bl; rw [List.length_map] at bl
  refine w_if' (fun c => ?_) fun c => ?_
  · have c : (j : Int) < (sp.len : Int) := c
    have hjl : j < tk.length := by omega
    refine w_if' (fun d => ?_) fun d => ?_
    · have d : (s.len : Int) = (n : Int) := d
      exact y s h' _ pgs' tk' x' bu fr ch (by omega) (fr_nodup _ _) (fun i hi => (mem_fr.1 hi).2) tkk
    have d : ¬ (s.len : Int) = (n : Int) := d
    have hnm : j ∉ frN tk j := fun q => by have := (mem_fr.1 q).1; omega
    have et : tk[j]? = some tk[j] := List.getElem?_eq_getElem hjl
    have et' : tk'[j]? = some tk[j] := by rw [tkk.tk j, if_neg hnm, et]
    refine w_deref (w_load x'.f1 (w_get cb_len x'.taken.arr et' rfl (v' := tk[j]) rfl (w_if (fun g => ?_) fun g => ?_)))
    · have g : tk[j] = true := g
      show rec (s, iAdd .i64 (j : Int) 1) h'
      have e : frN tk (j + 1) = frN tk j := by rw [frN_succ, et, g]; simp
      rw [ia1 j (by omega)]
      exact more _ _ (by omega) ⟨rfl, pgs', tk', x', by rw [e]; exact bu, fr, ch, by rw [e]; exact le, by rw [e]; exact tkk⟩
    have g : tk[j] = false := g
    have hjp : j < pgs'.length := by have := x'.len; have := lt_of_get et'; omega
    have ep : pgs'[j]? = some pgs'[j] := List.getElem?_eq_getElem hjp
    refine w_joinP (fun _ h2 => Buf pgC 64 N_arena_page h2 sp (pgs'.set j pg0) ∧ But sp.foot h' h2 ∧ ∀ c, h2 c = none → h' c = none) (fun jj hjj => w_deref (w_load x'.f0 (w_idx pg_len x'.pages.arr ep rfl fun a1 _ g1 => ?_))) ?_
    · obtain ⟨v, hv, pv⟩ := page_of pgs'[j]
      rw [← hv] at g1
      refine w_load g1 (w_if (fun z => ?_) fun z => ?_)
      · refine w_deref (w_load x'.f0 (w_idx pg_len x'.pages.arr ep rfl fun a2 i2 g2 => w_cut (lo := 0) (hi := 64) rfl rfl (by omega) (Nat.le_refl _) ?_))
        refine .inr ⟨by show (64 : Nat) - 0 ≠ 0; omega, a2, ?_, ?_⟩
        · show (if (64 : Nat) = 0 then some a2 else (some a2).map (·.add (0 * 1))) = some a2
          rw [if_neg (by omega)]
          show some (a2.add 0) = some a2
          rw [add_zero]
        · have zc : (Builtin.zeroCells #[Value.int .u8 0] 64).toList = pgC pg0 := zero_flat u8_len 0 rfl 64
          show mStore a2 (Builtin.zeroCells #[Value.int .u8 0] 64).toList (jj ()) h'
          rw [zc]
          refine w_set pg_len x'.pages (v' := pg0) ep i2 (c1 := []) (c2 := pgC pgs'[j]) (c3 := []) (by simp) (by simp) (by rw [pg_len, pg_len]) (add_zero a2).symm fun h2 b2 k2 d2 => ?_
          exact hjj _ _ ⟨b2, k2, d2⟩
      · have z : (!allz (pints v)) = false := z
        rw [page_zero pv, Bool.not_eq_false', decide_eq_true_eq] at z
        refine hjj _ _ ⟨?_, .refl _ _, fun _ e => e⟩
        rw [z] at ep
        rw [set_same ep]; exact x'.pages
    · rintro _ h2 ⟨b2, k2, d2⟩
      have x2 := x'.setP b2 (List.length_set ..) k2
      refine w_deref (w_load x2.f1 (w_put cb_len x2.taken (i := j) (lt_of_get et') rfl true rfl fun h3 b3 k3 d3 => ?_))
      have x3 := x2.setT b3 (List.length_set ..) k3
      have bu3 : Buf (cInt .i64) 1 N_int h3 s (ints (frN tk j)) := (bu.but k2 fun a ha f => x.pages.has f (fr _ ⟨a, ha, rfl⟩)).but k3 fun a ha f => x.taken.has f (fr _ ⟨a, ha, rfl⟩)
      have ch3 : AChg sp st h h3 := ⟨(ch.but.trans k2 fun _ f => .inl (.inl f)).trans k3 fun _ f => .inl (.inr f), fun c e => ch.dom c (d2 c (d3 c e))⟩
      refine w_app (by_ := 8) ci_len rfl bu3 [(j : Int)] rfl rfl (.inl ?_) fun s4 h4 bu4 b4 f4 d4 => ?_
      · unfold ints; rw [List.length_map]; simp only [List.length_singleton]; omega
      · show rec (s4, iAdd .i64 (j : Int) 1) h4
        have e : frN tk (j + 1) = frN tk j ++ [j] := by rw [frN_succ, et, g]; simp
        rw [ia1 j (by omega)]
        refine more _ _ (by omega) ⟨rfl, pgs'.set j pg0, tk'.set j true, ?_, ?_, fun c f => (f4 c f).elim (fr c) fun q => ch3.dom c q, ⟨fun n o q nf => ?_, fun c e => ch3.dom c (d4 c e)⟩, ?_, ?_⟩
        · exact x3.other b4 fun c f => ⟨fun q => (by subst q; have := fr _ f; rw [x.cell] at this; cases this), fun q => x.pages.has q (fr _ f), fun q => x.taken.has q (fr _ f)⟩
        · rw [e]; unfold ints; rw [List.map_append]; exact bu4
        · exact b4 n o (ch3.but n o q nf) fun f => by have := fr _ f; rw [q] at this; cases this
        · rw [e, List.length_append, List.length_singleton]; omega
        · rw [e]
          refine ⟨fun i => ?_, fun i => ?_⟩
          · rw [List.getElem?_set, tkk.tk i]
            by_cases q : j = i
            · subst q
              rw [if_pos rfl, if_pos (lt_of_get et'), if_pos (by simp)]
            · rw [if_neg q]
              simp only [List.mem_append, List.mem_singleton, Ne.symm q, or_false]
          · rw [List.getElem?_set, tkk.pg i]
            by_cases q : j = i
            · subst q
              rw [if_pos rfl, if_pos hjp, if_pos (by simp)]
            · rw [if_neg q]
              simp only [List.mem_append, List.mem_singleton, Ne.symm q, or_false]
  · have c : ¬ (j : Int) < (sp.len : Int) := c
    obtain rfl : j = pgs.length := by omega
    have := frees_eq tk
    rw [h1] at this
    exact y s h' _ pgs' tk' x' bu fr ch (by omega) (fr_nodup _ _) (fun i hi => (mem_fr.1 hi).2) tkk
end
end Go.Proofs.Yteeaelemfalkbaa.K
namespace Go.Proofs.Yteeaelemfalkbaa.K
open Go
section
variable {h : H} {p : Nat} {sp st : Sl} {pgs : List Pg} {tk : List Bool}
theorem t_Contains {s : Sl} {zs : List Int} (x : Arr (cInt .i64) h s zs) (hn : zs.length ≤ 2 ^ 40) {v : Int} {K : Bool → H → Prop} (y : K (decide (v ∈ zs)) h) : m_slices_Contains_int_int s v K h := by
  unfold m_slices_Contains_int_int m_slices_Index_int_int
  have hl := x.len
  refine w_for zs.length (fun j z h' => z = (j : Int) ∧ h = h' ∧ v ∉ zs.take j) ?_ ⟨rfl, rfl, by simp⟩
  rintro rec j _ _ hj ⟨rfl, rfl, nm⟩ more
  refine w_if' (fun c => ?_) fun c => ?_
  · have c : (j : Int) < (s.len : Int) := c
    have e : zs[j]? = some zs[j] := List.getElem?_eq_getElem (by omega)
    refine w_get ci_len x e rfl (v' := zs[j]) rfl (w_if' (fun d => ?_) fun d => ?_)
    · have d : v = zs[j] := d
      rw [decide_eq_true (d ▸ List.getElem_mem (by omega))] at y
      show K (decide ((0 : Int) ≤ (j : Int))) h
      rw [decide_eq_true (by omega)]; exact y
    · have d : ¬ v = zs[j] := d
      rw [ia1 j (by omega)]
      refine more _ _ (by omega) ⟨rfl, rfl, ?_⟩
      rw [List.take_add_one, e, Option.toList_some, List.mem_append, List.mem_singleton, not_or]
      exact ⟨nm, d⟩
  · have c : ¬ (j : Int) < (s.len : Int) := c
    obtain rfl : j = zs.length := by omega
    rw [List.take_length] at nm
    rw [decide_eq_false nm] at y
    exact y
theorem t_AGive (x : ArenaAt h p sp st pgs tk) {s : Sl} {ps : List Nat} (bu : Buf (cInt .i64) 1 N_int h s (ints ps)) (nd : ps.Nodup) (all : ∀ i ∈ ps, tk[i]? = some true) (hn : ps.length ≤ 2 ^ 40) {K : Int → H → Prop}
    (y : ∀ h' tk', ArenaAt h' p sp st pgs tk' → (∀ i : Nat, tk'[i]? = if i ∈ ps then some false else tk[i]?) → But st.foot h h' → (∀ c, h' c = none → h c = none) → K 0 h') : m_arena_Arena_Give (some ⟨p, 0, none⟩) s K h := by
  unfold m_arena_Arena_Give
  have hl := bu.len
  unfold ints at hl; rw [List.length_map] at hl
  have hil : (ints ps).length = ps.length := List.length_map ..
  have get : ∀ j (hj : j < ps.length), (ints ps)[j]? = some ((ps[j] : Nat) : Int) := fun j hj => by unfold ints; rw [List.getElem?_map, List.getElem?_eq_getElem hj]; rfl
  refine w_for ps.length (fun j z h' => z = (j : Int) ∧ h = h') ?_ ⟨rfl, rfl⟩
  rintro rec j _ _ hj ⟨rfl, rfl⟩ more
  refine w_if' (fun c => ?_) fun c => ?_
  · have c : (j : Int) < (s.len : Int) := c
    have hjl : j < ps.length := by omega
    refine w_get ci_len bu.arr (get j hjl) rfl (v' := ((ps[j] : Nat) : Int)) rfl (t_Ais x (all _ (List.getElem_mem hjl)) (w_joinV false (fun jj hjj => w_ifF rfl (w_take bu.arr (n := j) (by omega) rfl rfl fun s' ar' _ _ => t_Contains ar' (by rw [List.length_take]; omega) ?_)) (w_ifF rfl ?_)))
    · have : ((ps[j] : Nat) : Int) ∉ (ints ps).take j := fun hm => by
        unfold ints at hm
        rw [← List.map_take, List.mem_map] at hm
        obtain ⟨i, hi, e⟩ := hm
        obtain rfl : i = ps[j] := by omega
        obtain ⟨q, hq, e⟩ := List.getElem_of_mem hi
        rw [List.getElem_take] at e
        rw [List.length_take] at hq
        exact List.pairwise_iff_getElem.1 nd q j (by omega) hjl (by omega) e
      rw [decide_eq_false this]; exact hjj
    · rw [ia1 j (by omega)]
      exact more _ _ hjl ⟨rfl, rfl⟩
  · refine w_for ps.length (fun j z h' => z = (j : Int) ∧ ∃ tk', ArenaAt h' p sp st pgs tk' ∧ (∀ i : Nat, tk'[i]? = if i ∈ ps.take j then some false else tk[i]?) ∧ But st.foot h h' ∧ ∀ c, h' c = none → h c = none) ?_ ⟨rfl, tk, x, fun i => by simp, .refl _ _, fun _ e => e⟩
    rintro rec j _ h1 hj ⟨rfl, tk', x', tt, k, d⟩ more
    refine w_if' (fun c => ?_) fun c => ?_
    · have c : (j : Int) < (s.len : Int) := c
      have hjl : j < ps.length := by omega
      have bu1 := bu.but k fun a ha f => (x.taken.typed f).ne (bu.typed ⟨a, ha, rfl⟩) (by decide) rfl
      refine w_get ci_len bu1.arr (get j hjl) rfl (v' := ((ps[j] : Nat) : Int)) rfl (w_deref (w_load x'.f1 ?_))
      have hlt : ps[j] < tk'.length := by
        rcases Nat.lt_or_ge ps[j] tk'.length with q | q
        · exact q
        · have e1 := tt ps[j]
          rw [List.getElem?_eq_none q, all _ (List.getElem_mem hjl)] at e1
          split at e1 <;> cases e1
      refine w_put cb_len x'.taken hlt rfl false rfl fun h2 b2 k2 d2 => ?_
      rw [ia1 j (by omega)]
      refine more _ _ hjl ⟨rfl, tk'.set ps[j] false, x'.setT b2 (List.length_set ..) k2, fun i => ?_, k.trans k2 fun _ f => .inl f, fun c e => d c (d2 c e)⟩
      rw [List.getElem?_set, tt i, List.take_add_one, List.getElem?_eq_getElem hjl]
      by_cases q : ps[j] = i
      · rw [if_pos q, if_pos hlt, if_pos (by simp [q])]
      · rw [if_neg q]
        simp only [Option.toList_some, List.mem_append, List.mem_singleton, Ne.symm q, or_false]
    · have c : ¬ (j : Int) < (s.len : Int) := c
      obtain rfl : j = ps.length := by omega
      rw [List.take_length] at tt
      exact y h1 tk' x' tt k d
theorem t_ARead (x : ArenaAt h p sp st pgs tk) {i off n : Nat} {pg : Pg} (hi : tk[i]? = some true) (hg : pgs[i]? = some pg) (hn : off + n ≤ 64) {K : Sl × Int → H → Prop}
    (y : ∀ s h', Buf cU8 1 N_u8 h' s ((pg.1.drop off).take n) → Keeps h h' → (∀ c, s.foot c → h c = none) → K (s, 0) h') : m_arena_Arena_Read (some ⟨p, 0, none⟩) (i : Int) (off : Int) (n : Int) K h := by
  unfold m_arena_Arena_Read
  refine t_place x hi hn (w_ifF rfl (w_deref (w_load x.f0 (w_idx pg_len x.pages.arr hg rfl fun a1 _ g1 => ?_))))
  obtain ⟨v, hv, pv⟩ := page_of pg
  rw [← hv] at g1
  refine w_load g1 (w_new fun b hb => ?_)
  have zc : (#[Value.int .u8 0, Value.int .u8 0, Value.int .u8 0, Value.int .u8 0, Value.int .u8 0, Value.int .u8 0, Value.int .u8 0, Value.int .u8 0, Value.int .u8 0, Value.int .u8 0, Value.int .u8 0, Value.int .u8 0, Value.int .u8 0, Value.int .u8 0, Value.int .u8 0, Value.int .u8 0, Value.int .u8 0, Value.int .u8 0, Value.int .u8 0, Value.int .u8 0, Value.int .u8 0, Value.int .u8 0, Value.int .u8 0, Value.int .u8 0, Value.int .u8 0, Value.int .u8 0, Value.int .u8 0, Value.int .u8 0, Value.int .u8 0, Value.int .u8 0, Value.int .u8 0, Value.int .u8 0, Value.int .u8 0, Value.int .u8 0, Value.int .u8 0, Value.int .u8 0, Value.int .u8 0, Value.int .u8 0, Value.int .u8 0, Value.int .u8 0, Value.int .u8 0, Value.int .u8 0, Value.int .u8 0, Value.int .u8 0, Value.int .u8 0, Value.int .u8 0, Value.int .u8 0, Value.int .u8 0, Value.int .u8 0, Value.int .u8 0, Value.int .u8 0, Value.int .u8 0, Value.int .u8 0, Value.int .u8 0, Value.int .u8 0, Value.int .u8 0, Value.int .u8 0, Value.int .u8 0, Value.int .u8 0, Value.int .u8 0, Value.int .u8 0, Value.int .u8 0, Value.int .u8 0, Value.int .u8 0] : Array Value) = (pgC pg0).toArray := rfl
  rw [zc]
  show mStore ⟨b, 0, none⟩ (S_arena_page.cells v) _ _
  rw [hv]
  refine w_store (l1 := []) (l2 := pgC pg0) (l3 := []) rfl (by rw [List.nil_append, List.append_nil]; exact upd_same _ _ _) rfl (by rw [pg_len, pg_len]) ?_
  rw [List.nil_append, List.append_nil, upd_upd]
  have k1 : Keeps h (upd h b (.cells (pgC pg).toArray N_arena_page (0, 0))) := .new hb
  have ar : Arr cU8 (upd h b (.cells (pgC pg).toArray N_arena_page (0, 0))) (⟨some ⟨b, 0, none⟩, 64, 64⟩ : Sl) pg.1 := ⟨pg.2.symm, Nat.le_refl _, fun _ => ⟨_, rfl, At.own (l1 := []) (l3 := []) (by rw [List.nil_append, List.append_nil]; exact upd_same _ _ _) rfl⟩⟩
  show mCut (⟨some ⟨b, 0, none⟩, 64, 64⟩ : Sl) (off : Int) (iAdd .i64 (off : Int) (n : Int)) 1 _ _
  rw [ia off n (by omega)]
  refine w_mid u8_len ar (lo := off) (hi := off + n) (by omega) (by rw [pg.2]; exact hn) rfl rfl fun s1 ar1 _ _ _ => ?_
  rw [show off + n - off = n by omega] at ar1
  unfold m_slices_Clone_byte_byte
  refine w_clone (by_ := 1) (e := N_u8) (k := fun r8 => K (r8, 0)) (zero := #[Value.int .u8 0]) u8_len u8_plain rfl ar1 (by rw [List.length_take]; omega) fun s2 h2 b2 k2 f2 => ?_
  exact y s2 h2 b2 (k1.trans k2) fun c f => k1.fresh (f2 c f)
/-- A page's bytes, some written over. -/
def over (l : List UInt8) (off : Nat) (d : List UInt8) : List UInt8 := l.take off ++ d ++ l.drop (off + d.length)
theorem over_len {l d : List UInt8} {off : Nat} (h : off + d.length ≤ l.length) : (over l off d).length = l.length := by
  unfold over; rw [List.length_append, List.length_append, List.length_take, List.length_drop]; omega
def overP (v : Pg) (off : Nat) (d : List UInt8) (h : off + d.length ≤ 64) : Pg := ⟨over v.1 off d, by rw [over_len (by rw [v.2]; exact h), v.2]⟩
theorem t_AWrite (x : ArenaAt h p sp st pgs tk) {i off : Nat} {pg : Pg} {s : Sl} {d : List UInt8} (hi : tk[i]? = some true) (hg : pgs[i]? = some pg) (ar : Arr cU8 h s d) (hn : off + d.length ≤ 64) {K : Int → H → Prop}
    (y : ∀ h', ArenaAt h' p sp st (pgs.set i (overP pg off d hn)) tk → But sp.foot h h' → (∀ c, h' c = none → h c = none) → K 0 h') : m_arena_Arena_Write (some ⟨p, 0, none⟩) (i : Int) (off : Int) s K h := by
  unfold m_arena_Arena_Write
  have hl := ar.len
  rw [hl]
  refine t_place x hi hn (w_ifF rfl (w_deref (w_load x.f0 (w_idx pg_len x.pages.arr hg rfl fun a1 i1 g1 => ?_))))
  refine w_cut (lo := off) (hi := 64) rfl rfl (by omega) (Nat.le_refl _) ?_
  refine w_copy u8_len u8_plain ar (by show d.length ≤ 64 - off; omega) (fun e => ?_) fun ne => ⟨a1.add off, ?_, ?_⟩
  · subst e
    refine y h ?_ (.refl _ _) fun _ e => e
    have e : overP pg off [] hn = pg := Subtype.ext (by
      show over pg.1 off [] = pg.1
      unfold over; simp)
    rw [e, set_same hg]; exact x
  · show (if (64 : Nat) = off then some a1 else (some a1).map (·.add (off * 1))) = _
    have : 0 < d.length := List.length_pos_iff.2 ne
    rw [if_neg (by omega), Nat.mul_one]; rfl
  · refine w_set pg_len x.pages (v' := overP pg off d hn) hg i1 (c1 := flat cU8 (pg.1.take off)) (c2 := flat cU8 ((pg.1.drop off).take d.length)) (c3 := flat cU8 (pg.1.drop (off + d.length))) ?_ ?_ ?_ ?_ fun h2 b2 k2 d2 => ?_
    · rw [← flat_append, ← flat_append, List.append_assoc, ← List.drop_drop, List.take_append_drop, List.take_append_drop]; rfl
    · rw [← flat_append, ← flat_append]; rfl
    · rw [flat_len u8_len, flat_len u8_len, List.length_take, List.length_drop, pg.2]; omega
    · rw [flat_len u8_len, List.length_take, pg.2, Nat.mul_one, Nat.min_eq_left (by omega)]
    · exact y h2 (x.setP b2 (List.length_set ..) k2) k2 d2
end
end Go.Proofs.Yteeaelemfalkbaa.K
namespace Go.Proofs.Yteeaelemfalkbaa.K
open Go
section
variable {α : Type}
theorem pages_drop : ∀ (l : List (List UInt8)), (∀ x ∈ l, x.length = 64) → ∀ k x, l[k]? = some x → l.flatten.drop (64 * k) = x ++ (l.drop (k + 1)).flatten := by
  intro l
  induction l with
  | nil => intro _ k x h; simp at h
  | cons a r ih =>
    intro hl k x h
    have ha := hl a (List.mem_cons_self ..)
    cases k with
    | zero => simp at h; subst h; simp
    | succ k =>
      have h : r[k]? = some x := by simpa using h
      have := ih (fun y hy => hl y (List.mem_cons_of_mem _ hy)) k x h
      rw [List.flatten_cons, show 64 * (k + 1) = a.length + 64 * k by omega, List.drop_length_add_append, this, List.drop_succ_cons]
theorem pages_take : ∀ (l : List (List UInt8)), (∀ x ∈ l, x.length = 64) → ∀ k, k ≤ l.length → l.flatten.take (64 * k) = (l.take k).flatten := by
  intro l
  induction l with
  | nil => intro _ k h; simp
  | cons a r ih =>
    intro hl k h
    have ha := hl a (List.mem_cons_self ..)
    cases k with
    | zero => simp
    | succ k =>
      have := ih (fun y hy => hl y (List.mem_cons_of_mem _ hy)) k (by simpa using h)
      rw [List.flatten_cons, show 64 * (k + 1) = a.length + 64 * k by omega, List.take_length_add_append, this, List.take_succ_cons, List.flatten_cons]
theorem pages_len : ∀ (l : List (List UInt8)), (∀ x ∈ l, x.length = 64) → l.flatten.length = 64 * l.length := by
  intro l
  induction l with
  | nil => intro _; rfl
  | cons a r ih =>
    intro hl
    rw [List.flatten_cons, List.length_append, hl a (List.mem_cons_self ..), ih fun y hy => hl y (List.mem_cons_of_mem _ hy), List.length_cons]
    omega
theorem pages_part {l : List (List UInt8)} (hl : ∀ x ∈ l, x.length = 64) {k f c : Nat} {x : List UInt8} (h : l[k]? = some x) (hf : f + c ≤ 64) : (l.flatten.drop (64 * k + f)).take c = (x.drop f).take c := by
  have hx := hl x (List.mem_of_getElem? h)
  rw [← List.drop_drop, pages_drop l hl k x h, List.drop_append_of_le_length (by omega), List.take_append_of_le_length (by rw [List.length_drop]; omega)]
theorem over_mid {A x B d : List UInt8} {f : Nat} (h : f + d.length ≤ x.length) : over (A ++ x ++ B) (A.length + f) d = A ++ over x f d ++ B := by
  unfold over
  rw [List.append_assoc A, List.take_length_add_append, Nat.add_assoc, List.drop_length_add_append, List.take_append_of_le_length (by omega), List.drop_append_of_le_length h]
  simp [List.append_assoc]
theorem pages_over {l : List (List UInt8)} (hl : ∀ x ∈ l, x.length = 64) {k f : Nat} {x d : List UInt8} (h : l[k]? = some x) (hf : f + d.length ≤ 64) : (l.set k (over x f d)).flatten = over l.flatten (64 * k + f) d := by
  have hx := hl x (List.mem_of_getElem? h)
  have hk := lt_of_get h
  have e : l = l.take k ++ x :: l.drop (k + 1) := split_at h
  have ef : l.flatten = (l.take k).flatten ++ x ++ (l.drop (k + 1)).flatten := by
    conv => lhs; rw [e]
    rw [List.flatten_append, List.flatten_cons, List.append_assoc]
  have ha : (l.take k).flatten.length = 64 * k := by
    rw [pages_len _ fun y hy => hl y (List.mem_of_mem_take hy), List.length_take, Nat.min_eq_left (by omega)]
  rw [List.set_eq_take_append_cons_drop, if_pos hk, List.flatten_append, List.flatten_cons, ef, ← ha, over_mid (by omega), List.append_assoc]
theorem over_nil {l : List UInt8} {off : Nat} : over l off [] = l := by unfold over; simp
theorem over_over {l d1 d2 : List UInt8} {off : Nat} (h : off + d1.length + d2.length ≤ l.length) : over (over l off d1) (off + d1.length) d2 = over l off (d1 ++ d2) := by
  unfold over
  have e1 : (l.take off ++ d1).length = off + d1.length := by rw [List.length_append, List.length_take, Nat.min_eq_left (by omega)]
  rw [← e1, List.take_left, e1]
  rw [List.drop_append, List.drop_eq_nil_of_le (by rw [e1]; omega), e1, List.drop_drop, List.length_append, List.nil_append]
  rw [show off + d1.length + (off + d1.length + d2.length - (off + d1.length)) = off + (d1.length + d2.length) by omega]
  simp [List.append_assoc]
theorem over_take {l d : List UInt8} {off n : Nat} (h : off + d.length ≤ n) (hn : n ≤ l.length) : (over l off d).take n = over (l.take n) off d := by
  unfold over
  rw [List.take_append, List.take_take, Nat.min_eq_left (by omega : off ≤ n)]
  have e1 : (l.take off ++ d).length = off + d.length := by rw [List.length_append, List.length_take, Nat.min_eq_left (by omega)]
  rw [e1, List.take_of_length_le (by rw [e1]; exact h), List.drop_take]
theorem part_more {l : List UInt8} {off a c : Nat} : (l.drop off).take a ++ (l.drop (off + a)).take c = (l.drop off).take (a + c) := by
  rw [← List.drop_drop, List.take_add]
theorem part_take {l : List UInt8} {x c n : Nat} (h : x + c ≤ n) : ((l.take n).drop x).take c = (l.drop x).take c := by
  rw [List.drop_take, List.take_take, Nat.min_eq_left (by omega)]
end
end Go.Proofs.Yteeaelemfalkbaa.K
namespace Go.Proofs.Yteeaelemfalkbaa.K
open Go
theorem keyS {t : TypeId} (hu : Try.prog.underlying t = some (.int .i64)) : KeyEq (eqV Try.prog 40 t) (Value.int .i64) := fun a b => by
  show eqV Try.prog (39 + 1) t _ _ = _
  rw [eqV.eq_2, hu]
  rfl
/-- An object: its number, the list of its pages, its size. -/
structure Ob where
  id : Int
  sl : Sl
  sz : Nat
  pg : List Nat
def pageB (pgs : List Pg) (i : Nat) : List UInt8 := (pgs[i]?.getD pg0).1
def obig (pgs : List Pg) (o : Ob) : List UInt8 := (o.pg.map (pageB pgs)).flatten
def obytes (pgs : List Pg) (o : Ob) : List UInt8 := (obig pgs o).take o.sz
def obV (o : Ob) : S_store_object := ⟨(o.sz : Int), o.sl⟩
def obE (o : Ob) : Int × S_store_object := (o.id, obV o)
def absS (pgs : List Pg) (os : List Ob) : List (Int × List UInt8) := os.map fun o => (o.id, obytes pgs o)
structure StoreAt (h : H) (s b p : Nat) (most next : Int) (sp st : Sl) (pgs : List Pg) (tk : List Bool) (os : List Ob) : Prop where
  cell : h s = some (.cells (S_store_Store.cells ⟨most, next, some b, some ⟨p, 0, none⟩⟩).toArray N_store_Store (0, 0))
  map : MapOf (Value.int .i64) S_store_object.val h b (os.map obE)
  ar : ArenaAt h p sp st pgs tk
  lists : ∀ o ∈ os, Buf (cInt .i64) 1 N_int h o.sl (ints o.pg)
  paged : ∀ o ∈ os, o.pg.length = (o.sz + 63) / 64 ∧ o.sz ≤ 4096
  nodup : (os.flatMap (·.pg)).Nodup
  held : ∀ i : Nat, tk[i]? = some true ↔ i ∈ os.flatMap (·.pg)
  rising : (os.map (·.id)).Pairwise (· < ·)
  ids : ∀ o ∈ os, 1 ≤ o.id ∧ o.id < next
  nxt : 1 ≤ next ∧ next ≤ 4611686018427387905
  most : (os.length : Int) ≤ most ∧ most ≤ 64
theorem page64 (pgs : List Pg) (i : Nat) : (pageB pgs i).length = 64 := (pgs[i]?.getD pg0).2
theorem big64 (pgs : List Pg) (o : Ob) : ∀ x ∈ o.pg.map (pageB pgs), x.length = 64 := fun x hx => by
  obtain ⟨i, _, rfl⟩ := List.mem_map.1 hx
  exact page64 pgs i
theorem big_len (pgs : List Pg) (o : Ob) : (obig pgs o).length = 64 * o.pg.length := by
  unfold obig; rw [pages_len _ (big64 pgs o), List.length_map]
theorem ob_len {pgs : List Pg} {o : Ob} (h : o.pg.length = (o.sz + 63) / 64) : (obytes pgs o).length = o.sz := by
  unfold obytes; rw [List.length_take, big_len]; omega
def fd (os : List Ob) (id : Int) : Option Ob := os.find? fun o => decide (id = o.id)
theorem look_map {β : Type} (g : Ob → β) (id : Int) : ∀ os : List Ob, alook (os.map fun o => (o.id, g o)) id = (fd os id).map g := by
  intro os
  induction os with
  | nil => rfl
  | cons o r ih =>
    rw [List.map_cons, alook_cons, ih]
    unfold fd
    by_cases e : id = o.id
    · rw [if_pos e, List.find?_cons, decide_eq_true e]; rfl
    · rw [if_neg e, List.find?_cons, decide_eq_false e]
theorem fd_mem {os : List Ob} {id : Int} {o : Ob} (h : fd os id = some o) : o ∈ os ∧ o.id = id := by
  unfold fd at h
  have h1 := List.mem_of_find?_eq_some h
  have h2 := List.find?_some h
  exact ⟨h1, (of_decide_eq_true h2).symm⟩
/-- The pages that are in use. -/
def usedS (L : List (Int × List UInt8)) : Nat := (L.map fun p => (p.2.length + 63) / 64).sum
theorem used_pages {pgs : List Pg} : ∀ {os : List Ob}, (∀ o ∈ os, o.pg.length = (o.sz + 63) / 64 ∧ o.sz ≤ 4096) → (os.flatMap (·.pg)).length = usedS (absS pgs os) := by
  intro os
  induction os with
  | nil => intro _; rfl
  | cons o r ih =>
    intro h
    have := ih fun q hq => h q (List.mem_cons_of_mem _ hq)
    have h1 := h o (List.mem_cons_self ..)
    rw [List.flatMap_cons, List.length_append, this]
    unfold usedS absS
    rw [List.map_cons, List.map_cons, List.sum_cons]
    show _ = ((obytes pgs o).length + 63) / 64 + _
    rw [ob_len h1.1, h1.1]
section
variable {h : H} {s b p : Nat} {most next : Int} {sp st : Sl} {pgs : List Pg} {tk : List Bool} {os : List Ob}
theorem StoreAt.keep (x : StoreAt h s b p most next sp st pgs tk os) {h' : H} (k : Keeps h h') : StoreAt h' s b p most next sp st pgs tk os :=
  ⟨k _ _ x.cell, x.map.keep k, x.ar.keep k, fun o ho => (x.lists o ho).keep k, x.paged, x.nodup, x.held, x.rising, x.ids, x.nxt, x.most⟩
theorem StoreAt.f0 (x : StoreAt h s b p most next sp st pgs tk os) : At h ((⟨s, 0, none⟩ : Addr).add 0) (cInt .i64 most) := At.own (l1 := []) (l3 := (S_store_Store.cells ⟨most, next, some b, some ⟨p, 0, none⟩⟩).drop 1) x.cell rfl
theorem StoreAt.f1 (x : StoreAt h s b p most next sp st pgs tk os) : At h ((⟨s, 0, none⟩ : Addr).add 1) (cInt .i64 next) := At.own (l1 := (S_store_Store.cells ⟨most, next, some b, some ⟨p, 0, none⟩⟩).take 1) (l3 := (S_store_Store.cells ⟨most, next, some b, some ⟨p, 0, none⟩⟩).drop 2) x.cell rfl
theorem StoreAt.f2 (x : StoreAt h s b p most next sp st pgs tk os) : At h ((⟨s, 0, none⟩ : Addr).add 2) (cMap (some b)) := At.own (l1 := (S_store_Store.cells ⟨most, next, some b, some ⟨p, 0, none⟩⟩).take 2) (l3 := (S_store_Store.cells ⟨most, next, some b, some ⟨p, 0, none⟩⟩).drop 3) x.cell rfl
theorem StoreAt.f3 (x : StoreAt h s b p most next sp st pgs tk os) : At h ((⟨s, 0, none⟩ : Addr).add 3) (cPtr (some ⟨p, 0, none⟩)) := At.own (l1 := (S_store_Store.cells ⟨most, next, some b, some ⟨p, 0, none⟩⟩).take 3) (l3 := []) x.cell rfl
theorem StoreAt.look (_x : StoreAt h s b p most next sp st pgs tk os) (id : Int) : alook (os.map obE) id = (fd os id).map obV := look_map obV id os
theorem StoreAt.free (x : StoreAt h s b p most next sp st pgs tk os) : frees tk = tk.length - usedS (absS pgs os) ∧ usedS (absS pgs os) ≤ tk.length := by
  have e : (tkN tk tk.length).Perm (os.flatMap (·.pg)) := (List.perm_ext_iff_of_nodup (tk_nodup _ _) x.nodup).2 fun i => by
    rw [mem_tk, ← x.held i]
    exact ⟨fun q => q.2, fun q => ⟨lt_of_get q, q⟩⟩
  have := e.length_eq
  rw [used_pages (pgs := pgs) x.paged] at this
  have h2 := tk_fr tk tk.length (Nat.le_refl _)
  unfold frees
  omega
theorem StoreAt.len (x : StoreAt h s b p most next sp st pgs tk os) : os.length ≤ 64 := by have := x.most; omega
theorem t_SNew0 {objects pages : Int} {K : Option Addr × Int → H → Prop} (bad : (objects < 1 ∨ 64 < objects ∨ pages < 1 ∨ 256 < pages) → K (none, 16) h)
    (good : 1 ≤ objects → objects ≤ 64 → 1 ≤ pages → pages ≤ 256 → ∀ s b p sp st h', StoreAt h' s b p objects 1 sp st (List.replicate pages.toNat pg0) (List.replicate pages.toNat false) [] → Keeps h h' → h s = none → h b = none → (∀ c, sp.foot c → h c = none) → (∀ c, st.foot c → h c = none) → h p = none → K (some ⟨s, 0, none⟩, 0) h') : m_store_New objects pages K h := by
  unfold m_store_New
  refine w_if (fun c => bad ?_) fun c => ?_
  · simp only [Bool.or_eq_true, decide_eq_true_eq] at c; omega
  · simp only [Bool.or_eq_false_iff, decide_eq_false_iff_not] at c
    have e : pages = ((pages.toNat : Nat) : Int) := by omega
    have : m_arena_New ((pages.toNat : Nat) : Int) (fun r1 => mIf (!decide (r1.2 = 0)) (K (none, r1.2)) (mMakeMap fun m2 => mNew N_store_Store #[(Value.int .i64 objects), (Value.int .i64 1), (Value.map m2), (Value.pointer r1.1)] fun ad3 => K ((some ad3), 0))) h := by
      refine t_ANew (by omega) fun p sp st h1 x1 k1 fp f1 f2 => w_ifF rfl (w_makeMap (Value.int .i64) S_store_object.val fun b h2 f3 x2 k2 => w_new fun s fs => ?_)
      have k3 : Keeps h2 (upd h2 s (.cells (S_store_Store.cells ⟨objects, 1, some b, some ⟨p, 0, none⟩⟩).toArray N_store_Store (0, 0))) := .new fs
      exact good (by omega) (by omega) (by omega) (by omega) s b p sp st _ ⟨upd_same _ _ _, x2.keep k3, (x1.keep k2).keep k3, fun o ho => (by cases ho), fun o ho => (by cases ho), List.nodup_nil, fun i => (by
        rw [List.getElem?_replicate]; constructor
        · intro q; split at q <;> cases q
        · intro q; cases q), List.Pairwise.nil, fun o ho => (by cases ho), ⟨by omega, by omega⟩, ⟨by simp only [List.length_nil]; omega, by omega⟩⟩ ((k1.trans k2).trans k3) (k1.fresh (k2.fresh fs)) (k1.fresh f3) f1 f2 fp
    rw [← e] at this
    exact this
theorem t_SFree0 (x : StoreAt h s b p most next sp st pgs tk os) {K : Int → H → Prop} (y : ∀ h', Keeps h h' → K ((frees tk : Nat) : Int) h') : m_store_Store_Free (some ⟨s, 0, none⟩) K h := by
  unfold m_store_Store_Free
  exact w_deref (w_load x.f3 (t_AFree x.ar y))
theorem t_SNext0 (x : StoreAt h s b p most next sp st pgs tk os) {K : Int → H → Prop} (y : K next h) : m_store_Store_Next (some ⟨s, 0, none⟩) K h := by
  unfold m_store_Store_Next
  exact w_deref (w_load x.f1 y)
theorem t_SSize0 (x : StoreAt h s b p most next sp st pgs tk os) {id : Int} {K : Int × Bool → H → Prop} (y : K ((((fd os id).map (·.sz)).getD 0 : Nat), (fd os id).isSome) h) : m_store_Store_Size (some ⟨s, 0, none⟩) id K h := by
  unfold m_store_Store_Size
  refine w_deref (w_load x.f2 (w_lookup (keyS (by kernel_rfl)) x.map ?_))
  rw [x.look id]
  cases e : fd os id with
  | none => rw [e] at y; exact y
  | some o => rw [e] at y; exact y
theorem w_paged {n : Nat} (hn : n ≤ 4096) {k : Int → H → Prop} (y : k (((n + 63) / 64 : Nat) : Int) h) : mPure (m_store_paged (n : Int)) k h := by
  refine w_pure (((n + 63) / 64 : Nat) : Int) (fun h' k' q => ?_) y
  unfold m_store_paged
  have e : iSub .i64 (iAdd .i64 (n : Int) 64) 1 = ((n + 63 : Nat) : Int) := by
    rw [iAdd_eq (by omega) (by omega), iSub_eq (by omega) (by omega)]; omega
  rw [e]
  have := iq (n + 63) 64 (by omega)
  rw [show ((64 : Nat) : Int) = 64 from rfl] at this
  rw [this]; exact q
/-- May an object of this size be made? -/
def mayE (most next : Int) (n fr : Nat) (size : Int) : Int := if size < 0 ∨ 4096 < size then 6 else if most ≤ n ∨ 4611686018427387904 < next then 7 else if fr < (size.toNat + 63) / 64 then 8 else 0
theorem t_SMay0 (x : StoreAt h s b p most next sp st pgs tk os) {size : Int} {K : Int → H → Prop} (y : ∀ h', Keeps h h' → K (mayE most next os.length (frees tk) size) h') : m_store_Store_May (some ⟨s, 0, none⟩) size K h := by
  unfold m_store_Store_May
  unfold mayE at y
  have hl := x.len
  refine w_if (fun c => ?_) fun c => ?_
  · have c : size < 0 ∨ 4096 < size := by simpa using c
    simp only [if_pos c] at y
    exact y h (.refl _)
  have c : ¬ (size < 0 ∨ 4096 < size) := by simpa using c
  simp only [if_neg c] at y
  refine w_deref (w_deref (w_load x.f2 (w_mapLen x.map (by rw [List.length_map]; omega) (w_load x.f0 (w_joinV (decide (most ≤ (os.length : Int) ∨ 4611686018427387904 < next)) (fun j hj => ?_) ?_)))))
  · refine w_if' (fun d => ?_) fun d => w_deref (w_load x.f1 ?_)
    · rw [List.length_map] at d
      rw [decide_eq_true (.inl d)] at hj; exact hj
    · rw [List.length_map] at d
      have e : (most ≤ (os.length : Int) ∨ 4611686018427387904 < next) ↔ 4611686018427387904 < next := ⟨fun q => q.resolve_left d, .inr⟩
      rw [decide_eq_decide.2 e] at hj; exact hj
  refine w_if' (fun d => ?_) fun d => ?_
  · simp only [if_pos d] at y
    exact y h (.refl _)
  simp only [if_neg d] at y
  have es : size = ((size.toNat : Nat) : Int) := by omega
  generalize size.toNat = n at es y
  subst es
  refine w_paged (by omega) (w_deref (w_load x.f3 (t_AFree x.ar fun h1 k1 => w_if' (fun e => ?_) fun e => ?_)))
  · have e : ((frees tk : Nat) : Int) < (((n + 63) / 64 : Nat) : Int) := e
    have := y h1 k1
    rw [if_pos (by omega)] at this; exact this
  · have e : ¬ ((frees tk : Nat) : Int) < (((n + 63) / 64 : Nat) : Int) := e
    have := y h1 k1
    rw [if_neg (by omega)] at this; exact this
/-- May so many bytes be moved there? -/
def inR (sz : Nat) (off n : Int) : Prop := 0 ≤ off ∧ 0 ≤ n ∧ n ≤ 1024 ∧ off ≤ sz ∧ n ≤ sz - off
instance (sz : Nat) (off n : Int) : Decidable (inR sz off n) := by unfold inR; infer_instance
theorem t_ranged (x : StoreAt h s b p most next sp st pgs tk os) {id off n : Int} {K : S_store_object × Int → H → Prop} (no : fd os id = none → K (⟨0, Sl.nil⟩, 20) h) (bad : ∀ o, fd os id = some o → ¬ inR o.sz off n → K (⟨0, Sl.nil⟩, 5) h) (good : ∀ o, fd os id = some o → inR o.sz off n → K (obV o, 0) h) :
    m_store_Store_ranged (some ⟨s, 0, none⟩) id off n K h := by
  unfold m_store_Store_ranged
  refine w_deref (w_load x.f2 (w_lookup (keyS (by kernel_rfl)) x.map ?_))
  rw [x.look id]
  cases e : fd os id with
  | none => exact w_ifT rfl (no e)
  | some o =>
    refine w_ifF rfl ?_
    have hs := (x.paged o (fd_mem e).1).2
    show mIf (((((decide (off < 0)) || (decide (n < 0))) || (decide (1024 < n))) || (decide ((o.sz : Int) < off))) || (decide ((iSub .i64 (o.sz : Int) off) < n))) _ (K (obV o, 0)) h
    by_cases hr : inR o.sz off n
    · refine w_ifF ?_ (good o e hr)
      unfold inR at hr
      rw [iSub_eq (by omega) (by omega), decide_eq_false (by omega), decide_eq_false (by omega), decide_eq_false (by omega), decide_eq_false (by omega), decide_eq_false (by omega)]
      rfl
    · refine w_ifT ?_ (bad o e hr)
      unfold inR at hr
      by_cases h1 : off < 0
      · rw [decide_eq_true h1]; simp
      by_cases h2 : (o.sz : Int) < off
      · rw [decide_eq_true h2]; simp
      rw [iSub_eq (by omega) (by omega)]
      simp only [Bool.or_eq_true, decide_eq_true_eq]
      omega
end
end Go.Proofs.Yteeaelemfalkbaa.K
namespace Go.Proofs.Yteeaelemfalkbaa.K
open Go
theorem ir (a k : Nat) : iRem .i64 (a : Int) (k : Int) = ((a % k : Nat) : Int) := rfl
theorem imn (a b : Nat) : iMin (a : Int) (b : Int) = ((min a b : Nat) : Int) := by
  unfold iMin; split <;> omega
theorem cv_Read1 {h : H} {i f a c : Int} {b1 b2 : Addr} {k : Unit → H → Prop} (hm : m_store_Store_Read_1 i f a c b1 b2 k h) : mCallV (T := Unit) Try.prog (fun _ => Value.tuple #[]) (Value.func (.func s_store_Store_Read_1.f) #[] #[(Value.pointer (some b1)), (Value.pointer (some b2))]) [(Value.int .i64 i), (Value.int .i64 f), (Value.int .i64 a), (Value.int .i64 c)] k h := by
  obtain ⟨fn, cal⟩ := s_store_Store_Read_1.callee
  exact ⟨_, fn, #[], _, rfl, cal, s_store_Store_Read_1.ok (i, f, a, c, b1, b2) k h hm⟩
theorem cv_Write1 {h : H} {i f a c : Int} {b1 b2 : Addr} {k : Unit → H → Prop} (hm : m_store_Store_Write_1 i f a c b1 b2 k h) : mCallV (T := Unit) Try.prog (fun _ => Value.tuple #[]) (Value.func (.func s_store_Store_Write_1.f) #[] #[(Value.pointer (some b1)), (Value.pointer (some b2))]) [(Value.int .i64 i), (Value.int .i64 f), (Value.int .i64 a), (Value.int .i64 c)] k h := by
  obtain ⟨fn, cal⟩ := s_store_Store_Write_1.callee
  exact ⟨_, fn, #[], _, rfl, cal, s_store_Store_Write_1.ok (i, f, a, c, b1, b2) k h hm⟩
def cntP (off n a : Nat) : Nat := min (64 - (off + a) % 64) (n - a)
theorem t_pieces {h : H} {o : Ob} {off n : Nat} (I : Nat → H → Prop) (hb : off + n ≤ 64 * o.pg.length) (hsm : o.pg.length ≤ 64) {fv : PV} (rd : ∀ a h, I a h → Buf (cInt .i64) 1 N_int h o.sl (ints o.pg))
    (step : ∀ (a : Nat) (h : H), a < n → I a h → ∀ i : Nat, o.pg[(off + a) / 64]? = some i → ∀ k : H → Prop, (∀ h', I (a + cntP off n a) h' → k h') → mCallV (T := Unit) Try.prog (fun _ => Value.tuple #[]) fv.1 [(Value.int .i64 (i : Int)), (Value.int .i64 ((((off + a) % 64 : Nat) : Int))), (Value.int .i64 (a : Int)), (Value.int .i64 ((cntP off n a : Nat) : Int))] (fun _ => k) h)
    (i0 : I 0 h) {K : Unit → H → Prop} (y : ∀ h', I n h' → K () h') : m_store_object_pieces (obV o) (off : Int) (n : Int) fv K h := by
  unfold m_store_object_pieces
  refine w_loop (fun s => n - s.toNat) (fun s h' => ∃ a : Nat, s = (a : Int) ∧ a ≤ n ∧ I a h') ?_ ⟨0, rfl, Nat.zero_le _, i0⟩
  rintro rec _ h' ⟨a, rfl, ha, hi⟩ more
  refine w_if' (fun c => ?_) fun c => ?_
  · have hlt : a < n := by omega
    have hq : (off + a) / 64 < o.pg.length := by omega
    have e1 := iq (off + a) 64 (by omega)
    have e2 := ir (off + a) 64
    rw [show ((64 : Nat) : Int) = 64 from rfl] at e1 e2
    have hf : (off + a) % 64 < 64 := Nat.mod_lt _ (by omega)
    have e3 := is_ 64 ((off + a) % 64) (by omega) (by omega)
    rw [show ((64 : Nat) : Int) = 64 from rfl] at e3
    have e4 := is_ n a (by omega) ha
    have e5 := imn (64 - (off + a) % 64) (n - a)
    rw [ia off a (by omega), e1, e2, e3, e4, e5]
    have eg : o.pg[(off + a) / 64]? = some o.pg[(off + a) / 64] := List.getElem?_eq_getElem hq
    have eg' : (ints o.pg)[(off + a) / 64]? = some ((o.pg[(off + a) / 64] : Nat) : Int) := by unfold ints; rw [List.getElem?_map, eg]; rfl
    refine w_get ci_len (rd a h' hi).arr eg' rfl (v' := ((o.pg[(off + a) / 64] : Nat) : Int)) rfl ?_
    refine step a h' hlt hi _ eg _ fun h2 i2 => ?_
    show rec (iAdd .i64 (a : Int) ((cntP off n a : Nat) : Int)) h2
    have hc : cntP off n a ≤ n - a ∧ 0 < cntP off n a := by unfold cntP; omega
    rw [ia a _ (by omega)]
    exact more _ _ ⟨a + cntP off n a, rfl, by omega, i2⟩ (by rw [Int.toNat_natCast, Int.toNat_natCast]; omega)
  · obtain rfl : a = n := by omega
    exact y h' hi
section
variable {h : H} {s b p : Nat} {most next : Int} {sp st : Sl} {pgs : List Pg} {tk : List Bool} {os : List Ob}
theorem mem_pg {o : Ob} (ho : o ∈ os) {i : Nat} (hi : i ∈ o.pg) : i ∈ os.flatMap (·.pg) := List.mem_flatMap.2 ⟨o, ho, hi⟩
theorem StoreAt.page (x : StoreAt h s b p most next sp st pgs tk os) {o : Ob} (ho : o ∈ os) {i : Nat} (hi : i ∈ o.pg) : tk[i]? = some true ∧ ∃ v, pgs[i]? = some v ∧ pageB pgs i = v.1 := by
  have h1 := (x.held i).2 (mem_pg ho hi)
  have h2 := lt_of_get h1
  rw [x.ar.len] at h2
  refine ⟨h1, pgs[i], List.getElem?_eq_getElem h2, ?_⟩
  unfold pageB; rw [List.getElem?_eq_getElem h2]; rfl
theorem t_SRead0 (x : StoreAt h s b p most next sp st pgs tk os) {id off n : Int} {K : Sl × Int → H → Prop} (no : fd os id = none → ∀ h', Keeps h h' → K (Sl.nil, 20) h') (bad : ∀ o, fd os id = some o → ¬ inR o.sz off n → ∀ h', Keeps h h' → K (Sl.nil, 5) h')
    (good : ∀ o, fd os id = some o → inR o.sz off n → ∀ sl h', Buf cU8 1 N_u8 h' sl (((obytes pgs o).drop off.toNat).take n.toNat) → Keeps h h' → (∀ c, sl.foot c → h c = none) → K (sl, 0) h') : m_store_Store_Read (some ⟨s, 0, none⟩) id off n K h := by
  unfold m_store_Store_Read
  refine w_new fun b1 hb1 => ?_
  have k1 : Keeps h (upd h b1 (.cells #[Value.pointer (some ⟨s, 0, none⟩)] N_P_store_Store (0, 0))) := .new hb1
  have g1 : At (upd h b1 (.cells #[Value.pointer (some ⟨s, 0, none⟩)] N_P_store_Store (0, 0))) ⟨b1, 0, none⟩ (cPtr (some ⟨s, 0, none⟩)) := At.own (l1 := []) (l3 := []) (upd_same _ _ _) rfl
  refine w_load g1 (t_ranged (x.keep k1) (fun e => w_ifT rfl (no e _ k1)) (fun o e r => w_ifT rfl (bad o e r _ k1)) fun o e r => w_ifF rfl (w_new fun b4 hb4 => ?_))
  obtain ⟨ho, -⟩ := fd_mem e
  obtain ⟨hp1, hp2⟩ := x.paged o ho
  have r' := r
  unfold inR at r'
  have eo : off = ((off.toNat : Nat) : Int) := by omega
  have en : n = ((n.toNat : Nat) : Int) := by omega
  have good' := good o e r
  generalize off.toNat = off' at eo good'
  generalize n.toNat = n' at en good'
  subst eo; subst en
  have hbn : off' + n' ≤ o.sz := by omega
  generalize eh2 : upd (upd h b1 (.cells #[Value.pointer (some ⟨s, 0, none⟩)] N_P_store_Store (0, 0))) b4 (.cells #[Sl.val Sl.nil] 30 (0, 0)) = h2
  have k2 : Keeps h h2 := by subst eh2; exact k1.trans (.new hb4)
  have g12 : At h2 ⟨b1, 0, none⟩ (cPtr (some ⟨s, 0, none⟩)) := by subst eh2; exact g1.keep (.new hb4)
  have ne41 : b1 ≠ b4 := fun q => by subst q; rw [upd_same] at hb4; cases hb4
  have hf4 : h b4 = none := k1.fresh hb4
  refine t_pieces (fun a h' => ∃ so, h' b4 = some (.cells #[Sl.val so] 30 (0, 0)) ∧ Buf cU8 1 N_u8 h' so (((obytes pgs o).drop off').take a) ∧ (∀ c, so.foot c → h c = none ∧ c ≠ b4 ∧ c ≠ b1) ∧ But (fun c => c = b4 ∨ h2 c = none) h2 h' ∧ Keeps h h') (by omega) (by omega) (fun a h' hi => ?_) (fun a h' hlt hi i ei k hk => ?_) ?_ fun h' hi => ?_
  · obtain ⟨so, _, _, _, _, kk⟩ := hi
    exact (x.lists o ho).keep kk
  · obtain ⟨so, q4, bu, fr, bt, kk⟩ := hi
    have xk := x.keep kk
    have him := List.mem_of_getElem? ei
    obtain ⟨ht, v, hv, pv⟩ := x.page ho him
    have ga : At h' ⟨b1, 0, none⟩ (cPtr (some ⟨s, 0, none⟩)) := g12.but bt fun q => by
      rcases q with q | q
      · exact ne41 q
      · subst eh2; rw [upd_ne _ _ ne41, upd_same] at q; cases q
    have hcn : (off' + a) % 64 + cntP off' n' a ≤ 64 := by unfold cntP; omega
    have hca : a + cntP off' n' a ≤ n' := by unfold cntP; omega
    refine cv_Read1 ?_
    unfold m_store_Store_Read_1
    refine w_load ga (w_deref (w_load xk.f3 (t_ARead xk.ar ht hv hcn fun s5 h5 bu5 k5 f5 => ?_)))
    have q45 : h5 b4 = some (.cells #[Sl.val so] 30 (0, 0)) := k5 _ _ q4
    have g5 : At h5 ⟨b4, 0, none⟩ (cSl so) := At.own (l1 := []) (l3 := []) q45 rfl
    refine w_load g5 (w_append (by_ := 1) u8_len u8_plain rfl (bu.keep k5) bu5.arr (.inl (by
      rw [List.length_take, List.length_take]; omega)) fun s6 h6 bu6 b6 f6 d6 => ?_)
    have q46 : h6 b4 = some (.cells #[Sl.val so] 30 (0, 0)) := b6 _ _ q45 fun q => (fr _ q).2.1 rfl
    refine w_store (l1 := []) (l2 := [Sl.val so]) (l3 := []) rfl q46 rfl rfl ?_
    have fr6 : ∀ c, s6.foot c → h c = none ∧ c ≠ b4 ∧ c ≠ b1 := fun c f => by
      rcases f6 c f with q | q
      · exact fr c q
      · refine ⟨kk.fresh (k5.fresh q), fun z => ?_, fun z => ?_⟩
        · subst z; rw [q45] at q; cases q
        · subst z; obtain ⟨_, hq⟩ := (ga.keep k5).ex; rw [q] at hq; cases hq
    refine hk _ ⟨s6, upd_same _ _ _, ?_, fr6, ?_, ?_⟩
    · have e7 : ((obytes pgs o).drop off').take a ++ (v.1.drop ((off' + a) % 64)).take (cntP off' n' a) = ((obytes pgs o).drop off').take (a + cntP off' n' a) := by
        rw [← part_more]
        congr 1
        unfold obytes obig
        rw [part_take (by omega)]
        have e8 : (o.pg.map (pageB pgs))[(off' + a) / 64]? = some v.1 := by rw [List.getElem?_map, ei, Option.map_some, pv]
        have := pages_part (big64 pgs o) (k := (off' + a) / 64) (f := (off' + a) % 64) (c := cntP off' n' a) e8 hcn
        rw [Nat.div_add_mod] at this
        exact this.symm
      rw [e7] at bu6
      exact bu6.but (F := (· = b4)) (.upd rfl) fun c hc q => (fr6 _ ⟨c, hc, rfl⟩).2.1 q
    · refine ((bt.trans (.of k5) fun _ f => .inl f).trans (b6.mono (G := fun c => c = b4 ∨ h2 c = none) fun c f => ?_) fun _ f => .inl f).trans (.upd (F := fun c => c = b4) rfl) fun _ f => .inl (.inl f)
      by_cases z : h2 c = none
      · exact .inr z
      · refine .inl ?_
        subst eh2
        by_cases z4 : c = b4
        · exact z4
        · rw [upd_ne _ _ z4] at z
          exact absurd (by rw [upd_ne _ _ (fr c f).2.2]; exact (fr c f).1) z
    · refine ((kk.trans k5).but b6 fun c f => (fr c f).1).but (.upd (F := fun c => c = b4) rfl) fun c f => by subst f; exact hf4
  · refine ⟨Sl.nil, by subst eh2; exact upd_same _ _ _, Buf.nil, fun c ⟨a, ha, _⟩ => (by cases ha), .refl _ _, k2⟩
  · obtain ⟨so, q4, bu, fr, bt, kk⟩ := hi
    exact w_load (v := so) (At.own (l1 := []) (l3 := []) q4 rfl) (good' so h' bu kk fun c f => (fr c f).1)
end
end Go.Proofs.Yteeaelemfalkbaa.K
namespace Go.Proofs.Yteeaelemfalkbaa.K
open Go
theorem map_set_nodup {β : Type} {f f' : Nat → β} {k i : Nat} : ∀ {l : List Nat}, l.Nodup → l[k]? = some i → (∀ j, j ≠ i → f' j = f j) → l.map f' = (l.map f).set k (f' i) := by
  intro l nd hk hf
  apply List.ext_getElem?
  intro q
  rw [List.getElem?_map, List.getElem?_set, List.getElem?_map, List.length_map]
  by_cases e : k = q
  · subst e
    rw [if_pos rfl, hk, if_pos (lt_of_get hk)]; rfl
  · rw [if_neg e]
    cases hq : l[q]? with
    | none => rfl
    | some j =>
      rw [Option.map_some, Option.map_some, hf j fun z => ?_]
      subst z
      have h1 := lt_of_get hk
      have h2 := lt_of_get hq
      have e1 : l[k] = j := by rw [List.getElem?_eq_getElem h1] at hk; exact Option.some.inj hk
      have e2 : l[q] = j := by rw [List.getElem?_eq_getElem h2] at hq; exact Option.some.inj hq
      rcases Nat.lt_or_gt_of_ne e with z | z
      · exact List.pairwise_iff_getElem.1 nd k q h1 h2 z (e1.trans e2.symm)
      · exact List.pairwise_iff_getElem.1 nd q k h2 h1 z (e2.trans e1.symm)
section
variable {h : H} {s b p : Nat} {most next : Int} {sp st : Sl} {pgs : List Pg} {tk : List Bool} {os : List Ob}
theorem pg_nodup (nd : (os.flatMap (·.pg)).Nodup) {o : Ob} (ho : o ∈ os) : o.pg.Nodup := (List.pairwise_flatMap.1 nd).1 o ho
theorem one_ob (ri : (os.map (·.id)).Pairwise (· < ·)) {o o' : Ob} (ho : o ∈ os) (ho' : o' ∈ os) (e : o.id = o'.id) : o = o' := by
  obtain ⟨i, hi, rfl⟩ := List.getElem_of_mem ho
  obtain ⟨j, hj, rfl⟩ := List.getElem_of_mem ho'
  have hr := List.pairwise_iff_getElem.1 ri
  rcases Nat.lt_trichotomy i j with q | q | q
  · have := hr i j (by simpa using hi) (by simpa using hj) q
    simp only [List.getElem_map] at this; omega
  · subst q; rfl
  · have := hr j i (by simpa using hj) (by simpa using hi) q
    simp only [List.getElem_map] at this; omega
theorem pg_apart (nd : (os.flatMap (·.pg)).Nodup) {o o' : Ob} (ho : o ∈ os) (ho' : o' ∈ os) (e : o.id ≠ o'.id) {k : Nat} (hk : k ∈ o.pg) : k ∉ o'.pg := fun hk' => by
  have hr := List.pairwise_iff_getElem.1 (List.pairwise_flatMap.1 nd).2
  obtain ⟨i, hi, rfl⟩ := List.getElem_of_mem ho
  obtain ⟨j, hj, rfl⟩ := List.getElem_of_mem ho'
  rcases Nat.lt_trichotomy i j with q | q | q
  · exact hr i j hi hj q k hk k hk' rfl
  · subst q; exact e rfl
  · exact hr j i hj hi q k hk' k hk rfl
theorem obig_same {pgs pgs' : List Pg} {o : Ob} (h : ∀ i ∈ o.pg, pgs'[i]? = pgs[i]?) : obig pgs' o = obig pgs o := by
  unfold obig
  congr 1
  refine List.map_congr_left fun i hi => ?_
  unfold pageB; rw [h i hi]
theorem StoreAt.pages (x : StoreAt h s b p most next sp st pgs tk os) {h' : H} {pgs' : List Pg} (ar : ArenaAt h' p sp st pgs' tk) (k : But sp.foot h h') : StoreAt h' s b p most next sp st pgs' tk os :=
  ⟨k _ _ x.cell fun f => (x.ar.pages.typed f).ne (.of x.cell) (by decide) rfl, x.map.but k fun f => x.map.untyped (x.ar.pages.typed f) rfl, ar, fun o ho => (x.lists o ho).but k fun a ha f => (x.ar.pages.typed f).ne ((x.lists o ho).typed ⟨a, ha, rfl⟩) (by decide) rfl, x.paged, x.nodup, x.held, x.rising, x.ids, x.nxt, x.most⟩
theorem t_SWrite0 (x : StoreAt h s b p most next sp st pgs tk os) {id off : Int} {sl : Sl} {d : List UInt8} (ar : Arr cU8 h sl d) (ft : d ≠ [] → ∀ c, sl.foot c → ¬ sp.foot c) {K : Int → H → Prop} (no : fd os id = none → ∀ h', Keeps h h' → K 20 h') (bad : ∀ o, fd os id = some o → ¬ inR o.sz off d.length → ∀ h', Keeps h h' → K 5 h')
    (good : ∀ o, fd os id = some o → inR o.sz off d.length → ∀ h' pgs', StoreAt h' s b p most next sp st pgs' tk os → obytes pgs' o = over (obytes pgs o) off.toNat d → (∀ o' ∈ os, o'.id ≠ id → obytes pgs' o' = obytes pgs o') → But sp.foot h h' → (∀ c, h' c = none → h c = none) → K 0 h') : m_store_Store_Write (some ⟨s, 0, none⟩) id off sl K h := by
  unfold m_store_Store_Write
  refine w_new fun b1 hb1 => w_new fun b2 hb2 => ?_
  generalize eh2 : upd (upd h b1 (.cells #[Value.pointer (some ⟨s, 0, none⟩)] 45 (0, 0))) b2 (.cells #[Sl.val sl] 30 (0, 0)) = h2
  have k1 : Keeps h (upd h b1 (.cells #[Value.pointer (some ⟨s, 0, none⟩)] 45 (0, 0))) := .new hb1
  have k2 : Keeps h h2 := by subst eh2; exact k1.trans (.new hb2)
  have hb2' := k1.fresh hb2
  have g1 : At h2 ⟨b1, 0, none⟩ (cPtr (some ⟨s, 0, none⟩)) := by
    subst eh2
    exact (At.own (l1 := []) (l3 := []) (upd_same _ _ _) rfl : At (upd h b1 (.cells #[Value.pointer (some ⟨s, 0, none⟩)] 45 (0, 0))) ⟨b1, 0, none⟩ (cPtr (some ⟨s, 0, none⟩))).keep (.new hb2)
  have g2 : At h2 ⟨b2, 0, none⟩ (cSl sl) := by subst eh2; exact At.own (l1 := []) (l3 := []) (upd_same _ _ _) rfl
  have hl := ar.len
  have x2 := x.keep k2
  refine w_load g1 (w_load g2 ?_)
  rw [hl]
  refine t_ranged x2 (fun e => w_ifT rfl (no e _ k2)) (fun o e r => w_ifT rfl (bad o e r _ k2)) fun o e r => w_ifF rfl (w_load g2 ?_)
  obtain ⟨ho, hid⟩ := fd_mem e
  obtain ⟨hp1, hp2⟩ := x.paged o ho
  have r' := r
  unfold inR at r'
  have eo : off = ((off.toNat : Nat) : Int) := by omega
  have good' := good o e r
  generalize off.toNat = off' at eo good'
  subst eo
  have hbn : off' + d.length ≤ o.sz := by omega
  rw [hl]
  have nsp : ∀ c, h c = none → ¬ sp.foot c := fun c q f => x.ar.pages.has f q
  refine t_pieces (fun a h' => ∃ pgs', ArenaAt h' p sp st pgs' tk ∧ pgs'.length = pgs.length ∧ (∀ i, i ∉ o.pg → pgs'[i]? = pgs[i]?) ∧ obig pgs' o = over (obig pgs o) off' (d.take a) ∧ But sp.foot h2 h' ∧ ∀ c, h' c = none → h2 c = none) (by omega) (by omega) (fun a h' hi => ?_) (fun a h' hlt hi i ei k hk => ?_) ?_ fun h' hi => ?_
  · obtain ⟨pgs', _, _, _, _, bt, _⟩ := hi
    exact (x2.lists o ho).but bt fun a ha f => (x2.ar.pages.typed f).ne ((x2.lists o ho).typed ⟨a, ha, rfl⟩) (by decide) rfl
  · obtain ⟨pgs', xa, hlen, hoth, hbig, bt, dm⟩ := hi
    have him := List.mem_of_getElem? ei
    obtain ⟨ht, -⟩ := x.page ho him
    have hlt2 : i < pgs'.length := by have := lt_of_get ht; have := xa.len; omega
    have hv : pgs'[i]? = some pgs'[i] := List.getElem?_eq_getElem hlt2
    generalize pgs'[i] = v at hv
    have hcn : (off' + a) % 64 + cntP off' d.length a ≤ 64 := by unfold cntP; omega
    have hca : a + cntP off' d.length a ≤ d.length := by unfold cntP; omega
    have hdl : ((d.drop a).take (cntP off' d.length a)).length = cntP off' d.length a := by rw [List.length_take, List.length_drop]; omega
    have xs : At h' ((⟨s, 0, none⟩ : Addr).add 3) (cPtr (some ⟨p, 0, none⟩)) := (x2.pages xa bt).f3
    refine cv_Write1 ?_
    unfold m_store_Store_Write_1
    refine w_load (g1.but bt (nsp _ hb1)) (w_deref (w_load xs (w_load (g2.but bt (nsp _ hb2')) ?_)))
    rw [ia a _ (by omega)]
    refine w_mid u8_len ((ar.keep k2).but bt fun ne c hc q => ft ne _ ⟨c, hc, rfl⟩ q) (lo := a) (hi := a + cntP off' d.length a) (by omega) hca rfl rfl fun s5 ar5 _ _ _ => ?_
    rw [show a + cntP off' d.length a - a = cntP off' d.length a by omega] at ar5
    refine t_AWrite xa ht hv ar5 (by rw [hdl]; exact hcn) fun h6 xa6 b6 d6 => ?_
    refine hk _ ⟨_, xa6, by rw [List.length_set]; exact hlen, fun j hj => ?_, ?_, bt.trans b6 fun _ f => .inl f, fun c q => dm c (d6 c q)⟩
    · rw [List.getElem?_set, if_neg fun z => hj (by rw [← z]; exact him)]
      exact hoth j hj
    · have hpv : pageB pgs' i = v.1 := by unfold pageB; rw [hv]; rfl
      have e1 : o.pg.map (pageB (pgs'.set i (overP v ((off' + a) % 64) ((d.drop a).take (cntP off' d.length a)) (by rw [hdl]; exact hcn)))) = (o.pg.map (pageB pgs')).set ((off' + a) / 64) (over v.1 ((off' + a) % 64) ((d.drop a).take (cntP off' d.length a))) := by
        rw [map_set_nodup (f := pageB pgs') (pg_nodup x.nodup ho) ei fun j hj => ?_]
        · congr 1
          unfold pageB
          rw [List.getElem?_set, if_pos rfl, if_pos hlt2]; rfl
        · unfold pageB
          rw [List.getElem?_set, if_neg (Ne.symm hj)]
      have e2 : (o.pg.map (pageB pgs'))[(off' + a) / 64]? = some v.1 := by rw [List.getElem?_map, ei, Option.map_some, hpv]
      have e3 := pages_over (big64 pgs' o) (k := (off' + a) / 64) (f := (off' + a) % 64) (d := (d.drop a).take (cntP off' d.length a)) e2 (by rw [hdl]; exact hcn)
      rw [Nat.div_add_mod] at e3
      show (o.pg.map (pageB _)).flatten = _
      rw [e1, e3]
      show over (obig pgs' o) (off' + a) _ = _
      have hta : (d.take a).length = a := by rw [List.length_take]; omega
      have := over_over (l := obig pgs o) (d1 := d.take a) (d2 := (d.drop a).take (cntP off' d.length a)) (off := off') (by rw [hta, hdl, big_len]; omega)
      rw [hta] at this
      rw [hbig, this, List.take_add]
  · exact ⟨pgs, x2.ar, rfl, fun _ _ => rfl, by rw [List.take_zero, over_nil], .refl _ _, fun _ e => e⟩
  · obtain ⟨pgs', xa, hlen, hoth, hbig, bt, dm⟩ := hi
    rw [List.take_length] at hbig
    refine good' h' pgs' (x2.pages xa bt) ?_ (fun o' ho' hne => ?_) (fun c q hc nf => bt c q (k2 c q hc) nf) fun c q => k2.fresh (dm c q)
    · unfold obytes
      rw [hbig, over_take hbn (by rw [big_len]; omega)]
    · unfold obytes
      rw [obig_same fun i hi => hoth i fun hi' => pg_apart x.nodup ho ho' (by rw [hid]; exact Ne.symm hne) hi' hi]
theorem isort_self {l : List Int} (h : l.Pairwise (· < ·)) : isort l = l :=
  rising_eq (isort_rising (h.imp fun q => by omega)) h fun _ => (isort_perm l).mem_iff
theorem t_SIds0 (x : StoreAt h s b p most next sp st pgs tk os) {K : Sl → H → Prop} (y : ∀ s h', Buf (cInt .i64) 1 N_int h' s (os.map (·.id)) → Keeps h h' → (∀ c, s.foot c → h c = none) → K s h') : m_store_Store_Ids (some ⟨s, 0, none⟩) K h := by
  unfold m_store_Store_Ids
  have hlen := x.len
  refine w_deref (w_load x.f2 (w_range x.map fun it h1 f1 it1 k1 => ?_))
  have hne : it.block ≠ b := fun e => by
    obtain ⟨_, _, z, _⟩ := x.map.ex
    rw [e, z] at f1; cases f1
  refine w_for os.length (fun j s h' => ∃ rest at_ ks, IterOf (Value.int .i64) S_store_object.val h' it b (os.map obE) rest at_ ∧ rest.length + j = os.length ∧ ks.length = j ∧ (ks ++ rest.map (·.1)).Perm (os.map (·.id)) ∧ Buf (cInt .i64) 1 N_int h' s ks ∧ (∀ c, s.foot c → h1 c = none) ∧ But (fun c => c = it.block) h1 h' ∧ ∀ c, h' c = none → h1 c = none) ?_ ⟨os.map obE, none, [], it1, by rw [List.length_map]; rfl, rfl, by rw [List.map_map]; exact .refl _, Buf.nil, fun c ⟨a, ha, _⟩ => (by cases ha), .refl _ _, fun _ e => e⟩
  rintro rec j s h2 hj ⟨rest, at_, ks, it2, hl, hk, pk, bu2, fr2, b2, d2⟩ more
  have hit : h1 it.block ≠ none := by
    obtain ⟨_, _, _, _, e, _⟩ := it1.ex; rw [e]; simp
  have hbn : h1 b ≠ none := by
    obtain ⟨_, _, _, _, _, e, _⟩ := it1.ex; rw [e]; simp
  refine w_next it2 hne (fun e => w_ifF rfl ?_) fun q rest' h3 pm it3 b3 d3 => w_ifT rfl (w_entry it3 ?_)
  · subst e
    rw [List.map_nil, List.append_nil] at pk
    refine t_Sort bu2 (by omega) fun h3 bu3 w3 => ?_
    refine y s h3 ?_ ?_ fun c f => k1.fresh (fr2 c f)
    · rw [show (ks.mergeSort fun x y => decide (x ≤ y)) = os.map (·.id) from (isort_eq pk).trans (isort_self x.rising)] at bu3
      exact bu3
    · exact (k1.but b2 fun n e => by subst e; exact f1).but w3.but fun n f => k1.fresh (fr2 n f)
  · have e2 := pm.length_eq
    simp only [List.length_cons] at e2
    have bu3 : Buf (cInt .i64) 1 N_int h3 s ks := bu2.but b3 fun a ha e => hit (fr2 _ ⟨a, ha, e⟩)
    refine w_app (by_ := 8) ci_len rfl bu3 [q.1] rfl rfl (.inl (by simp only [List.length_singleton]; omega)) fun s4 h4 bu4 b4 f4 d4 => ?_
    refine more _ _ (by omega) ⟨rest', some q, ks ++ [q.1], it3.but b4 (fun f => hit (fr2 _ f)) (fun f => hbn (fr2 _ f)), by omega, by simp [hk], ?_, bu4, fun c f => ?_, ?_, fun c e => d2 c (d3 c (d4 c e))⟩
    · refine List.Perm.trans ?_ pk
      rw [List.append_assoc]
      exact List.Perm.append_left ks (show ([q.1] ++ rest'.map (·.1)).Perm (rest.map (·.1)) from (pm.map Prod.fst).symm)
    · rcases f4 c f with z | z
      · exact fr2 c z
      · exact d2 c (d3 c z)
    · refine (b2.trans b3 fun _ f => .inl f).trans b4 fun n f => .inr (fr2 n f)
theorem StoreAt.other (x : StoreAt h s b p most next sp st pgs tk os) {h' : H} {F : Nat → Prop} (k : But F h h') (f : ∀ c, F c → h c ≠ none → c ≠ s ∧ c ≠ b ∧ ¬ sp.foot c ∧ ¬ st.foot c ∧ c ≠ p ∧ ∀ o ∈ os, ¬ o.sl.foot c) : StoreAt h' s b p most next sp st pgs tk os := by
  have k' : But (fun c => F c ∧ h c ≠ none) h h' := fun c q e nf => k c q e fun z => nf ⟨z, by rw [e]; simp⟩
  exact ⟨k' _ _ x.cell fun q => (f _ q.1 q.2).1 rfl, x.map.but k' fun q => (f _ q.1 q.2).2.1 rfl, x.ar.other k' fun c q => ⟨(f _ q.1 q.2).2.2.2.2.1, (f _ q.1 q.2).2.2.1, (f _ q.1 q.2).2.2.2.1⟩,
    fun o ho => (x.lists o ho).but k' fun a ha q => (f _ q.1 q.2).2.2.2.2.2 o ho ⟨a, ha, rfl⟩, x.paged, x.nodup, x.held, x.rising, x.ids, x.nxt, x.most⟩
def setNE (ids : List Int) (n : Int) : Int := if n < 1 ∨ 4611686018427387905 < n then 5 else if ∃ i ∈ ids, n ≤ i then 5 else 0
theorem t_SSetNext0 (x : StoreAt h s b p most next sp st pgs tk os) {n : Int} {K : Int → H → Prop} (bad : setNE (os.map (·.id)) n = 5 → ∀ h', Keeps h h' → K 5 h')
    (good : setNE (os.map (·.id)) n = 0 → ∀ h', StoreAt h' s b p most n sp st pgs tk os → But (· = s) h h' → (∀ c, h' c = none → h c = none) → K 0 h') : m_store_Store_SetNext (some ⟨s, 0, none⟩) n K h := by
  unfold m_store_Store_SetNext
  unfold setNE at bad good
  refine w_if (fun c => ?_) fun c => ?_
  · have c : n < 1 ∨ 4611686018427387905 < n := by simpa using c
    exact bad (if_pos c) h (.refl _)
  have c : ¬ (n < 1 ∨ 4611686018427387905 < n) := by simpa using c
  simp only [if_neg c] at bad good
  refine w_deref (w_load x.f2 (w_range x.map fun it h1 f1 it1 k1 => ?_))
  have hne : it.block ≠ b := fun e => by
    obtain ⟨_, _, z, _⟩ := x.map.ex
    rw [e, z] at f1; cases f1
  refine w_for os.length (fun j _ h' => ∃ rest at_, IterOf (Value.int .i64) S_store_object.val h' it b (os.map obE) rest at_ ∧ rest.length + j = os.length ∧ (∀ q ∈ os.map obE, q ∈ rest ∨ q.1 < n) ∧ (∀ q ∈ rest, q ∈ os.map obE) ∧ But (· = it.block) h1 h') ?_ ⟨os.map obE, none, it1, by rw [List.length_map]; rfl, fun q hq => .inl hq, fun _ hq => hq, .refl _ _⟩
  rintro rec j s2 h2 hj ⟨rest, at_, it2, hl, cov, sub, b2⟩ more
  have k2 : Keeps h h2 := k1.but b2 fun c e => by subst e; exact f1
  refine w_next it2 hne (fun e => w_ifF rfl ?_) fun q rest' h3 pm it3 b3 d3 => w_ifT rfl (w_entry it3 ?_)
  · subst e
    have x2 := x.keep k2
    have nex : ¬ ∃ i ∈ os.map (·.id), n ≤ i := fun ⟨i, hi, hn⟩ => by
      obtain ⟨o, ho, rfl⟩ := List.mem_map.1 hi
      rcases cov _ (List.mem_map_of_mem ho) with z | z
      · cases z
      · have z : o.id < n := z
        omega
    refine w_deref (w_store (l1 := [Value.int .i64 most]) (l2 := [Value.int .i64 next]) (l3 := [Value.map (some b), Value.pointer (some ⟨p, 0, none⟩)]) rfl x2.cell rfl rfl ?_)
    have ty : ∀ {e : TypeId} {c : Nat}, Typed h2 e c → e ≠ N_store_Store → c ≠ s := fun t ne => t.ne (.of x2.cell) ne
    refine good (if_neg nex) _ ⟨upd_same _ _ _, x2.map.but (F := (· = s)) (.upd rfl) fun q => by have := x2.map.untyped (.of x2.cell); omega, x2.ar.other (F := (· = s)) (.upd rfl) fun c q => by
      subst q
      exact ⟨(ty (.of x2.ar.cell) (by decide)).symm, fun f => ty (x2.ar.pages.typed f) (by decide) rfl, fun f => ty (x2.ar.taken.typed f) (by decide) rfl⟩,
      fun o ho => (x2.lists o ho).but (F := (· = s)) (.upd rfl) fun a ha q => ty ((x2.lists o ho).typed ⟨a, ha, rfl⟩) (by decide) q, x.paged, x.nodup, x.held, x.rising, fun o ho => ⟨(x.ids o ho).1, ?_⟩, ⟨by omega, by omega⟩, x.most⟩ ((But.of k2).trans (.upd (F := (· = s)) rfl) fun _ f => .inl f) fun c q => k2.fresh (upd_none.1 q).2
    exact Int.not_le.1 fun z => nex ⟨o.id, List.mem_map_of_mem ho, z⟩
  · refine w_if' (fun d => ?_) fun d => ?_
    · have d : n ≤ q.1 := d
      obtain ⟨o, ho, e⟩ := List.mem_map.1 (sub q (pm.symm.subset (List.mem_cons_self ..)))
      refine bad (if_pos ⟨q.1, ?_, d⟩) h3 (k2.but b3 fun c e => by subst e; exact f1)
      rw [← e]; exact List.mem_map_of_mem ho
    · have d : ¬ n ≤ q.1 := d
      have e2 := pm.length_eq
      simp only [List.length_cons] at e2
      refine more _ _ (by omega) ⟨rest', some q, it3, by omega, fun z hz => ?_, fun z hz => sub z (pm.symm.subset (List.mem_cons_of_mem _ hz)), b2.trans b3 fun _ f => .inl f⟩
      rcases cov z hz with w | w
      · rcases List.mem_cons.1 (pm.subset w) with w | w
        · subst w; exact .inr (by omega)
        · exact .inl w
      · exact .inr w
end
end Go.Proofs.Yteeaelemfalkbaa.K
namespace Go.Proofs.Yteeaelemfalkbaa.K
open Go
theorem aset_new {K V : Type} [DecidableEq K] {l : List (K × V)} {k : K} (h : alook l k = none) (v : V) : aset l k v = l ++ [(k, v)] := by
  unfold aset
  unfold alook at h
  cases e : aidx l k with
  | none => rfl
  | some p => rw [e] at h; cases h
theorem len_some {α β : Type} {a : List α} {b : List β} (h : ∀ i : Nat, a[i]?.isSome = b[i]?.isSome) : a.length = b.length := by
  rcases Nat.lt_trichotomy a.length b.length with q | q | q
  · have := h a.length
    rw [List.getElem?_eq_none (Nat.le_refl _), List.getElem?_eq_getElem q] at this; cases this
  · exact q
  · have := h b.length
    rw [List.getElem?_eq_none (l := b) (Nat.le_refl _), List.getElem?_eq_getElem q] at this; cases this
theorem adel_filter {β : Type} (g : Ob → β) (id : Int) : ∀ os : List Ob, (os.map (·.id)).Pairwise (· < ·) → adel (os.map fun o => (o.id, g o)) id = (os.filter fun q => !decide (q.id = id)).map fun o => (o.id, g o) := by
  intro os
  induction os with
  | nil => intro _; rfl
  | cons o r ih =>
    intro hp
    rw [List.map_cons, List.pairwise_cons] at hp
    rw [List.map_cons, adel_cons]
    by_cases e : id = o.id
    · rw [if_pos e, List.filter_cons, decide_eq_true e.symm]
      have : r.filter (fun q => !decide (q.id = id)) = r := by
        rw [List.filter_eq_self]
        intro q hq
        have := hp.1 q.id (List.mem_map_of_mem hq)
        simp; omega
      rw [this]; rfl
    · rw [if_neg e, ih hp.2, List.filter_cons, decide_eq_false (Ne.symm e)]; rfl
theorem big_zero {pgs : List Pg} : ∀ {l : List Nat}, (∀ i ∈ l, pgs[i]? = some pg0) → (l.map (pageB pgs)).flatten = List.replicate (64 * l.length) 0 := by
  intro l
  induction l with
  | nil => intro _; rfl
  | cons i r ih =>
    intro h
    have h0 : pageB pgs i = List.replicate 64 0 := by unfold pageB; rw [h i (List.mem_cons_self ..)]; rfl
    rw [List.map_cons, List.flatten_cons, ih fun j hj => h j (List.mem_cons_of_mem _ hj), h0, List.replicate_append_replicate, List.length_cons]
    congr 1; omega
section
variable {h : H} {s b p : Nat} {most next : Int} {sp st : Sl} {pgs : List Pg} {tk : List Bool} {os : List Ob}
theorem StoreAt.fresh (x : StoreAt h s b p most next sp st pgs tk os) : fd os next = none := by
  cases e : fd os next with
  | none => rfl
  | some o =>
    obtain ⟨h1, h2⟩ := fd_mem e
    have := (x.ids o h1).2
    omega
theorem t_SCreate0 (x : StoreAt h s b p most next sp st pgs tk os) {size : Int} {K : Int × Int → H → Prop} (bad : mayE most next os.length (frees tk) size ≠ 0 → ∀ h', Keeps h h' → K (0, mayE most next os.length (frees tk) size) h')
    (good : mayE most next os.length (frees tk) size = 0 → ∀ h' pgs' tk' o, StoreAt h' s b p most (next + 1) sp st pgs' tk' (os ++ [o]) → o.id = next → obytes pgs' o = List.replicate size.toNat 0 → (∀ o' ∈ os, obytes pgs' o' = obytes pgs o') → tk'.length = tk.length → (∀ c, o.sl.foot c → h c = none) → But (fun c => c = s ∨ c = b ∨ sp.foot c ∨ st.foot c) h h' → (∀ c, h' c = none → h c = none) → K (next, 0) h') : m_store_Store_Create (some ⟨s, 0, none⟩) size K h := by
  unfold m_store_Store_Create
  refine t_SMay0 x fun h1 k1 => w_if (fun c => ?_) fun c => ?_
  · rw [Bool.not_eq_true', decide_eq_false_iff_not] at c
    exact bad c h1 k1
  rw [Bool.not_eq_false', decide_eq_true_eq] at c
  have good2 := good c
  clear good bad
  have x1 := x.keep k1
  unfold mayE at c
  split at c
  · cases c
  rename_i c1
  split at c
  · cases c
  rename_i c2
  split at c
  · cases c
  rename_i c3
  have es : size = ((size.toNat : Nat) : Int) := by omega
  generalize size.toNat = n at es c3 good2
  subst es
  refine w_deref (w_paged (by omega) (w_load x1.f3 (t_ATake x1.ar (n := (n + 63) / 64) (by omega) fun sl h2 ps pgs2 tk2 xa bu fr ch hpl hnd hfr tkk => w_ifF rfl ?_)))
  have ty1 : ∀ c, (sp.foot c ∨ st.foot c) → ∀ {e : TypeId} {d : Nat}, Typed h1 e d → e ≠ N_arena_page → e ≠ N_bool → c ≠ d := fun c f e d t n1 n2 => by
    rcases f with f | f
    · exact (x1.ar.pages.typed f).ne t (Ne.symm n1)
    · exact (x1.ar.taken.typed f).ne t (Ne.symm n2)
  have cell2 := ch.but _ _ x1.cell fun f => ty1 _ f (.of x1.cell) (by decide) (by decide) rfl
  have map2 := x1.map.but ch.but fun f => by
    rcases f with f | f
    · exact x1.map.untyped (x1.ar.pages.typed f) rfl
    · exact x1.map.untyped (x1.ar.taken.typed f) rfl
  have g1 : At h2 ((⟨s, 0, none⟩ : Addr).add 1) (cInt .i64 next) := At.own (l1 := (S_store_Store.cells ⟨most, next, some b, some ⟨p, 0, none⟩⟩).take 1) (l3 := (S_store_Store.cells ⟨most, next, some b, some ⟨p, 0, none⟩⟩).drop 2) cell2 rfl
  have g2 : At h2 ((⟨s, 0, none⟩ : Addr).add 2) (cMap (some b)) := At.own (l1 := (S_store_Store.cells ⟨most, next, some b, some ⟨p, 0, none⟩⟩).take 2) (l3 := (S_store_Store.cells ⟨most, next, some b, some ⟨p, 0, none⟩⟩).drop 3) cell2 rfl
  refine w_deref (w_load g1 (w_deref (w_load g2 (w_mapSet (v := obV ⟨next, sl, n, ps⟩) (keyS (by kernel_rfl)) map2 rfl rfl fun h3 map3 b3 d3 => ?_))))
  have nsb : s ≠ b := map2.untyped (.of cell2)
  have cell3 := b3 _ _ cell2 nsb
  have g3 : At h3 ((⟨s, 0, none⟩ : Addr).add 1) (cInt .i64 next) := At.own (l1 := (S_store_Store.cells ⟨most, next, some b, some ⟨p, 0, none⟩⟩).take 1) (l3 := (S_store_Store.cells ⟨most, next, some b, some ⟨p, 0, none⟩⟩).drop 2) cell3 rfl
  have hn := x.nxt
  refine w_deref (w_load g3 (w_deref ?_))
  rw [iAdd_eq (by omega) (by omega)]
  refine w_store (l1 := [Value.int .i64 most]) (l2 := [Value.int .i64 next]) (l3 := [Value.map (some b), Value.pointer (some ⟨p, 0, none⟩)]) rfl cell3 rfl rfl ?_
  rw [aset_new (by rw [x.look, x.fresh]; rfl)] at map3
  have nm : ∀ {e : TypeId} {c : Nat}, Typed h2 e c → c ≠ b := fun t => map2.untyped t
  have xa3 : ArenaAt h3 p sp st pgs2 tk2 := xa.other b3 fun c q => by
    subst q
    exact ⟨(nm (.of xa.cell)).symm, fun f => nm (xa.pages.typed f) rfl, fun f => nm (xa.taken.typed f) rfl⟩
  have ty3 : ∀ {e : TypeId} {c : Nat}, Typed h3 e c → e ≠ N_store_Store → c ≠ s := fun t ne => t.ne (.of cell3) ne
  have upS : ∀ o : Obj, But (· = s) h3 (upd h3 s o) := fun o => .upd rfl
  have xa4 := fun o => xa3.other (upS o) fun c q => by
    subst q
    exact ⟨(ty3 (.of xa3.cell) (by decide)).symm, fun f => ty3 (xa3.pages.typed f) (by decide) rfl, fun f => ty3 (xa3.taken.typed f) (by decide) rfl⟩
  have hold : ∀ i : Nat, i ∈ os.flatMap (·.pg) → i ∉ ps := fun i hi hp => by
    have := hfr i hp
    rw [(x.held i).2 hi] at this; cases this
  have hfm : (os ++ [(⟨next, sl, n, ps⟩ : Ob)]).flatMap (·.pg) = os.flatMap (·.pg) ++ ps := by rw [List.flatMap_append]; simp
  refine good2 _ pgs2 tk2 ⟨next, sl, n, ps⟩ ⟨upd_same _ _ _, ?_, xa4 _, fun o ho => ?_, fun o ho => ?_, ?_, fun i => ?_, ?_, fun o ho => ?_, ⟨by omega, by omega⟩, ?_⟩ rfl ?_ (fun o ho => ?_) ?_ (fun c f => k1.fresh (fr c f)) ?_ ?_
  · rw [List.map_append]
    exact map3.but (upS _) fun q => map3.untyped (.of cell3) q.symm
  · have old : ∀ o ∈ os, Buf (cInt .i64) 1 N_int h2 o.sl (ints o.pg) := fun o ho => (x1.lists o ho).but ch.but fun a ha f => ty1 _ f ((x1.lists o ho).typed ⟨a, ha, rfl⟩) (by decide) (by decide) rfl
    have all : Buf (cInt .i64) 1 N_int h2 o.sl (ints o.pg) := by
      rcases List.mem_append.1 ho with q | q
      · exact old o q
      · obtain rfl := List.mem_singleton.1 q
        exact bu
    have all3 := all.but b3 fun a ha q => nm (all.typed ⟨a, ha, rfl⟩) q
    exact all3.but (upS _) fun a ha q => ty3 (all3.typed ⟨a, ha, rfl⟩) (by decide) q
  · rcases List.mem_append.1 ho with q | q
    · exact x.paged o q
    · obtain rfl := List.mem_singleton.1 q
      exact ⟨hpl, by show n ≤ 4096; omega⟩
  · rw [hfm, List.nodup_append]
    exact ⟨x.nodup, hnd, fun i hi j hj e => hold i hi (e ▸ hj)⟩
  · rw [hfm, List.mem_append, tkk.tk i]
    constructor
    · intro q
      split at q
      · rename_i z; exact .inr z
      · exact .inl ((x.held i).1 q)
    · rintro (q | q)
      · rw [if_neg (hold i q)]; exact (x.held i).2 q
      · rw [if_pos q]
  · rw [List.map_append, List.pairwise_append]
    refine ⟨x.rising, List.pairwise_singleton _ _, fun a ha c hc => ?_⟩
    obtain ⟨o, ho, rfl⟩ := List.mem_map.1 ha
    obtain rfl := List.mem_singleton.1 hc
    exact (x.ids o ho).2
  · rcases List.mem_append.1 ho with q | q
    · have := x.ids o q; exact ⟨this.1, by omega⟩
    · obtain rfl := List.mem_singleton.1 q
      exact ⟨hn.1, by show next < next + 1; omega⟩
  · have := x.most
    rw [List.length_append, List.length_singleton]; omega
  · show (((ps.map (pageB pgs2)).flatten).take n) = _
    rw [big_zero fun i hi => by rw [tkk.pg i, if_pos hi], hpl, List.take_replicate]
    congr 1; omega
  · unfold obytes
    rw [obig_same (pgs := pgs) (pgs' := pgs2) (o := o) fun i hi => by rw [tkk.pg i, if_neg (hold i (mem_pg ho hi))]]
  · refine len_some fun i => ?_
    rw [tkk.tk i]
    split
    · rename_i z; rw [hfr i z]; rfl
    · rfl
  · intro c q e nf
    refine upS _ _ _ (b3 _ _ (ch.but _ _ (k1 _ _ e) fun f => nf ?_) fun f => nf (.inr (.inl f))) fun f => nf (.inl f)
    rcases f with f | f
    · exact .inr (.inr (.inl f))
    · exact .inr (.inr (.inr f))
  · exact fun c q => k1.fresh (ch.dom c (d3 c (upd_none.1 q).2))
theorem t_SDestroy0 (x : StoreAt h s b p most next sp st pgs tk os) {id : Int} {K : Int → H → Prop} (no : fd os id = none → K 20 h)
    (good : ∀ o, fd os id = some o → ∀ h' tk', StoreAt h' s b p most next sp st pgs tk' (os.filter fun q => !decide (q.id = id)) → tk'.length = tk.length → But (fun c => c = b ∨ st.foot c) h h' → (∀ c, h' c = none → h c = none) → K 0 h') : m_store_Store_Destroy (some ⟨s, 0, none⟩) id K h := by
  unfold m_store_Store_Destroy
  refine w_deref (w_load x.f2 (w_lookup (keyS (by kernel_rfl)) x.map ?_))
  rw [x.look id]
  cases e : fd os id with
  | none => exact w_ifT rfl (no e)
  | some o =>
    have good := good o e
    obtain ⟨ho, hid⟩ := fd_mem e
    have hpp := x.paged o ho
    refine w_ifF rfl (w_deref (w_load x.f3 (t_AGive x.ar (x.lists o ho) (pg_nodup x.nodup ho) (fun i hi => (x.held i).2 (mem_pg ho hi)) (by omega) fun h1 tk1 xa tt b1 d1 => ?_)))
    have nt : ∀ {e : TypeId} {d : Nat}, Typed h e d → e ≠ N_bool → ¬ st.foot d := fun t n1 f => (x.ar.taken.typed f).ne t (Ne.symm n1) rfl
    have cell1 := b1 _ _ x.cell (nt (.of x.cell) (by decide))
    have map1 := x.map.but b1 fun f => x.map.untyped (x.ar.taken.typed f) rfl
    have g2 : At h1 ((⟨s, 0, none⟩ : Addr).add 2) (cMap (some b)) := At.own (l1 := (S_store_Store.cells ⟨most, next, some b, some ⟨p, 0, none⟩⟩).take 2) (l3 := (S_store_Store.cells ⟨most, next, some b, some ⟨p, 0, none⟩⟩).drop 3) cell1 rfl
    refine w_deref (w_load g2 (w_mapDel (keyS (by kernel_rfl)) map1 rfl fun h2 map2 b2 d2 => ?_))
    have map2 : MapOf (Value.int .i64) S_store_object.val h2 b (adel (os.map fun o => (o.id, obV o)) id) := map2
    rw [adel_filter obV id os x.rising] at map2
    have nm : ∀ {e : TypeId} {c : Nat}, Typed h1 e c → c ≠ b := fun t => map1.untyped t
    have sub : ∀ q ∈ os.filter (fun q => !decide (q.id = id)), q ∈ os ∧ q.id ≠ id := fun q hq => by
      rw [List.mem_filter] at hq
      exact ⟨hq.1, by simpa using hq.2⟩
    refine good h2 tk1 ⟨b2 _ _ cell1 (nm (.of cell1)), map2, xa.other b2 fun c q => by
      subst q
      exact ⟨(nm (.of xa.cell)).symm, fun f => nm (xa.pages.typed f) rfl, fun f => nm (xa.taken.typed f) rfl⟩, fun q hq => ?_, fun q hq => x.paged q (sub q hq).1, ?_, fun i => ?_, ?_, fun q hq => x.ids q (sub q hq).1, x.nxt, ?_⟩ ?_ ?_ fun c q => d1 c (d2 c q)
    · have l0 := x.lists q (sub q hq).1
      have l1 := l0.but b1 fun a ha f => nt (l0.typed ⟨a, ha, rfl⟩) (by decide) f
      exact l1.but b2 fun a ha z => nm (l1.typed ⟨a, ha, rfl⟩) z
    · refine List.pairwise_flatMap.2 ⟨fun q hq => pg_nodup x.nodup (sub q hq).1, (List.pairwise_flatMap.1 x.nodup).2.sublist List.filter_sublist⟩
    · rw [tt i]
      constructor
      · intro q
        split at q
        · cases q
        · rename_i z
          obtain ⟨o', ho', hi'⟩ := List.mem_flatMap.1 ((x.held i).1 q)
          refine List.mem_flatMap.2 ⟨o', List.mem_filter.2 ⟨ho', ?_⟩, hi'⟩
          rw [Bool.not_eq_true', decide_eq_false_iff_not]
          intro w
          obtain rfl := one_ob x.rising ho' ho (w.trans hid.symm)
          exact z hi'
      · intro q
        obtain ⟨o', ho', hi'⟩ := List.mem_flatMap.1 q
        obtain ⟨m1, m2⟩ := sub o' ho'
        rw [if_neg (pg_apart x.nodup m1 ho (by rw [hid]; exact m2) hi')]
        exact (x.held i).2 (mem_pg m1 hi')
    · exact x.rising.sublist (List.filter_sublist.map _)
    · have := x.most
      have := List.length_filter_le (fun q : Ob => !decide (q.id = id)) os
      omega
    · refine len_some fun i => ?_
      rw [tt i]
      split
      · rename_i z; rw [(x.held i).2 (mem_pg ho z)]; rfl
      · rfl
    · exact (b1.mono fun _ f => .inr f).trans b2 fun _ f => .inl (.inl f)
end
end Go.Proofs.Yteeaelemfalkbaa.K
namespace Go.Proofs.Yteeaelemfalkbaa.K
open Go
/-- A store: its blocks 'F' that it writes, its blocks 'P' that it but reads, its bounds, the next number, its objects in the order of their numbers. -/
structure SAt (h : H) (s : Nat) (F P : Nat → Prop) (most : Int) (np : Nat) (next : Int) (L : List (Int × List UInt8)) : Prop where
  ex : ∃ b p sp st pgs tk os, StoreAt h s b p most next sp st pgs tk os ∧ tk.length = np ∧ L = absS pgs os ∧ (∀ c, F c ↔ (c = s ∨ c = b ∨ sp.foot c ∨ st.foot c)) ∧ ∀ c, P c ↔ (c = p ∨ ∃ o ∈ os, o.sl.foot c)
/-- What a change of a store writes. -/
structure SChg (F : Nat → Prop) (h h' : H) : Prop where
  but : But F h h'
  dom : ∀ c, h' c = none → h c = none
theorem SChg.refl (F : Nat → Prop) (h : H) : SChg F h h := ⟨.refl _ _, fun _ e => e⟩
theorem SChg.keeps {F : Nat → Prop} {h h' : H} (k : Keeps h h') : SChg F h h' := ⟨.of k, fun _ e => k.fresh e⟩
theorem SChg.trans {F : Nat → Prop} {h h1 h2 : H} (x : SChg F h h1) (y : SChg F h1 h2) : SChg F h h2 := ⟨x.but.trans y.but fun _ f => .inl f, fun c e => x.dom c (y.dom c e)⟩
theorem look_abs {pgs : List Pg} {os : List Ob} {id : Int} : alook (absS pgs os) id = (fd os id).map (obytes pgs) := look_map (obytes pgs) id os
section
variable {h : H} {s : Nat} {F P : Nat → Prop} {most : Int} {np : Nat} {next : Int} {L : List (Int × List UInt8)}
theorem SAt.keep (x : SAt h s F P most np next L) {h' : H} (k : Keeps h h') : SAt h' s F P most np next L := by
  obtain ⟨b, p, sp, st, pgs, tk, os, y, r⟩ := x.ex
  exact ⟨b, p, sp, st, pgs, tk, os, y.keep k, r⟩
theorem SAt.other (x : SAt h s F P most np next L) {h' : H} {G : Nat → Prop} (k : But G h h') (f : ∀ c, G c → h c ≠ none → ¬ F c ∧ ¬ P c) : SAt h' s F P most np next L := by
  obtain ⟨b, p, sp, st, pgs, tk, os, y, e1, e2, e3, e4⟩ := x.ex
  refine ⟨b, p, sp, st, pgs, tk, os, y.other k fun c q hc => ?_, e1, e2, e3, e4⟩
  obtain ⟨f1, f2⟩ := f c q hc
  rw [e3] at f1
  rw [e4] at f2
  simp only [not_or] at f1 f2
  exact ⟨f1.1, f1.2.1, f1.2.2.1, f1.2.2.2, f2.1, fun o ho z => f2.2 ⟨o, ho, z⟩⟩
theorem SAt.has (x : SAt h s F P most np next L) {c : Nat} (f : F c) : h c ≠ none := by
  obtain ⟨b, p, sp, st, pgs, tk, os, y, e1, e2, e3, e4⟩ := x.ex
  rcases (e3 c).1 f with rfl | rfl | q | q
  · rw [y.cell]; simp
  · obtain ⟨_, _, z, _⟩ := y.map.ex; rw [z]; simp
  · exact y.ar.pages.has q
  · exact y.ar.taken.has q
theorem SAt.kinds (x : SAt h s F P most np next L) {c : Nat} (f : F c) {e : TypeId} (t : Typed h e c) : e = N_store_Store ∨ e = N_arena_page ∨ e = N_bool := by
  obtain ⟨b, p, sp, st, pgs, tk, os, y, e1, e2, e3, e4⟩ := x.ex
  rcases (e3 c).1 f with rfl | rfl | q | q
  · exact Classical.byContradiction fun n => t.ne (.of y.cell) (fun z => n (.inl z)) rfl
  · exact absurd rfl (y.map.untyped t)
  · exact Classical.byContradiction fun n => t.ne (y.ar.pages.typed q) (fun z => n (.inr (.inl z))) rfl
  · exact Classical.byContradiction fun n => t.ne (y.ar.taken.typed q) (fun z => n (.inr (.inr z))) rfl
theorem SAt.hasP (x : SAt h s F P most np next L) {c : Nat} (f : P c) : Typed h N_arena_Arena c ∨ Typed h N_int c := by
  obtain ⟨b, p, sp, st, pgs, tk, os, y, e1, e2, e3, e4⟩ := x.ex
  rcases (e4 c).1 f with rfl | ⟨o, ho, q⟩
  · exact .inl (.of y.ar.cell)
  · exact .inr ((y.lists o ho).typed q)
theorem SAt.notP (x : SAt h s F P most np next L) {c : Nat} {e : TypeId} (t : Typed h e c) (n : e ≠ N_arena_Arena ∧ e ≠ N_int) : ¬ P c := fun f => by
  rcases x.hasP f with q | q
  · exact t.ne q n.1 rfl
  · exact t.ne q n.2 rfl
theorem SAt.not (x : SAt h s F P most np next L) {c : Nat} {e : TypeId} (t : Typed h e c) (n : e ≠ N_store_Store ∧ e ≠ N_arena_page ∧ e ≠ N_bool) : ¬ F c := fun f => by
  rcases x.kinds f t with q | q | q
  · exact n.1 q
  · exact n.2.1 q
  · exact n.2.2 q
/-- What holds of the numbers and sizes. -/
structure SLaw (most : Int) (np : Nat) (next : Int) (L : List (Int × List UInt8)) : Prop where
  rising : (L.map (·.1)).Pairwise (· < ·)
  ids : ∀ q ∈ L, 1 ≤ q.1 ∧ q.1 < next
  sizes : ∀ q ∈ L, q.2.length ≤ 4096
  used : usedS L ≤ np
  nxt : 1 ≤ next ∧ next ≤ 4611686018427387905
  most : (L.length : Int) ≤ most ∧ most ≤ 64
  np : np ≤ 256
theorem SAt.law (x : SAt h s F P most np next L) : SLaw most np next L := by
  obtain ⟨b, p, sp, st, pgs, tk, os, y, rfl, rfl, e3, e4⟩ := x.ex
  refine ⟨?_, fun q hq => ?_, fun q hq => ?_, y.free.2, y.nxt, by unfold absS; rw [List.length_map]; exact y.most, by rw [y.ar.len]; exact y.ar.small⟩
  · unfold absS; rw [List.map_map]; exact y.rising
  · obtain ⟨o, ho, rfl⟩ := List.mem_map.1 hq
    exact y.ids o ho
  · obtain ⟨o, ho, rfl⟩ := List.mem_map.1 hq
    show (obytes pgs o).length ≤ 4096
    rw [ob_len (y.paged o ho).1]; exact (y.paged o ho).2
theorem t_SNew {objects pages : Int} {K : Option Addr × Int → H → Prop} (bad : (objects < 1 ∨ 64 < objects ∨ pages < 1 ∨ 256 < pages) → K (none, 16) h)
    (good : 1 ≤ objects → objects ≤ 64 → 1 ≤ pages → pages ≤ 256 → ∀ s F P h', SAt h' s F P objects pages.toNat 1 [] → Keeps h h' → (∀ c, F c → h c = none) → (∀ c, P c → h c = none) → K (some ⟨s, 0, none⟩, 0) h') : m_store_New objects pages K h :=
  t_SNew0 bad fun g1 g2 g3 g4 s b p sp st h' x k f1 f2 f3 f4 f5 => good g1 g2 g3 g4 s (fun c => c = s ∨ c = b ∨ sp.foot c ∨ st.foot c) (fun c => c = p) h' ⟨b, p, sp, st, _, _, [], x, List.length_replicate, rfl, fun _ => Iff.rfl, fun c => by simp⟩ k (fun c f => by
    rcases f with rfl | rfl | f | f
    · exact f1
    · exact f2
    · exact f3 c f
    · exact f4 c f) fun c f => by subst f; exact f5
theorem t_SFree (x : SAt h s F P most np next L) {K : Int → H → Prop} (y : ∀ h', Keeps h h' → K ((np - usedS L : Nat) : Int) h') : m_store_Store_Free (some ⟨s, 0, none⟩) K h := by
  obtain ⟨b, p, sp, st, pgs, tk, os, z, rfl, rfl, e3, e4⟩ := x.ex
  refine t_SFree0 z fun h' k => ?_
  rw [z.free.1]; exact y h' k
theorem t_SNext (x : SAt h s F P most np next L) {K : Int → H → Prop} (y : K next h) : m_store_Store_Next (some ⟨s, 0, none⟩) K h := by
  obtain ⟨b, p, sp, st, pgs, tk, os, z, rfl, rfl, e3, e4⟩ := x.ex
  exact t_SNext0 z y
theorem t_SSize (x : SAt h s F P most np next L) {id : Int} {K : Int × Bool → H → Prop} (y : K ((((alook L id).map (·.length)).getD 0 : Nat), (alook L id).isSome) h) : m_store_Store_Size (some ⟨s, 0, none⟩) id K h := by
  obtain ⟨b, p, sp, st, pgs, tk, os, z, rfl, rfl, e3, e4⟩ := x.ex
  refine t_SSize0 z ?_
  rw [look_abs] at y
  cases e : fd os id with
  | none => rw [e] at y; exact y
  | some o =>
    rw [e] at y
    have := ob_len (pgs := pgs) (z.paged o (fd_mem e).1).1
    simp only [Option.map_some, Option.getD_some, this] at y
    exact y
theorem t_SMay (x : SAt h s F P most np next L) {size : Int} {K : Int → H → Prop} (y : ∀ h', Keeps h h' → K (mayE most next L.length (np - usedS L) size) h') : m_store_Store_May (some ⟨s, 0, none⟩) size K h := by
  obtain ⟨b, p, sp, st, pgs, tk, os, z, rfl, rfl, e3, e4⟩ := x.ex
  refine t_SMay0 z fun h' k => ?_
  have := y h' k
  unfold absS at this
  rw [List.length_map] at this
  rw [z.free.1]; exact this
theorem t_SCreate (x : SAt h s F P most np next L) {size : Int} {K : Int × Int → H → Prop} (bad : mayE most next L.length (np - usedS L) size ≠ 0 → ∀ h', Keeps h h' → K (0, mayE most next L.length (np - usedS L) size) h')
    (good : mayE most next L.length (np - usedS L) size = 0 → ∀ h' P', SAt h' s F P' most np (next + 1) (L ++ [(next, List.replicate size.toNat 0)]) → (∀ c, P' c → P c ∨ h c = none) → SChg F h h' → K (next, 0) h') : m_store_Store_Create (some ⟨s, 0, none⟩) size K h := by
  obtain ⟨b, p, sp, st, pgs, tk, os, z, rfl, rfl, e3, e4⟩ := x.ex
  have el : (absS pgs os).length = os.length := List.length_map ..
  rw [el, ← z.free.1] at bad good
  refine t_SCreate0 z bad fun e h' pgs' tk' o z' hid hz hs ht fo bt d => good e h' (fun c => P c ∨ o.sl.foot c) ⟨b, p, sp, st, pgs', tk', _, z', ht, ?_, e3, fun c => ?_⟩ (fun c q => q.imp id (fo c)) ⟨bt.mono fun c q => (e3 c).2 q, d⟩
  rotate_left
  · rw [e4 c]
    constructor
    · rintro ((q | ⟨o', ho', q⟩) | q)
      · exact .inl q
      · exact .inr ⟨o', List.mem_append_left _ ho', q⟩
      · exact .inr ⟨o, List.mem_append_right _ (List.mem_singleton.2 rfl), q⟩
    · rintro (q | ⟨o', ho', q⟩)
      · exact .inl (.inl q)
      · rcases List.mem_append.1 ho' with w | w
        · exact .inl (.inr ⟨o', w, q⟩)
        · obtain rfl := List.mem_singleton.1 w
          exact .inr q
  unfold absS
  rw [List.map_append, List.map_cons, List.map_nil, hid, hz]
  congr 1
  exact List.map_congr_left fun o' ho' => by rw [hs o' ho']
def delL (L : List (Int × List UInt8)) (id : Int) : List (Int × List UInt8) := L.filter fun p => !decide (p.1 = id)
theorem t_SDestroy (x : SAt h s F P most np next L) {id : Int} {K : Int → H → Prop} (no : alook L id = none → K 20 h) (good : ∀ bs, alook L id = some bs → ∀ h' P', SAt h' s F P' most np next (delL L id) → (∀ c, P' c → P c) → SChg F h h' → K 0 h') : m_store_Store_Destroy (some ⟨s, 0, none⟩) id K h := by
  obtain ⟨b, p, sp, st, pgs, tk, os, z, rfl, rfl, e3, e4⟩ := x.ex
  rw [look_abs] at no good
  refine t_SDestroy0 z (fun e => no (by rw [e]; rfl)) fun o e h' tk' z' ht bt d => good (obytes pgs o) (by rw [e]; rfl) h' (fun c => c = p ∨ ∃ o ∈ os.filter (fun q => !decide (q.id = id)), o.sl.foot c) ⟨b, p, sp, st, pgs, tk', _, z', ht, ?_, e3, fun _ => Iff.rfl⟩ (fun c q => (e4 c).2 (q.imp (fun z => z) fun ⟨o', ho', w⟩ => ⟨o', (List.mem_filter.1 ho').1, w⟩)) ⟨bt.mono fun c q => (e3 c).2 ?_, d⟩
  · unfold delL absS
    rw [List.filter_map]; rfl
  · rcases q with q | q
    · exact .inr (.inl q)
    · exact .inr (.inr (.inr q))
theorem t_SRead (x : SAt h s F P most np next L) {id off n : Int} {K : Sl × Int → H → Prop} (no : alook L id = none → ∀ h', Keeps h h' → K (Sl.nil, 20) h') (bad : ∀ bs, alook L id = some bs → ¬ inR bs.length off n → ∀ h', Keeps h h' → K (Sl.nil, 5) h')
    (good : ∀ bs, alook L id = some bs → inR bs.length off n → ∀ sl h', Buf cU8 1 N_u8 h' sl ((bs.drop off.toNat).take n.toNat) → Keeps h h' → (∀ c, sl.foot c → h c = none) → K (sl, 0) h') : m_store_Store_Read (some ⟨s, 0, none⟩) id off n K h := by
  obtain ⟨b, p, sp, st, pgs, tk, os, z, rfl, rfl, e3, e4⟩ := x.ex
  rw [look_abs] at no bad good
  refine t_SRead0 z (fun e => no (by rw [e]; rfl)) (fun o e r => bad (obytes pgs o) (by rw [e]; rfl) ?_) fun o e r => good (obytes pgs o) (by rw [e]; rfl) ?_
  · rw [ob_len (z.paged o (fd_mem e).1).1]; exact r
  · rw [ob_len (z.paged o (fd_mem e).1).1]; exact r
def wrL (L : List (Int × List UInt8)) (id : Int) (off : Nat) (d : List UInt8) : List (Int × List UInt8) := L.map fun p => if p.1 = id then (p.1, over p.2 off d) else p
theorem t_SWrite (x : SAt h s F P most np next L) {id off : Int} {sl : Sl} {d : List UInt8} (ar : Arr cU8 h sl d) (ft : d ≠ [] → ∀ c, sl.foot c → ¬ F c) {K : Int → H → Prop} (no : alook L id = none → ∀ h', Keeps h h' → K 20 h') (bad : ∀ bs, alook L id = some bs → ¬ inR bs.length off d.length → ∀ h', Keeps h h' → K 5 h')
    (good : ∀ bs, alook L id = some bs → inR bs.length off d.length → ∀ h', SAt h' s F P most np next (wrL L id off.toNat d) → SChg F h h' → K 0 h') : m_store_Store_Write (some ⟨s, 0, none⟩) id off sl K h := by
  obtain ⟨b, p, sp, st, pgs, tk, os, z, rfl, rfl, e3, e4⟩ := x.ex
  rw [look_abs] at no bad good
  refine t_SWrite0 z ar (fun ne c f q => ft ne c f ((e3 c).2 (.inr (.inr (.inl q))))) (fun e => no (by rw [e]; rfl)) (fun o e r => bad (obytes pgs o) (by rw [e]; rfl) ?_) fun o e r h' pgs' z' ho hs bt d => good (obytes pgs o) (by rw [e]; rfl) ?_ h' ⟨b, p, sp, st, pgs', tk, os, z', rfl, ?_, e3, e4⟩ ⟨bt.mono fun c q => (e3 c).2 (.inr (.inr (.inl q))), d⟩
  · rw [ob_len (z.paged o (fd_mem e).1).1]; exact r
  · rw [ob_len (z.paged o (fd_mem e).1).1]; exact r
  · unfold wrL absS
    rw [List.map_map]
    refine List.map_congr_left fun o' ho' => ?_
    show (if o'.id = id then (o'.id, over (obytes pgs o') off.toNat _) else (o'.id, obytes pgs o')) = (o'.id, obytes pgs' o')
    obtain ⟨h1, h2⟩ := fd_mem e
    by_cases q : o'.id = id
    · obtain rfl := one_ob z.rising ho' h1 (q.trans h2.symm)
      rw [if_pos q, ho]
    · rw [if_neg q, hs o' ho' q]
theorem t_SIds (x : SAt h s F P most np next L) {K : Sl → H → Prop} (y : ∀ sl h', Buf (cInt .i64) 1 N_int h' sl (L.map (·.1)) → Keeps h h' → (∀ c, sl.foot c → h c = none) → K sl h') : m_store_Store_Ids (some ⟨s, 0, none⟩) K h := by
  obtain ⟨b, p, sp, st, pgs, tk, os, z, rfl, rfl, e3, e4⟩ := x.ex
  refine t_SIds0 z fun sl h' bu => y sl h' ?_
  unfold absS; rw [List.map_map]; exact bu
theorem t_SSetNext (x : SAt h s F P most np next L) {n : Int} {K : Int → H → Prop} (bad : setNE (L.map (·.1)) n = 5 → ∀ h', Keeps h h' → K 5 h')
    (good : setNE (L.map (·.1)) n = 0 → ∀ h', SAt h' s F P most np n L → SChg F h h' → K 0 h') : m_store_Store_SetNext (some ⟨s, 0, none⟩) n K h := by
  obtain ⟨b, p, sp, st, pgs, tk, os, z, rfl, rfl, e3, e4⟩ := x.ex
  have em : (absS pgs os).map (·.1) = os.map (·.id) := by unfold absS; rw [List.map_map]; rfl
  rw [em] at bad good
  exact t_SSetNext0 z bad fun e h' z' bt d => good e h' ⟨b, p, sp, st, pgs, tk, os, z', rfl, rfl, e3, e4⟩ ⟨bt.mono fun c q => (e3 c).2 (.inl q), d⟩
end
end Go.Proofs.Yteeaelemfalkbaa.K
