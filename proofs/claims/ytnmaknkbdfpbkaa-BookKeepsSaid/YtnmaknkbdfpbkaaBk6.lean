/- Known and Way are new memory. -/
import Derived.Test.YtnmaknkbdfpbkaaBk5
namespace Go.Proofs.Ytnmaknkbdfpbkaa.K
open Go
theorem u64_len : ∀ x : Int, (cInt .u64 x).length = 1 := fun _ => rfl
def capK (i : Nat) (w : Int) : S_api_Cap := ⟨((i + 1 : Nat) : Int), ⟨0, w⟩⟩
def capsK (ws : List Int) : List S_api_Cap := (ws.take 20).zipIdx.map fun p => capK p.2 p.1
theorem capsK_get {ws : List Int} {j : Nat} {w : Int} (e : ws[j]? = some w) (hj : j < 20) : (capsK ws)[j]? = some (capK j w) := by
  simp [capsK, List.getElem?_take_of_lt hj, e]
theorem capsK_len (ws : List Int) : (capsK ws).length = min 20 ws.length := by simp [capsK]
theorem capsK_obj {ws : List Int} {i : Nat} {c : S_api_Cap} (e : (capsK ws)[i]? = some c) : c.Obj = ((i + 1 : Nat) : Int) := by
  simp only [capsK, List.getElem?_map, List.getElem?_zipIdx, Option.map_map] at e
  cases q : (ws.take 20)[i]? with
  | none => rw [q] at e; simp at e
  | some w => rw [q] at e; simp at e; rw [← e]; simp [capK]
theorem capsK_new {ws : List Int} {j : Nat} {c : S_api_Cap} (e : (capsK ws)[j]? = some c) : c ∉ (capsK ws).take j := fun hm => by
  obtain ⟨i, hi⟩ := List.mem_iff_getElem?.1 hm
  have hlt : i < j := by have := lt_of_get hi; rw [List.length_take] at this; omega
  rw [List.getElem?_take_of_lt hlt] at hi
  have h1 := capsK_obj hi
  have h2 := capsK_obj e
  omega
/-- The book behind so many creates. -/
structure Heard (cs : List S_api_Cap) (j : Nat) (S : BookS) : Prop where
  steps : S.steps = (j : Int)
  known : (alook S.known 0).getD [] = cs.take j
  has : ∀ i c, i < j → cs[i]? = some c → alook S.ways ⟨0, c⟩ = some [⟨((i + 1 : Nat) : Int), 1, 0, 0, c⟩]
  no : ∀ c, c ∉ cs.take j → alook S.ways ⟨0, c⟩ = none
theorem Heard.next {cs : List S_api_Cap} {j : Nat} {S : BookS} (x : Heard cs j S) (hj : j < 2 ^ 40) {c : S_api_Cap} (e : cs[j]? = some c) (hn : c ∉ cs.take j) (l : List (S_api_Cap × S_book_token)) : Heard cs (j + 1) (BookS.tell { S.step with live := l } [] ⟨0, 1, 0, 0, c⟩) := by
  have h0 : alook S.ways ⟨0, c⟩ = none := x.no c hn
  have hst : S.step.steps = ((j + 1 : Nat) : Int) := by
    show iAdd .i64 S.steps 1 = _
    rw [x.steps, nxt64 j (by omega)]
  have ht : cs.take (j + 1) = cs.take j ++ [c] := by rw [List.take_add_one, e]; rfl
  unfold BookS.tell
  rw [if_neg (by show ¬ (alook S.ways ⟨0, c⟩).isSome = true; rw [h0]; simp)]
  refine ⟨hst, ?_, fun i d hi ed => ?_, fun d hd => ?_⟩
  · show (alook (aset S.known 0 ((alook S.known 0).getD [] ++ [c])) 0).getD [] = _
    rw [alook_set, if_pos rfl, ht, x.known]; rfl
  · show alook (aset S.ways ⟨0, c⟩ ([] ++ [⟨S.step.steps, 1, 0, 0, c⟩])) ⟨0, d⟩ = _
    rw [alook_set, hst]
    by_cases q : i = j
    · subst q
      rw [e] at ed; cases ed
      rw [if_pos rfl]; rfl
    · have hd : d ∈ cs.take j := by
        rw [List.mem_iff_getElem?]
        exact ⟨i, by rw [List.getElem?_take_of_lt (by omega)]; exact ed⟩
      rw [if_neg (fun z => hn (by injection z with _ z; rw [← z]; exact hd))]
      exact x.has i d (by omega) ed
  · show alook (aset S.ways ⟨0, c⟩ ([] ++ [⟨S.step.steps, 1, 0, 0, c⟩])) ⟨0, d⟩ = _
    rw [ht, List.mem_append, not_or, List.mem_singleton] at hd
    rw [alook_set, if_neg (fun z => hd.2 (by injection z))]
    exact x.no d hd.1
theorem t_BookKeeps {h : H} {s : Sl} {ws : List Int} (a : Arr (cInt .u64) h s ws) {K : Bool → H → Prop} (y : ∀ h', Keeps h h' → K true h') : m_law24_BookKeeps s K h := by
  have hal := a.len
  unfold m_law24_BookKeeps
  refine t_New fun p m h1 o1 x1 f1 k1 => ?_
  refine w_joinP (fun z h' => z = false ∧ Keeps h1 h') (fun j hj => w_ifF rfl (t_alive24 fun h' k' => hj _ _ ⟨rfl, k'⟩)) ?_
  rintro _ h2 ⟨rfl, k2⟩
  refine w_ifF rfl ?_
  have x2 := x1.keeps k2
  have k12 := k1.trans k2
  clear k1 k2 x1
  generalize hcs : capsK ws = cs
  have hcl : cs.length = min 20 ws.length := by rw [← hcs]; exact capsK_len ws
  have hobj : ∀ i c, cs[i]? = some c → c.Obj = ((i + 1 : Nat) : Int) := fun i c e => by rw [← hcs] at e; exact capsK_obj e
  refine w_for cs.length (fun j z h' => z.2 = (j : Int) ∧ ∃ S o' L, BookAt h' o' p S m L ∧ Heard cs j S ∧ Moved (fun _ => True) o1 o' h2 h' ∧ Buf S_api_Cap.cells 3 N_api_Cap h' z.1 (cs.take j) ∧ ∀ c, z.1.foot c → o' c = some .scratch) ?_ ⟨rfl, _, o1, _, x2, ⟨rfl, rfl, fun i c q => by omega, fun c _ => rfl⟩, .refl _ _ _, Buf.nil, fun c ⟨a, ha, _⟩ => by cases ha⟩
  rintro rec j ⟨z1, _⟩ h3 hj ⟨rfl, S, o3, L3, x3, he, mv3, bu3, fo3⟩ more
  refine w_if (fun c => ?_) fun c => ?_
  · have c : (decide ((j : Int) < (s.len : Int)) && decide ((j : Int) < 20)) = true := c
    rw [Bool.and_eq_true, decide_eq_true_eq, decide_eq_true_eq] at c
    have hlt : j < cs.length := by omega
    have ew : ws[j]? = some ws[j] := List.getElem?_eq_getElem (by omega)
    generalize ws[j] = w at ew
    have ec : cs[j]? = some (capK j w) := by rw [← hcs]; exact capsK_get ew (by omega)
    have hn : capK j w ∉ cs.take j := by rw [← hcs] at ec ⊢; exact capsK_new ec
    refine w_get u64_len (a.keep (Moved.out k12 f1 mv3)) ew rfl (v' := w) rfl ?_
    have en : iAdd .i64 (j : Int) 1 = ((j + 1 : Nat) : Int) := nxt64 j (by omega)
    have hl3 : (cs.take j).length = j := by rw [List.length_take]; omega
    show mApp _ _ _ _ _ [Value.int .i64 (iAdd .i64 (j : Int) 1), _, _] _ _ _
    rw [en]
    refine w_app cap_len rfl bu3 [capK j w] (by simp [flat, S_api_Cap.cells, capK]) rfl (.inl (by simp only [List.length_singleton]; omega)) fun z2 h4 bu4 b4 f4 d4 => ?_
    have mvA : Moved (· = .scratch) o3 (tagged o3 z2 (some .scratch)) h3 h4 := Moved.tag (T := (· = .scratch)) ⟨fun c z e nt => b4 c z e fun f => nt _ (fo3 c f) rfl, fun _ _ _ => rfl, d4⟩ fun c f => (f4 c f).symm.imp id (fo3 c)
    have x4 := x3.moved mvA fun _ q => q
    have fo4 : ∀ c, z2.foot c → tagged o3 z2 (some .scratch) c = some .scratch := fun c f => tagged_in f
    refine t_NoteCreate x4 rfl rfl (by show ((alook S.known 0).getD []).length ≤ _; rw [he.known]; omega) fun h5 o5 L5 x5 mv5 => ?_
    refine more _ _ hlt ⟨rfl, _, o5, L5, x5, ?_, (mv3.seq mvA).seq mv5, ?_, fun c f => ?_⟩
    · exact he.next (by omega) ec hn _
    · rw [List.take_add_one, ec, Option.toList_some]
      exact bu4.moved mv5 fun c f t e => by rw [fo4 c f] at e; cases e; exact fun z => z rfl
    · exact (mv5.own c (bu4.has f) fun t e => by rw [fo4 c f] at e; cases e; exact fun z => z rfl).trans (fo4 c f)
  have c : (decide ((j : Int) < (s.len : Int)) && decide ((j : Int) < 20)) = false := c
  obtain rfl : j = cs.length := by
    rw [Bool.and_eq_false_iff, decide_eq_false_iff_not, decide_eq_false_iff_not] at c; omega
  clear more c rec
  have k3 : Keeps h h3 := Moved.out k12 f1 mv3
  have hkn : (alook S.known 0).getD [] = cs := by rw [he.known, List.take_length]
  rw [List.take_length] at bu3
  clear mv3 x2 k12 f1
  have room : ((alook S.known 0).getD []).length ≤ 2 ^ 40 := by rw [hkn]; omega
  refine t_Known x3 room fun s1 h4 bu4 k4 f4 => ?_
  rw [hkn] at bu4
  have mv4 : Moved (fun _ => False) o3 (tagged o3 s1 (some .scratch)) h3 h4 := Moved.tag (Moved.keeps k4) fun c f => .inl (f4 c f)
  have x4 := x3.moved mv4 fun _ q => q.elim
  have fo4 : ∀ c, s1.foot c → tagged o3 s1 (some .scratch) c = some .scratch := fun c f => tagged_in f
  revert x4 fo4
  generalize tagged o3 s1 (some .scratch) = o4
  intro x4 fo4
  clear mv4
  refine t_Known x4 room fun s2 h5 bu5 k5 f5 => ?_
  rw [hkn] at bu5
  have x5 := x4.keeps k5
  have d1 : ∀ c, z1.foot c → ¬ s1.foot c := fun c f q => bu3.has f (f4 c q)
  have d2 : ∀ c, s2.foot c → ¬ s1.foot c := fun c f q => bu4.has q (f5 c f)
  have buA := (bu3.keep k4).keep k5
  have hcn : cs.length ≤ 2 ^ 40 := by omega
  refine t_caps24 (bu4.keep k5).arr buA.arr hcn ?_
  rw [decide_eq_true rfl]
  refine w_joinV false (fun j hj => w_ifF rfl (t_caps24 bu5.arr buA.arr hcn ?_)) ?_
  · rw [decide_eq_true rfl]; exact hj
  refine w_ifF rfl ?_
  have l1 := bu4.len
  refine w_for cs.length (fun i z h' => z = (i : Int) ∧ But s1.foot h5 h' ∧ (∀ c, h' c = none → h5 c = none) ∧ ∃ xs, xs.length = cs.length ∧ Buf S_api_Cap.cells 3 N_api_Cap h' s1 xs) ?_ ⟨rfl, .refl _ _, fun _ e => e, cs, rfl, bu4.keep k5⟩
  rintro rec i _ h6 hi ⟨rfl, b6, dm6, xs, hxs, bu6⟩ more
  refine w_if' (fun c => ?_) fun c => ?_
  · have c : (i : Int) < (s1.len : Int) := c
    refine w_put cap_len bu6 (i := i) (by omega) rfl (⟨-1, ⟨0, 0⟩⟩ : S_api_Cap) rfl fun h7 bu7 b7 dm7 => ?_
    rw [nxt64 i (by omega)]
    exact more _ _ (by omega) ⟨rfl, b6.trans b7 fun _ f => .inl f, fun c e => dm6 c (dm7 c e), _, by rw [List.length_set]; exact hxs, bu7⟩
  clear more c rec
  refine w_for 30 (fun i z h' => z.2 = (i : Int) ∧ But s1.foot h5 h' ∧ (∀ c, h' c = none → h5 c = none) ∧ (∀ c, z.1.foot c → s1.foot c ∨ h5 c = none) ∧ ∃ xs, xs.length = cs.length + i ∧ Buf S_api_Cap.cells 3 N_api_Cap h' z.1 xs) ?_ ⟨rfl, b6, dm6, fun _ f => .inl f, xs, by rw [hxs]; rfl, bu6⟩
  clear b6 dm6 bu6 hxs hi
  rintro rec i ⟨y1, _⟩ h6' hi ⟨rfl, b6, dm6, fy, xs, hxs, bu6⟩ more
  refine w_if' (fun c => ?_) fun c => ?_
  · have c : (i : Int) < 30 := c
    refine w_app cap_len rfl bu6 [(⟨-1, ⟨0, 0⟩⟩ : S_api_Cap)] rfl rfl (.inl (by simp only [List.length_singleton]; omega)) fun s7 h7 bu7 b7 f7 dm7 => ?_
    refine more _ _ (by omega) ⟨nxt64 i (by omega), b6.trans b7 fun n f => fy n f, fun c e => dm6 c (dm7 c e), fun c f => ?_, _, by rw [List.length_append, List.length_singleton, hxs]; omega, bu7⟩
    rcases f7 c f with q | q
    · exact fy c q
    · exact .inr (dm6 c q)
  clear more c rec bu6 fy hxs
  have buA6 : Buf S_api_Cap.cells 3 N_api_Cap h6' z1 cs := buA.but b6 fun a ha f => d1 _ ⟨a, ha, rfl⟩ f
  have bu6 : Buf S_api_Cap.cells 3 N_api_Cap h6' s2 cs := bu5.but b6 fun a ha f => d2 _ ⟨a, ha, rfl⟩ f
  have x6 : BookAt h6' o4 p S m L3 := x5.moved (T := (· = .scratch)) ⟨fun c z e nt => b6 c z e fun f => nt _ (fo4 c f) rfl, fun _ _ _ => rfl, dm6⟩ fun _ q => q
  have k6 : Keeps h h6' := k3.trans (Keeps.but (k4.trans k5) b6 f4)
  clear b6 dm6 x5 x4 x3 bu5 bu4 bu3 buA k3 k4 k5 f4 f5 fo3 fo4 d1 d2
  refine t_caps24 bu6.arr buA6.arr hcn ?_
  rw [decide_eq_true rfl]
  refine w_joinP (fun z h' => z = false ∧ Keeps h6' h') (fun j hj => w_ifF rfl (t_Known x6 room fun s8 h8 bu8 k8 f8 => ?_)) ?_
  · rw [hkn] at bu8
    refine t_caps24 bu8.arr (buA6.keep k8).arr hcn ?_
    rw [decide_eq_true rfl]
    exact hj _ _ ⟨rfl, k8⟩
  rintro _ h8 ⟨rfl, k8⟩
  refine w_ifF rfl ?_
  have lA := buA6.len
  refine w_for cs.length (fun i z h' => z = (i : Int) ∧ Keeps h6' h') ?_ ⟨rfl, k8⟩
  clear k8
  rintro rec i _ h9 hi ⟨rfl, k9⟩ more
  refine w_if' (fun c => ?_) fun c => ?_
  · have c : (i : Int) < (z1.len : Int) := c
    have hlt : i < cs.length := by omega
    have ec : cs[i]? = some cs[i] := List.getElem?_eq_getElem hlt
    generalize cs[i] = ci at ec
    have ew := he.has i ci hlt ec
    have x9 := x6.keeps k9
    have ar9 := (buA6.keep k9).arr
    have rm : ((alook S.ways ⟨0, ci⟩).getD []).length ≤ 2 ^ 40 := by rw [ew]; simp
    refine w_get cap_len ar9 ec rfl (v' := ci) rfl (t_Way x9 rm fun v h10 bv k10 fv => ?_)
    rw [ew] at bv ⊢
    have x10 := x9.keeps k10
    refine w_get cap_len (ar9.keep k10) ec rfl (v' := ci) rfl (t_Way x10 rm fun w h11 bw k11 fw => ?_)
    rw [ew] at bw ⊢
    have dvw : ∀ c, w.foot c → ¬ v.foot c := fun c f q => bv.has q (fw c f)
    have lv := bv.len
    have lw := bw.len
    refine w_ifF (by
      show (((false || false) || (!decide ((v.len : Int) = 1))) || (!decide ((w.len : Int) = 1))) = false
      rw [lv, lw]; rfl) ?_
    refine w_put link_len (bv.keep k11) (i := 0) (Nat.zero_lt_one) rfl (⟨-9, 0, 0, 0, ⟨0, ⟨0, 0⟩⟩⟩ : S_book_Link) rfl fun h12 b12 u12 d12 => ?_
    refine w_app link_len rfl b12 [(⟨-9, 0, 0, 0, ⟨0, ⟨0, 0⟩⟩⟩ : S_book_Link), ⟨-9, 0, 0, 0, ⟨0, ⟨0, 0⟩⟩⟩] rfl rfl (.inl (by simp)) fun s13 h13 b13 u13 f13 d13 => ?_
    have l13 := b13.len
    have u : But v.foot h11 h13 := u12.trans u13 fun _ f => .inl f
    have k13 : Keeps h9 h13 := Keeps.but (k10.trans k11) u fv
    have bw13 : Buf S_book_Link.cells 7 N_book_Link h13 w [⟨((i + 1 : Nat) : Int), 1, 0, 0, ci⟩] := bw.but u fun a ha f => dvw _ ⟨a, ha, rfl⟩ f
    have ar13 := ar9.keep k13
    refine w_joinV false (fun j hj => w_ifF (by rw [l13]; rfl) ?_) ?_
    · refine w_field link_len bw13.arr (i := 0) rfl rfl (v' := ((i + 1 : Nat) : Int)) (l1 := []) (l3 := (S_book_Link.cells ⟨((i + 1 : Nat) : Int), 1, 0, 0, ci⟩).drop 1) rfl rfl ?_
      rw [nxt64 i (by omega), decide_eq_true rfl]
      exact hj
    refine w_joinV false (fun j hj => w_ifF rfl ?_) ?_
    · refine w_idx link_len bw13.arr (i := 0) rfl rfl fun a1 _ hA => w_idx cap_len ar13 ec rfl fun a2 _ hB => ?_
      refine w_load (v := ci) ?_ (w_load hB ?_)
      · exact At.sub (l1 := [Value.int .i64 ((i + 1 : Nat) : Int), Value.int .i64 1, Value.int .i64 0, Value.int .i64 0]) (l2 := S_api_Cap.cells ci) (l3 := []) (by rw [List.append_nil]; exact hA) rfl
      · rw [cap_eqb, decide_eq_true rfl]; exact hj
    refine w_ifF rfl ?_
    have x13 := x9.keeps k13
    refine w_get cap_len ar13 ec rfl (v' := ci) rfl (t_Way x13 rm fun u14 h14 b14 k14 f14 => ?_)
    rw [ew] at b14 ⊢
    have l14 := b14.len
    refine w_joinV false (fun j hj => w_ifF (by show (!decide ((u14.len : Int) = 1)) = false; rw [l14]; rfl) ?_) ?_
    · refine w_idx link_len b14.arr (i := 0) rfl rfl fun a1 _ hA => w_idx link_len (bw13.keep k14).arr (i := 0) rfl rfl fun a2 _ hB => ?_
      refine w_load hA (w_load hB ?_)
      simp only [decide_true, Bool.and_self, Bool.not_true]
      exact hj
    refine w_ifF rfl ?_
    rw [nxt64 i (by omega)]
    exact more _ _ hlt ⟨rfl, (k9.trans k13).trans k14⟩
  · exact y _ (k6.trans k9)
end Go.Proofs.Ytnmaknkbdfpbkaa.K
