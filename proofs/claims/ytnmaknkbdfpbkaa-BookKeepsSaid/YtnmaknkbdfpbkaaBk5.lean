/- What the book tells; a program that does nothing falls; lists compared. -/
import Derived.Test.YtnmaknkbdfpbkaaBk4
namespace Go.Proofs.Ytnmaknkbdfpbkaa.K
open Go
/-- A field of an element is read. -/
theorem w_field {T T' : Type} {cells : T → List Value} {cells' : T' → List Value} {sz : Nat} (hs : ∀ x, (cells x).length = sz) {h : H} {s : Sl} {xs : List T} (x : Arr cells h s xs) {i : Nat} {v : T} (e : xs[i]? = some v) {j : Int} (hj : j = i) {v' : T'} {l1 l3 : List Value} {n : Nat} (hc : cells v = l1 ++ cells' v' ++ l3) (hn : l1.length = n) {k : T' → H → Prop}
    (y : k v' h) : mIdx s j sz (fun a => mLoad cells' (a.add n) k) h := by
  refine w_idx hs x e hj fun a _ ha => w_load (v := v') ?_ y
  rw [hc] at ha
  exact ha.sub hn
theorem cap_eqb (x y : S_api_Cap) : ((decide (x.Obj = y.Obj)) && (((decide (x.Pass.Hi = y.Pass.Hi)) && ((decide (x.Pass.Lo = y.Pass.Lo)) && true)) && true)) = decide (x = y) := cap_iff x y
section
variable {h : H} {o : Own} {p : Nat} {S : BookS} {m : BM} {L : BL}
theorem t_caps24 {a b : Sl} {us vs : List S_api_Cap} (xa : Arr S_api_Cap.cells h a us) (xb : Arr S_api_Cap.cells h b vs) (hn : us.length ≤ 2 ^ 40) {K : Bool → H → Prop} (y : K (decide (us = vs)) h) : m_law24_caps a b K h := by
  have la := xa.len
  have lb := xb.len
  unfold m_law24_caps
  refine w_if (fun c => ?_) fun c => ?_
  · rw [decide_eq_false (fun e => ?_)] at y
    · exact y
    · subst e
      rw [la, lb, decide_eq_true rfl] at c; cases c
  have hl : us.length = vs.length := by
    rw [Bool.not_eq_false', decide_eq_true_eq] at c; omega
  refine w_for us.length (fun j s h' => s = (j : Int) ∧ h = h' ∧ us.take j = vs.take j) ?_ ⟨rfl, rfl, rfl⟩
  rintro rec j _ _ hj ⟨rfl, rfl, ht⟩ more
  refine w_if' (fun c => ?_) fun c => ?_
  · have c : (j : Int) < (a.len : Int) := c
    have e1 : us[j]? = some us[j] := List.getElem?_eq_getElem (by omega)
    have e2 : vs[j]? = some vs[j] := List.getElem?_eq_getElem (by omega)
    generalize us[j] = u at e1
    generalize vs[j] = v at e2
    refine w_idx cap_len xa e1 rfl fun a1 _ h1 => w_idx cap_len xb e2 rfl fun a2 _ h2 => w_load h1 (w_load h2 ?_)
    rw [cap_eqb]
    refine w_if (fun c2 => ?_) fun c2 => ?_
    · have hne : u ≠ v := by rw [Bool.not_eq_true', decide_eq_false_iff_not] at c2; exact c2
      rw [decide_eq_false (fun e => ?_)] at y
      · exact y
      · subst e; rw [e1] at e2; exact hne (Option.some.inj e2)
    · have he : u = v := by rw [Bool.not_eq_false', decide_eq_true_eq] at c2; exact c2
      rw [nxt64 j (by omega)]
      exact more _ _ (by omega) ⟨rfl, rfl, by rw [List.take_add_one, List.take_add_one, e1, e2, ht, he]⟩
  · have c : ¬ (j : Int) < (a.len : Int) := c
    obtain rfl : j = us.length := by omega
    have : us = vs := by
      rw [List.take_length, hl, List.take_length] at ht
      exact ht
    rw [decide_eq_true this] at y
    exact y
def needOf (op : Int) : Int := if op = 2 then 16 else if op = 3 then 4 else if op = 4 then 8 else if op = 5 then 1 else if op = 6 then 2 else 0
theorem t_need {op : Int} {K : Int → H → Prop} (y : K (needOf op) h) : m_book_need op K h := by
  unfold m_book_need
  unfold needOf at y
  refine w_if' (fun c => ?_) fun c => ?_
  · rw [if_pos c] at y; exact y
  rw [if_neg c] at y
  refine w_if' (fun c => ?_) fun c => ?_
  · rw [if_pos c] at y; exact y
  rw [if_neg c] at y
  refine w_if' (fun c => ?_) fun c => ?_
  · rw [if_pos c] at y; exact y
  rw [if_neg c] at y
  refine w_if' (fun c => ?_) fun c => ?_
  · rw [if_pos c] at y; exact y
  rw [if_neg c] at y
  refine w_if' (fun c => ?_) fun c => ?_
  · rw [if_pos c] at y; exact y
  rw [if_neg c] at y
  exact y
def givenOf (c : S_api_Call) : Bool := c.Given || ((!decide (c.Op = 5)) && (!decide (c.Op = 6)))
def brings (c : S_api_Call) : Bool := decide (c.Op = 7) || (!decide (needOf c.Op = 0) && givenOf c)
theorem t_Honest (x : BookAt h o p S m L) {c : S_api_Call} {K : Bool → H → Prop} (y : K (!brings c || (alook S.ways ⟨c.By, c.Cap⟩).isSome) h) : m_book_Book_Honest (some ⟨p, 0, none⟩) c K h := by
  unfold m_book_Book_Honest
  refine w_joinV (brings c) (fun j hj => ?_) ?_
  · unfold brings at hj
    refine w_if (fun c1 => ?_) fun c1 => ?_
    · rw [c1] at hj; exact hj
    rw [c1, Bool.false_or] at hj
    refine w_pure (needOf c.Op) (fun h' k' q => t_need q) ?_
    refine w_if (fun c2 => ?_) fun c2 => ?_
    · rw [c2, Bool.true_and] at hj
      refine w_pure (givenOf c) (fun h' k' q => ?_) hj
      unfold m_book_given; exact q
    · rw [c2, Bool.false_and] at hj; exact hj
  · refine w_if (fun c1 => ?_) fun c1 => ?_
    · rw [c1, Bool.true_or] at y; exact y
    · rw [c1, Bool.false_or] at y; exact t_Told x y
theorem Moved.out {o o' : Own} {h0 h1 h' : H} (k : Keeps h0 h1) (f : ∀ c t, o c = some t → h0 c = none) (mv : Moved (fun _ => True) o o' h1 h') : Keeps h0 h' := fun c z e =>
  mv.mem c z (k c z e) fun t ht => by rw [f c t ht] at e; cases e
theorem t_alive24 {K : Bool → H → Prop} (y : ∀ h', Keeps h h' → K true h') : m_law24_alive K h := by
  unfold m_law24_alive
  refine t_New fun p m h1 o1 x1 f1 k1 => w_ifF rfl ?_
  let a : S_api_Cap := ⟨1, ⟨0, 5⟩⟩
  refine t_NoteCreate x1 rfl rfl (by show (0 : Nat) ≤ _; omega) fun h2 o2 L2 x2 mv2 => ?_
  have s1 : Small 1 (BookS.tell { BookS.step ⟨0, [], [], [], [], []⟩ with live := aset [] a ⟨31, ⟨0, ⟨0, 0⟩⟩, true⟩ } [] ⟨0, 1, 0, 0, a⟩) := Small.tell (k := 0) ⟨fun w l e => (by cases e), fun w l e => (by cases e)⟩ (Nat.le_refl _)
  refine t_NoteAdd x2 rfl rfl (by show (0 : Nat) ≤ _; omega) fun h3 o3 L3 x3 mv3 => ?_
  refine w_new fun b hb => ?_
  have mv4 : Moved (fun _ => False) o3 (tagged o3 (⟨some ⟨b, 0, none⟩, 1, 1⟩ : Sl) none) h3 (upd h3 b (.cells #[Value.int .i64 0] 3 (0, 0))) := Moved.tag (Moved.keeps (.new hb)) fun c ⟨z, hz, e⟩ => by cases hz; cases e; exact .inl hb
  have x4 := x3.moved mv4 fun _ q => q.elim
  have hg : Still (cInt .i64) (upd h3 b (.cells #[Value.int .i64 0] 3 (0, 0))) (tagged o3 (⟨some ⟨b, 0, none⟩, 1, 1⟩ : Sl) none) (⟨some ⟨b, 0, none⟩, 1, 1⟩ : Sl) [0] := ⟨⟨rfl, Nat.le_refl _, fun _ => ⟨_, rfl, At.own (l1 := []) (l2 := flat (cInt .i64) [0]) (l3 := []) (upd_same _ _ _) rfl⟩⟩, fun c f => ⟨tagged_in f, by
    obtain ⟨z, hz, e⟩ := f; cases hz; cases e; rw [upd_same]; simp⟩⟩
  refine t_NoteSpawn x4 rfl rfl hg (k := 1) s1 (by simp) fun h5 o5 L5 x5 mv5 => ?_
  have mv : Moved (fun _ => True) o1 o5 h1 h5 := ((mv2.all.seq mv3).seq mv4).seq mv5
  have K5 : Keeps h h5 := Moved.out k1 f1 mv
  clear mv mv5 mv4 mv3 mv2 x4 x3 x2 x1
  generalize hS : BookS.spawned _ _ _ _ = S5 at x5
  have e1 : alook S5.ways ⟨1, a⟩ = some [⟨1, 1, 0, 0, a⟩, ⟨3, 4, 0, 1, a⟩] := by rw [← hS]; kernel_rfl
  have e2 : alook S5.live a = some ⟨31, ⟨0, ⟨0, 0⟩⟩, true⟩ := by rw [← hS]; kernel_rfl
  have e3 : S5.steps = 3 := by rw [← hS]; kernel_rfl
  have e4 : (alook S5.ways ⟨0, a⟩).isSome = true := by rw [← hS]; kernel_rfl
  have e5 : alook S5.known 1 = some [a] := by rw [← hS]; kernel_rfl
  have e6 : alook S5.ways ⟨2, a⟩ = none := by rw [← hS]; kernel_rfl
  clear hS
  refine t_Way x5 (q := 1) (c := a) (by rw [e1]; simp) fun s h6 bu k6 f6 => ?_
  rw [e1] at bu ⊢
  have x6 := x5.keeps k6
  refine t_Rights x6 (c := a) fun h7 k7 => ?_
  rw [e2]
  have x7 := x6.keeps k7
  have ar := (bu.keep k7).arr
  refine t_Steps x7 ?_
  rw [e3]
  have K7 := (K5.trans k6).trans k7
  refine w_joinV true (fun j hj => ?_) ?_
  · refine w_ifT (by rw [ar.len]; rfl) ?_
    exact w_field link_len ar (i := 1) rfl rfl (v' := (4 : Int)) (l1 := [Value.int .i64 3]) (l3 := [Value.int .i64 0, Value.int .i64 1, Value.int .i64 1, Value.int .u64 0, Value.int .u64 5]) rfl rfl hj
  refine w_joinV true (fun j hj => w_ifT rfl ?_) ?_
  · exact w_field link_len ar (i := 1) rfl rfl (v' := (1 : Int)) (l1 := [Value.int .i64 3, Value.int .i64 4, Value.int .i64 0]) (l3 := [Value.int .i64 1, Value.int .u64 0, Value.int .u64 5]) rfl rfl hj
  refine w_joinV true (fun j hj => w_ifT rfl ?_) ?_
  · exact w_field link_len ar (i := 1) rfl rfl (v' := (3 : Int)) (l1 := []) (l3 := [Value.int .i64 4, Value.int .i64 0, Value.int .i64 1, Value.int .i64 1, Value.int .u64 0, Value.int .u64 5]) rfl rfl hj
  refine w_joinV true (fun j hj => w_ifT rfl (t_Told x7 ?_)) ?_
  · rw [e4]; exact hj
  refine w_joinP (fun s h' => s = true ∧ Keeps h7 h') (fun j hj => w_ifT rfl ?_) ?_
  · refine w_joinP (fun (s : Sl × Sl) h' => Arr S_api_Cap.cells h' s.1 [a] ∧ Arr S_api_Cap.cells h' s.2 [a] ∧ Keeps h7 h') (fun j2 hj2 => ?_) ?_
    · have nw : ∀ {g : H} {b : Nat}, g b = none → Arr S_api_Cap.cells (upd g b (.cells #[(Value.int .i64 1), (Value.int .u64 0), (Value.int .u64 5)] 81 (0, 0))) (⟨some ⟨b, 0, none⟩, 1, 1⟩ : Sl) [a] := fun _ => ⟨rfl, Nat.le_refl _, fun _ => ⟨_, rfl, At.own (l1 := []) (l2 := flat S_api_Cap.cells [a]) (l3 := []) (upd_same _ _ _) rfl⟩⟩
      refine w_both (t_Known x7 (by rw [e5]; simp) fun s h8 b8 k8 f8 => w_new fun b hb => hj2 _ _ ⟨?_, nw hb, k8.trans (.new hb)⟩) (w_new fun b hb => t_Known (x7.keeps (.new hb)) (by rw [e5]; simp) fun s h8 b8 k8 f8 => hj2 _ _ ⟨?_, (nw hb).keep k8, Keeps.trans (.new hb) k8⟩)
      · rw [e5] at b8; exact b8.arr.keep (.new hb)
      · rw [e5] at b8; exact b8.arr
    · rintro ⟨s1, s2⟩ h8 ⟨a1, a2, k8⟩
      refine t_caps24 a1 a2 (by simp) ?_
      rw [decide_eq_true rfl]
      exact hj _ _ ⟨rfl, k8⟩
  rintro _ h8 ⟨rfl, k8⟩
  have x8 := x7.keeps k8
  refine w_joinV true (fun j hj => w_ifT rfl (t_Told x8 ?_)) ?_
  · rw [e6]; exact hj
  refine w_joinV true (fun j hj => w_ifT rfl (t_Honest x8 ?_)) ?_
  · exact hj
  refine w_ifT rfl (t_Honest x8 ?_)
  show K (!(!brings _ || (alook S5.ways ⟨2, a⟩).isSome)) _
  rw [e6]
  exact y _ (K7.trans k8)
end
end Go.Proofs.Ytnmaknkbdfpbkaa.K
