/- The laws of the counter of draws: DrawsInOrder. -/
import Derived.Test.YtnmaknkbdfpbkaaP2
import Derived.Test.YtnmaknkbdfpbkaaF7
namespace Go.Proofs.Ytnmaknkbdfpbkaa.K
open Go

theorem int_len (k : IntKind) : ∀ x, (cInt k x).length = 1 := fun _ => rfl
theorem t_DrawsInOrder {h : H} {a0 a2 : Sl} {a1 : Int} {ws0 : List S_api_Word} {xs : List Int} {K : Bool → H → Prop} (ha0 : Arr S_api_Word.cells h a0 ws0) (ha2 : Arr (cInt .i64) h a2 xs) (hcap : a2.cap ≤ 9223372036854775807)
    (k : ∀ h', Keeps h h' → K true h') : m_law04_DrawsInOrder a0 a1 a2 K h := by
  unfold m_law04_DrawsInOrder
  obtain ⟨wd, hwd, hw1, hw2⟩ := width a1
  rw [hwd]
  refine w_joinP (fun s1 h' => h = h' ∧ ∃ ws, Arr S_api_Word.cells h s1 ws ∧ ws.length ≤ 4096) (fun rest hr => ?_) ?_
  · refine w_if' (fun c => ?_) fun c => ?_
    · refine w_take ha0 (n := 4096) (by have := ha0.len; omega) rfl rfl fun s1 hs _ _ => hr _ _ ⟨rfl, _, hs, by rw [List.length_take]; omega⟩
    · exact hr _ _ ⟨rfl, _, ha0, by have := ha0.len; omega⟩
  rintro s1 _ ⟨rfl, ws, ha, hlen⟩
  have hl := ha.len
  refine t_draws_New ha (fun e => absurd e (by omega)) (fun _ _ e => absurd e (by omega)) fun _ _ _ p q h1 k1 d1 fd => ?_
  refine w_join (t_law04_known fun h2 k2 => w_ifF rfl (w_ifF rfl (w_ifF rfl ?_)))
  have fr : h p.block = none := fd _ (.inl rfl)
  have ml : (ws.map (cutW wd)).length = ws.length := List.length_map ..
  have hx := ha2.len
  have hxc := ha2.cap
  refine w_loop (fun i : Int => xs.length + 1 - (i + 1).toNat) (fun i h' => -1 ≤ i ∧ i ≤ xs.length ∧ ∃ n, DrawsAt h' p q (ws.map (cutW wd)) n ∧ Keeps h h' ∧ (i < 0 → n = 0)) ?_ ⟨by omega, by omega, 0, d1.keep k2, k1.trans k2, fun _ => rfl⟩
  rintro rec9 i h3 ⟨hi0, hi1, n, d3, k3, hn⟩ ih
  refine w_joinP (fun b h' => h3 = h' ∧ (b = true → i < xs.length)) (fun rest hr => ?_) ?_
  · refine w_if' (fun c => hr _ _ ⟨rfl, fun _ => by omega⟩) fun c => hr _ _ ⟨rfl, fun e => by cases e⟩
  rintro b _ ⟨rfl, hb⟩
  refine w_if (fun e => ?_) fun _ => k _ k3
  have hi2 := hb e
  have next : ∀ (h' : H) (m : Nat), DrawsAt h' p q (ws.map (cutW wd)) m → Keeps h h' → rec9 (iAdd .i64 i 1) h' := fun h' m d kk => by
    rw [iAdd_eq (by omega) (by omega)]
    exact ih _ _ ⟨by omega, by omega, m, d, kk, fun _ => by omega⟩ (by omega)
  refine w_joinP (fun m h' => ∃ j : Nat, m = (j : Int) ∧ DrawsAt h' p q (ws.map (cutW wd)) j ∧ Keeps h h') (fun rest hr => ?_) ?_
  · refine w_if' (fun c => ?_) fun c => ?_
    · refine t_Taken d3 ?_
      obtain ⟨ii, rfl⟩ := Int.eq_ofNat_of_zero_le c
      have hii : ii < xs.length := by omega
      have hget : xs[ii]? = some xs[ii] := List.getElem?_eq_getElem hii
      refine w_idx (int_len .i64) (ha2.keep k3) hget rfl fun x _ hax => w_load hax ?_
      refine t_Skip d3 (fun bad => ?_) fun j h4 hj hjl b4 d4 m4 => ?_
      · refine w_join ?_
        refine w_idx (int_len .i64) (ha2.keep k3) hget rfl fun x _ hax => w_load hax ?_
        refine w_if' (fun c0 => ?_) fun c0 => ?_
        · refine w_idx (int_len .i64) (ha2.keep k3) hget rfl fun x _ hax => w_load hax ?_
          have : ¬ xs[ii] ≤ (s1.len : Int) := by omega
          refine w_ifF (by simp [this]) (w_ifT (by decide) (w_ifF (by decide) (w_ifF (by decide) ?_)))
          exact hr _ _ ⟨n, rfl, d3, k3⟩
        · refine w_ifF (by decide) (w_ifT (by decide) (w_ifF (by decide) (w_ifF (by decide) ?_)))
          exact hr _ _ ⟨n, rfl, d3, k3⟩
      · have k4 : Keeps h h4 := k3.but b4 fun _ e => by rw [e]; exact fr
        refine w_join ?_
        refine w_idx (int_len .i64) (ha2.keep k4) hget rfl fun x _ hax => w_load hax ?_
        refine w_ifT (by simp; omega) ?_
        refine w_idx (int_len .i64) (ha2.keep k4) hget rfl fun x _ hax => w_load hax ?_
        have : xs[ii] ≤ (s1.len : Int) := by omega
        refine w_ifF (by simp [this]) (w_ifF (by decide) (w_ifF rfl (w_ifT (by decide) ?_)))
        refine w_idx (int_len .i64) (ha2.keep k4) hget rfl fun x _ hax => w_load hax ?_
        exact hr _ _ ⟨j, hj, d4, k4⟩
    · refine hr _ _ ⟨0, rfl, ?_, k3⟩
      have := hn (by omega)
      subst this; exact d3
  rintro _ h4 ⟨j, rfl, d4, k4⟩
  refine w_loop (fun s : Int × Int => ws.length - s.1.toNat) (fun s h' => ∃ m : Nat, s.1 = (m : Int) ∧ DrawsAt h' p q (ws.map (cutW wd)) m ∧ Keeps h h') ?_ ⟨j, rfl, d4, k4⟩
  rintro rec16 ⟨s, c⟩ h5 ⟨m, rfl, d5, k5⟩ ih2
  have hm : m ≤ ws.length := by have := d5.le; omega
  refine w_joinP (fun _ h' => h5 = h') (fun rest hr => w_if' (fun _ => hr _ _ rfl) fun _ => hr _ _ rfl) ?_
  rintro b _ rfl
  refine w_if (fun _ => ?_) fun _ => next _ _ d5 k5
  refine w_join (t_Taken d5 (w_ifF (by simp) (t_Left d5 (w_ifF ?_ ?_))))
  · rw [ml, iSub_eq (by omega) (by omega)]
    simp; omega
  · refine t_Draw d5 (fun e => ?_) fun w h6 hw b6 d6 m6 => ?_
    · refine w_ifT (by simp; omega) (w_join (w_ifF (by decide) (w_ifF (by decide) ?_)))
      exact next _ _ d5 k5
    · have k6 : Keeps h h6 := k5.but b6 fun _ e => by rw [e]; exact fr
      have hm' : m < ws.length := by have := lt_of_get hw; omega
      rw [List.getElem?_map, List.getElem?_eq_getElem hm'] at hw
      obtain rfl := Option.some.inj hw
      refine w_ifF (by simp; omega) (w_join (w_ifF rfl ?_))
      refine w_idx word_len (ha.keep k6) (List.getElem?_eq_getElem hm') rfl fun x _ hax => w_load hax ?_
      refine w_pure _ (fun _ _ q => t_law04_cut hw1 hw2 q) (w_ifF (eqw _) ?_)
      show rec16 ((iAdd .i64 (m : Int) 1), _) h6
      rw [iAdd_eq (by omega) (by omega)]
      exact ih2 _ _ ⟨m + 1, rfl, d6, k6⟩ (by show ws.length - ((m : Int) + 1).toNat < ws.length - (m : Int).toNat; omega)
end Go.Proofs.Ytnmaknkbdfpbkaa.K
